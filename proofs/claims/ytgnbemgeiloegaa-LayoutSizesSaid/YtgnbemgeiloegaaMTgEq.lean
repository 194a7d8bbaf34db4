import Derived.Test.YtgnbemgeiloegaaMTgU
namespace Go.Proofs.Ytgnbemgeiloegaa.Tg
open Go.RowKit
open Go.Proofs.YtgnbemgeiloegaaW.PrintWords Go.Proofs.YtgnbemgeiloegaaW.PrintLast Go.Proofs.YtgnbemgeiloegaaW.PrintMore
set_option linter.unusedVariables false
set_option linter.unusedSimpArgs false
open Go.Proofs.Ytgnbemgeiloegaa.PTypesGoods (S40 S42 S47 k40 k42 k47 rd_T40 rd_T42 rd_T47 at_T40 at_T42 at_T47)
section
variable {t : List S40}
def Forms (t : List S40) : Prop := ∀ i : Int, 0 ≤ i → i < t.length → 0 ≤ (rd_T40 t i).f0 ∧ (rd_T40 t i).f0 ≤ 11
theorem holds_part (h : Forms t) (i : Int) : holdsP t i = partP (form t i) := by
 by_cases e : 0 ≤ i ∧ i < (t.length : Int)
 ·
  have hf : form t i = (rd_T40 t i).f0 := if_pos e
  obtain ⟨f1, f2⟩ := h i e.1 e.2
  rw [← hf] at f1 f2
  unfold holdsP partP placeP
  rw [Bool.eq_iff_iff]
  simp only [Bool.and_eq_true, decide_eq_true_eq]
  omega
 ·
  have hf : form t i = -1 := if_neg e
  unfold holdsP partP placeP
  rw [hf, decide_eq_false e]
  rfl
theorem place_form (i k : Int) (hk : 0 ≤ k) : (placeP t i && decide (form t i = k)) = decide (form t i = k) := by
 by_cases e : 0 ≤ i ∧ i < (t.length : Int)
 ·
  unfold placeP
  rw [decide_eq_true e, Bool.true_and]
 ·
  have hf : form t i = -1 := if_neg e
  rw [hf, decide_eq_false (by omega), Bool.and_false]
theorem par_is (h : Forms t) (i : Int) : parP t i = (partP (form t i) || decide (form t i = 8)) := by
 unfold parP
 rw [holds_part h, place_form _ _ (by omega)]
theorem res_is (h : Forms t) (i : Int) : resP t i = (decide (i = 0) || plainP (form t i)) := by
 unfold resP
 rw [holds_part h]
 congr 1
 unfold partP plainP
 rw [Bool.eq_iff_iff]
 simp only [Bool.and_eq_true, decide_eq_true_eq]
 omega
theorem nul_name {s : ByteArray} (h : nul s = true) : isName s = false := by
 unfold nul at h
 rw [empty_iff] at h
 have := of_decide_eq_true h
 simp [isName, this]
theorem names_is {x : S40} (h9 : x.f0 ≠ 9) : (!(nul x.f1 != nul x.f2) && !bad4 x) = namedP x := by
 unfold bad4 namedP
 rw [decide_eq_true h9, decide_eq_false (fun h => h9 h)]
 cases n1 : nul x.f1 <;> cases n2 : nul x.f2 <;> cases i1 : isName x.f1 <;> cases i2 : isName x.f2 <;> simp <;>
  first
  | (rw [nul_name n1] at i1; cases i1)
  | (rw [nul_name n2] at i2; cases i2)
theorem names_rec {x : S40} (h9 : x.f0 = 9) : (!nul x.f1 && !bad4 x) = namedP x := by
 unfold bad4 namedP
 rw [decide_eq_true h9, decide_eq_false (fun h => h h9)]
 cases n1 : nul x.f1 <;> cases n2 : nul x.f2 <;> cases i1 : isName x.f1 <;> cases i2 : isName x.f2 <;> simp <;>
  first
  | (rw [nul_name n1] at i1; cases i1)
  | (rw [nul_name n2] at i2; cases i2)
theorem wants_is (x : S40) (hf : x.f0 = 7 ∨ x.f0 = 8 ∨ x.f0 = 9 ∨ x.f0 = 10 ∨ x.f0 = 11) : bad6 x = false ↔
 x.f3 = (wantP x).f3 ∧ x.f4 = (wantP x).f4 ∧ x.f5 = (wantP x).f5 ∧ x.f8 = (wantP x).f8 ∧ x.f6.length = (wantP x).f6.length ∧ x.f7.length = (wantP x).f7.length := by
 unfold bad6 wantP
 rcases hf with e | e | e | e | e <;> (simp [e]; try (constructor <;> (intro h; simp_all)))
theorem case_is (h : Forms t) (a : Int) (x : S40) (h9 : x.f0 ≠ 9) : caseP t a x = okP t x := by
 unfold caseP okP
 by_cases e7 : x.f0 = 7
 · rw [if_pos e7, if_pos e7, holds_part h]
 rw [if_neg e7, if_neg e7]
 by_cases e8 : x.f0 = 8
 · rw [if_pos e8, if_pos e8, holds_part h, place_form _ _ (by omega)]
 rw [if_neg e8, if_neg e8, if_neg h9, if_neg h9]
 by_cases e10 : x.f0 = 10
 · rw [if_pos e10, if_pos e10, place_form _ _ (by omega)]
 rw [if_neg e10, if_neg e10]
 by_cases e11 : x.f0 = 11
 ·
  rw [if_pos e11, if_pos e11, res_is h]
  unfold proc1P parsP parsQ
  have : (fun p : S47 => parP t p.f1) = fun p => partP (form t p.f1) || decide (form t p.f1 = 8) := by funext p; exact par_is h p.f1
  rw [this]
  cases x.f7.all _ <;> simp
 rw [if_neg e11, if_neg e11]
theorem formed_iff (x : S40) : formedP t x = true ↔ okP t x = true ∧ namedP x = true ∧ x.f9 = (wantP x).f9 ∧ x.f3 = (wantP x).f3 ∧ x.f4 = (wantP x).f4 ∧ x.f5 = (wantP x).f5 ∧ x.f8 = (wantP x).f8 ∧ x.f6.length = (wantP x).f6.length ∧ x.f7.length = (wantP x).f7.length := by
 refine ⟨formed_parts, fun ⟨h1, h2, h3, h4, h5, h6, h7, h8, h9⟩ => ?_⟩
 unfold formedP
 simp only [Bool.and_eq_true, decide_eq_true_eq]
 exact ⟨h1, h2, h3, h4, h5, h6, h7, h8, h9⟩
theorem one_iff (a : Int) (x : S40) : oneX t a x = true ↔ bad2 x = false ∧ bad4 x = false ∧ bad6 x = false ∧ caseP t a x = true := by
 unfold oneX
 cases bad2 x <;> cases bad4 x <;> cases bad6 x <;> cases caseP t a x <;> simp
theorem case_form {a : Int} {x : S40} (h : caseP t a x = true) : x.f0 = 7 ∨ x.f0 = 8 ∨ x.f0 = 9 ∨ x.f0 = 10 ∨ x.f0 = 11 := by
 by_cases h7 : x.f0 = 7
 · exact .inl h7
 by_cases h8 : x.f0 = 8
 · exact .inr (.inl h8)
 by_cases h9 : x.f0 = 9
 · exact .inr (.inr (.inl h9))
 by_cases h10 : x.f0 = 10
 · exact .inr (.inr (.inr (.inl h10)))
 by_cases h11 : x.f0 = 11
 · exact .inr (.inr (.inr (.inr h11)))
 ·
  unfold caseP at h
  rw [if_neg h7, if_neg h8, if_neg h10, if_neg h9, if_neg h11] at h
  cases h
theorem plain_one (h : Forms t) (a : Int) (x : S40) (h9 : x.f0 ≠ 9) : oneX t a x = true ↔ formedP t x = true := by
 rw [one_iff, formed_iff, case_is h a x h9, ← names_is h9]
 have hb2 : bad2 x = (decide (x.f9 ≠ 0) || (nul x.f1 != nul x.f2)) := by
  unfold bad2
  rw [decide_eq_true h9, decide_eq_false h9]
  simp
 have hw : (wantP x).f9 = 0 := if_neg h9
 rw [hb2, hw]
 constructor
 ·
  rintro ⟨h1, h2, h3, h4⟩
  have hf : x.f0 = 7 ∨ x.f0 = 8 ∨ x.f0 = 9 ∨ x.f0 = 10 ∨ x.f0 = 11 := case_form (t := t) (a := a) (by rw [case_is h a x h9]; exact h4)
  obtain ⟨w1, w2, w3, w4, w5, w6⟩ := (wants_is x hf).1 h3
  have h1' := Bool.or_eq_false_iff.1 h1
  refine ⟨h4, by rw [h1'.2, h2]; rfl, ?_, w1, w2, w3, w4, w5, w6⟩
  by_cases e : x.f9 = 0
  · exact e
  · exact absurd e (of_decide_eq_false h1'.1)
 ·
  rintro ⟨h1, h2, h3, w1, w2, w3, w4, w5, w6⟩
  have hf : x.f0 = 7 ∨ x.f0 = 8 ∨ x.f0 = 9 ∨ x.f0 = 10 ∨ x.f0 = 11 := case_form (t := t) (a := a) (by rw [case_is h a x h9]; exact h1)
  have h6 := (wants_is x hf).2 ⟨w1, w2, w3, w4, w5, w6⟩
  simp only [Bool.and_eq_true, Bool.not_eq_true'] at h2
  exact ⟨by rw [h2.1, h3]; simp, h2.2, h6, h1⟩
def chainL (t : List S40) : Nat → Int → Option (List Int)
 | 0, x => if (rd_T40 t x).f5 = 0 then some [x] else none
 | n + 1, x => if (rd_T40 t x).f5 = 0 then some [x] else (chainL t n (rd_T40 t x).f5).map (x :: ·)
theorem bases_chain (hc : ∀ a : Int, 0 ≤ a → a < t.length → (rd_T40 t a).f0 = 9 → (rd_T40 t a).f5 = 0 ∨ form t (rd_T40 t a).f5 = 9) : ∀ (j i : Nat) (x : Int) (pre : List Int), j + i = 4 → pre.length = i → 0 ≤ x → x < t.length → (rd_T40 t x).f0 = 9 →
 (∀ l, chainL t j x = some l → basesP t (j + 2) x (pre ++ [x]) = (pre ++ l, true) ∧ (pre ++ l).length ≤ 5) ∧
 (chainL t j x = none → ¬ ((basesP t (j + 2) x (pre ++ [x])).2 = true ∧ (basesP t (j + 2) x (pre ++ [x])).1.length ≤ 5))
 | 0, i, x, pre, hj, hp, x0, x1, x9 => by
  by_cases h0 : (rd_T40 t x).f5 = 0
  ·
   refine ⟨fun l hl => ?_, fun hl => ?_⟩
   ·
    unfold chainL at hl
    rw [if_pos h0] at hl
    obtain rfl := Option.some.inj hl
    rw [basesP, if_pos h0]
    exact ⟨rfl, by simp; omega⟩
   ·
    unfold chainL at hl
    rw [if_pos h0] at hl
    cases hl
  ·
   refine ⟨fun l hl => ?_, fun hl => ?_⟩
   ·
    unfold chainL at hl
    rw [if_neg h0] at hl
    cases hl
   ·
    have h9 := (hc x x0 x1 x9).resolve_left h0
    have hp1 : placeP t (rd_T40 t x).f5 = true := by
     have := form_at h9 (by omega)
     exact decide_eq_true this
    rw [basesP, if_neg h0, if_pos ⟨hp1, h9⟩, if_neg (by simp; omega), basesP]
    by_cases h00 : (rd_T40 t (rd_T40 t x).f5).f5 = 0
    ·
     rw [if_pos h00]
     rintro ⟨-, h⟩
     simp at h
     omega
    ·
     rw [if_neg h00]
     by_cases hp2 : placeP t (rd_T40 t (rd_T40 t x).f5).f5 = true ∧ form t (rd_T40 t (rd_T40 t x).f5).f5 = 9
     ·
      rw [if_pos hp2, if_pos (by simp; omega)]
      rintro ⟨h, -⟩
      cases h
     ·
      rw [if_neg hp2]
      rintro ⟨h, -⟩
      cases h
 | j + 1, i, x, pre, hj, hp, x0, x1, x9 => by
  by_cases h0 : (rd_T40 t x).f5 = 0
  ·
   refine ⟨fun l hl => ?_, fun hl => ?_⟩
   ·
    unfold chainL at hl
    rw [if_pos h0] at hl
    obtain rfl := Option.some.inj hl
    rw [basesP, if_pos h0]
    exact ⟨rfl, by simp; omega⟩
   ·
    unfold chainL at hl
    rw [if_pos h0] at hl
    cases hl
  ·
   have h9 := (hc x x0 x1 x9).resolve_left h0
   have hat := form_at h9 (by omega)
   have hp1 : placeP t (rd_T40 t x).f5 = true := decide_eq_true hat
   have h90 : (rd_T40 t (rd_T40 t x).f5).f0 = 9 := by
    unfold form at h9
    rwa [if_pos (⟨hat.1, hat.2⟩ : 0 ≤ (rd_T40 t x).f5 ∧ (rd_T40 t x).f5 < (t.length : Int))] at h9
   obtain ⟨ih1, ih2⟩ := bases_chain hc j (i + 1) (rd_T40 t x).f5 (pre ++ [x]) (by omega) (by simp; omega) hat.1 hat.2 h90
   have e : basesP t (j + 1 + 2) x (pre ++ [x]) = basesP t (j + 2) (rd_T40 t x).f5 (pre ++ [x] ++ [(rd_T40 t x).f5]) := by
    rw [basesP, if_neg h0, if_pos ⟨hp1, h9⟩, if_neg (by simp; omega)]
   rw [e]
   refine ⟨fun l hl => ?_, fun hl => ?_⟩
   ·
    unfold chainL at hl
    rw [if_neg h0] at hl
    cases hq : chainL t j (rd_T40 t x).f5 with
    | none => rw [hq] at hl; cases hl
    | some l' =>
     rw [hq] at hl
     obtain rfl := Option.some.inj hl
     obtain ⟨g1, g2⟩ := ih1 l' hq
     have e2 : pre ++ [x] ++ l' = pre ++ (x :: l') := by simp
     rw [e2] at g1 g2
     exact ⟨g1, g2⟩
   ·
    unfold chainL at hl
    rw [if_neg h0] at hl
    cases hq : chainL t j (rd_T40 t x).f5 with
    | none => exact ih2 hq
    | some l' => rw [hq] at hl; cases hl
def foldN (t : List S40) : List ByteArray → List Int → Option (List ByteArray)
 | S, [] => some S
 | S, b :: r => (namesP S (rd_T40 t b).f6).bind fun S' => foldN t S' r
theorem fielded_chain : ∀ (j : Nat) (x : Int) (S : List ByteArray), fieldedP t (j + 1) (rd_T40 t x) S = match chainL t j x with
    | none => false
    | some l => (foldN t S l).isSome
  | 0, x, S => by
    unfold fieldedP chainL
    by_cases h0 : (rd_T40 t x).f5 = 0
    · rw [if_pos h0]
      simp only [foldN]
      cases namesP S (rd_T40 t x).f6 <;> simp [h0]
    · rw [if_neg h0]
      simp only
      cases namesP S (rd_T40 t x).f6 <;> simp [h0, fieldedP]
  | j + 1, x, S => by
    unfold chainL
    rw [fieldedP]
    by_cases h0 : (rd_T40 t x).f5 = 0
    · rw [if_pos h0]
      simp only [foldN]
      cases namesP S (rd_T40 t x).f6 <;> simp [h0]
    · rw [if_neg h0]
      cases hn : namesP S (rd_T40 t x).f6 with
      | none =>
        simp only
        cases chainL t j (rd_T40 t x).f5 <;> simp [foldN, hn]
      | some S' =>
        simp only [if_neg h0]
        rw [fielded_chain j (rd_T40 t x).f5 S']
        cases chainL t j (rd_T40 t x).f5 <;> simp [foldN, hn]
theorem fields_names : ∀ (l : List S42) (S : List ByteArray), (∀ f ∈ l, isName f.f0 = true ∧ holdsP t f.f2 = true) → fieldsP t S l = namesP S l
 | [], S, h => rfl
 | f :: r, S, h => by
  obtain ⟨h1, h2⟩ := h f (List.mem_cons_self ..)
  simp only [fieldsP, namesP, h1, h2]
  cases met S f.f0
  ·
   simp
   exact fields_names r _ fun g hg => h g (List.mem_cons_of_mem _ hg)
  · simp
def RecOk (t : List S40) : Prop := ∀ a : Int, 0 ≤ a → a < t.length → (rd_T40 t a).f0 = 9 → (rd_T40 t a).f6.length ≤ 64 ∧ ∀ f ∈ (rd_T40 t a).f6, isName f.f0 = true ∧ holdsP t f.f2 = true
theorem recs_fold (hr : RecOk t) : ∀ (l : List Int) (S : List ByteArray), (∀ b ∈ l, 0 ≤ b ∧ b < (t.length : Int) ∧ (rd_T40 t b).f0 = 9) → recsP t S l = foldN t S l
 | [], S, h => rfl
 | b :: r, S, h => by
  obtain ⟨b0, b1, b9⟩ := h b (List.mem_cons_self ..)
  obtain ⟨r1, r2⟩ := hr b b0 b1 b9
  simp only [recsP, foldN]
  rw [if_neg (by omega), fields_names _ _ r2]
  congr 1
  funext S'
  exact recs_fold hr r S' fun c hc => h c (List.mem_cons_of_mem _ hc)
theorem chain_in (hc : ∀ a : Int, 0 ≤ a → a < t.length → (rd_T40 t a).f0 = 9 → (rd_T40 t a).f5 = 0 ∨ form t (rd_T40 t a).f5 = 9) : ∀ (j : Nat) (x : Int) (l : List Int), 0 ≤ x → x < t.length → (rd_T40 t x).f0 = 9 → chainL t j x = some l → ∀ b ∈ l, 0 ≤ b ∧ b < (t.length : Int) ∧ (rd_T40 t b).f0 = 9
 | 0, x, l, x0, x1, x9, hl => by
  unfold chainL at hl
  by_cases h0 : (rd_T40 t x).f5 = 0
  ·
   rw [if_pos h0] at hl
   obtain rfl := Option.some.inj hl
   intro b hb
   rw [List.mem_singleton] at hb
   subst hb
   exact ⟨x0, x1, x9⟩
  ·
   rw [if_neg h0] at hl
   cases hl
 | j + 1, x, l, x0, x1, x9, hl => by
  unfold chainL at hl
  by_cases h0 : (rd_T40 t x).f5 = 0
  ·
   rw [if_pos h0] at hl
   obtain rfl := Option.some.inj hl
   intro b hb
   rw [List.mem_singleton] at hb
   subst hb
   exact ⟨x0, x1, x9⟩
  ·
   rw [if_neg h0] at hl
   have h9 := (hc x x0 x1 x9).resolve_left h0
   have hat := form_at h9 (by omega)
   have h90 : (rd_T40 t (rd_T40 t x).f5).f0 = 9 := by
    unfold form at h9
    rwa [if_pos (⟨hat.1, hat.2⟩ : 0 ≤ (rd_T40 t x).f5 ∧ (rd_T40 t x).f5 < (t.length : Int))] at h9
   cases hq : chainL t j (rd_T40 t x).f5 with
   | none => rw [hq] at hl; cases hl
   | some l' =>
    rw [hq] at hl
    obtain rfl := Option.some.inj hl
    intro b hb
    rcases List.mem_cons.1 hb with rfl | hb
    · exact ⟨x0, x1, x9⟩
    · exact chain_in hc j _ l' hat.1 hat.2 h90 hq b hb
theorem record_is (hc : ∀ a : Int, 0 ≤ a → a < t.length → (rd_T40 t a).f0 = 9 → (rd_T40 t a).f5 = 0 ∨ form t (rd_T40 t a).f5 = 9) (hr : RecOk t) (a : Int) (a0 : 0 ≤ a) (a1 : a < t.length) (a9 : (rd_T40 t a).f0 = 9) :
 recordP t a = fieldedP t 5 (rd_T40 t a) [] := by
 obtain ⟨g1, g2⟩ := bases_chain hc 4 0 a [] rfl rfl a0 a1 a9
 rw [fielded_chain 4 a []]
 have hl := (hr a a0 a1 a9).1
 unfold recordP
 rw [List.nil_append] at g1 g2
 cases hq : chainL t 4 a with
 | none =>
  have := g2 hq
  simp only
  rw [Bool.eq_false_iff]
  intro h
  simp only [Bool.and_eq_true, decide_eq_true_eq] at h
  exact this ⟨h.1.1.1, h.1.1.2⟩
 | some l =>
  obtain ⟨e, hlen⟩ := g1 l hq
  simp only
  rw [e]
  simp only [List.nil_append] at hlen ⊢
  rw [decide_eq_true hlen, decide_eq_true hl, Bool.true_and, Bool.true_and, Bool.true_and, recs_fold hr l [] (chain_in hc 4 a l a0 a1 a9 hq)]
theorem any_bad : t.any (badF t) = false ↔ ∀ a : Int, 0 ≤ a → a < t.length → (rd_T40 t a).f0 = 9 → fieldedP t 5 (rd_T40 t a) [] = true := by
 rw [List.any_eq_false]
 constructor
 ·
  intro h a a0 a1 a9
  have := h _ (rd_in a0 a1)
  unfold badF at this
  rw [decide_eq_true a9, Bool.true_and] at this
  cases hf : fieldedP t 5 (rd_T40 t a) [] with
  | true => rfl
  | false => rw [hf] at this; exact absurd rfl this
 ·
  intro h x hx
  obtain ⟨j, hj, rfl⟩ := List.mem_iff_getElem.1 hx
  have e : rd_T40 t (j : Int) = t[j] := by unfold rd_T40; simp [List.getD_eq_getElem?_getD, List.getElem?_eq_getElem hj]
  unfold badF
  rw [← e]
  by_cases h9 : (rd_T40 t (j : Int)).f0 = 9
  · rw [h j (by omega) (by omega) h9]; simp
  · rw [decide_eq_false h9]; simp
theorem rec_one (x : S40) (a : Int) (h9 : x.f0 = 9) : oneX t a x = true ↔ (isName x.f1 = true ∧ namedP x = true ∧ -1 ≤ x.f9 ∧ x.f9 < 64) ∧ bad6 x = false ∧ recordP t a = true := by
 rw [one_iff]
 have hb2 : bad2 x = (nul x.f1 || decide (x.f9 < -1) || decide (x.f9 > 63)) := by
  unfold bad2
  rw [decide_eq_true h9, decide_eq_false (fun h => h h9)]
  simp
 have hcs : caseP t a x = recordP t a := by
  unfold caseP
  rw [if_neg (by omega), if_neg (by omega), if_neg (by omega), if_pos h9]
 rw [hb2, hcs, ← names_rec h9]
 constructor
 ·
  rintro ⟨h1, h2, h3, h4⟩
  simp only [Bool.or_eq_false_iff, decide_eq_false_iff_not] at h1
  refine ⟨⟨?_, by rw [h1.1.1, h2]; rfl, by omega, by omega⟩, h3, h4⟩
  have h2' := h2
  unfold bad4 at h2'
  rw [h1.1.1] at h2'
  cases hi : isName x.f1 <;> simp [hi] at h2' ⊢
 ·
  rintro ⟨⟨h1, h2, h3, h4⟩, h5, h6⟩
  simp only [Bool.and_eq_true, Bool.not_eq_true'] at h2
  exact ⟨by rw [h2.1, decide_eq_false (by omega), decide_eq_false (by omega)]; rfl, h2.2, h5, h6⟩
theorem good_iff : GoodR t ↔ GoodP t := by
 constructor
 ·
  intro g
  have hO : Ones t := ⟨g.lo, g.bas, g.one⟩
  have hforms : Forms t := fun i i0 i1 => by
   by_cases h7 : i < 7
   ·
    rw [g.bas i i0 h7]
    exact ⟨i0, (by show i ≤ 11; omega)⟩
   · rcases one_form (g.one i (by omega) i1) with h | h | h | h | h <;> omega
  have hrec : ∀ a : Int, 0 ≤ a → a < t.length → (rd_T40 t a).f0 = 9 → 7 ≤ a := fun a a0 a1 a9 => by
   by_cases h7 : a < 7
   ·
    rw [g.bas a a0 h7] at a9
    have : a = 9 := a9
    omega
   · omega
  have hch : ∀ a : Int, 0 ≤ a → a < t.length → (rd_T40 t a).f0 = 9 → (rd_T40 t a).f5 = 0 ∨ form t (rd_T40 t a).f5 = 9 := fun a a0 a1 a9 => by
   obtain ⟨-, r2, -⟩ := record_at (one_record (g.one a (hrec a a0 a1 a9) a1) a9)
   rcases r2 with r2 | r2
   · exact .inl r2
   · exact .inr r2.2
  have hro : RecOk t := fun a a0 a1 a9 => by
   obtain ⟨r1, -, r3⟩ := record_at (one_record (g.one a (hrec a a0 a1 a9) a1) a9)
   exact ⟨r1, fun f hf => ⟨(r3 f hf).2.2, (r3 f hf).2.1⟩⟩
  have hfm : Formed t := ⟨g.lo, g.bas, fun i i7 i1 => by
   have ho := g.one i i7 i1
   by_cases h9 : (rd_T40 t i).f0 = 9
   ·
    obtain ⟨⟨n1, n2, n3, n4⟩, b6, -⟩ := (rec_one _ i h9).1 ho
    obtain ⟨w1, w2, w3, w4, w5, w6⟩ := (wants_is _ (.inr (.inr (.inl h9)))).1 b6
    refine (formed_iff _).2 ⟨?_, n2, ?_, w1, w2, w3, w4, w5, w6⟩
    ·
     unfold okP
     rw [if_neg (by omega), if_neg (by omega), if_pos h9]
     unfold rec1P fieldsQ
     simp only [Bool.and_eq_true, Bool.or_eq_true, decide_eq_true_eq, List.all_eq_true]
     obtain ⟨r1, r2⟩ := hro i (by omega) i1 h9
     exact ⟨⟨⟨⟨hch i (by omega) i1 h9, r1⟩, n3⟩, n4⟩, fun f hf => ⟨(r2 f hf).1, by rw [← holds_part hforms]; exact (r2 f hf).2⟩⟩
    · exact (if_pos h9).symm
   · exact (plain_one hforms i _ h9).1 ho⟩
  refine ⟨g.hi, hfm, ?_, ?_, ?_⟩
  · rw [← search_is hO.basics hO.within]; exact g.sea
  ·
   intro i k k0 k1 i1 ht
   obtain ⟨a, b, c, d, e⟩ := ht
   exact g.twin i k (hrec k k0 (by omega) b) k1 i1 ⟨a, b, c, d, by omega⟩
  ·
   rw [any_bad]
   intro a a0 a1 a9
   rw [← record_is hch hro a a0 a1 a9]
   exact one_record (g.one a (hrec a a0 a1 a9) a1) a9
 ·
  intro g
  have hfm := g.formed
  have hforms : Forms t := fun i i0 i1 => by
   by_cases h7 : i < 7
   ·
    rw [hfm.bas i i0 h7]
    exact ⟨i0, (by show i ≤ 11; omega)⟩
   · rcases formed_form (hfm.frm i (by omega) i1) with h | h | h | h | h <;> omega
  have hrec : ∀ a : Int, 0 ≤ a → a < t.length → (rd_T40 t a).f0 = 9 → 7 ≤ a := fun a a0 a1 a9 => by
   by_cases h7 : a < 7
   ·
    rw [hfm.bas a a0 h7] at a9
    have : a = 9 := a9
    omega
   · omega
  have hro : RecOk t := fun a a0 a1 a9 => by
   obtain ⟨-, r2, -, -, r5⟩ := formed_rec (hfm.frm a (hrec a a0 a1 a9) a1) a9
   exact ⟨r2, fun f hf => ⟨(r5 f hf).1, by rw [holds_part hforms]; exact (r5 f hf).2⟩⟩
  have hone : ∀ i : Int, 7 ≤ i → i < t.length → oneP t i = true := fun i i7 i1 => by
   have hf := hfm.frm i i7 i1
   by_cases h9 : (rd_T40 t i).f0 = 9
   ·
    obtain ⟨-, f2, f3, w1, w2, w3, w4, w5, w6⟩ := (formed_iff _).1 hf
    obtain ⟨-, -, n3, n4, -⟩ := formed_rec hf h9
    refine (rec_one _ i h9).2 ⟨⟨?_, f2, n3, n4⟩, (wants_is _ (.inr (.inr (.inl h9)))).2 ⟨w1, w2, w3, w4, w5, w6⟩, ?_⟩
    ·
     unfold namedP at f2
     rw [decide_eq_false (fun h => h h9)] at f2
     cases hi : isName (rd_T40 t i).f1 <;> simp [hi] at f2 ⊢
    ·
     rw [record_is hfm.chain hro i (by omega) i1 h9]
     exact any_bad.1 g.fld i (by omega) i1 h9
   · exact (plain_one hforms i _ h9).2 hf
  refine ⟨hfm.lo, g.hi, hfm.bas, hone, ?_, ?_⟩
  · rw [search_is hfm.basics hfm.within]; exact g.sea
  ·
   intro i k k0 k1 i1 ht
   obtain ⟨a, b, c, d, e⟩ := ht
   have := hfm.f9 i (by omega) i1
   exact g.twin i k (by omega) k1 i1 ⟨a, b, c, d, by omega⟩
theorem good_is : goodR t = goodP t := by
 unfold goodR goodP
 congr 1
 rw [eq_iff_iff]
 exact good_iff
end
end Go.Proofs.Ytgnbemgeiloegaa.Tg
