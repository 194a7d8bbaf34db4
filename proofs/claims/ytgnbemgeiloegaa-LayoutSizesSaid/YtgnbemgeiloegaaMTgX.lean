import Derived.Test.YtgnbemgeiloegaaMTgM
import Derived.Test.YtgnbemgeiloegaaMPTypesGoodsx4
import Derived.WalkSpells
import Derived.Deep.DeepCutAuto
namespace Go.Proofs.Ytgnbemgeiloegaa.Tg
open Go.RowKit Go.Maps Go.WideMaps
open Go.Proofs.YtgnbemgeiloegaaW.PrintWords Go.Proofs.YtgnbemgeiloegaaW.PrintLast Go.Proofs.YtgnbemgeiloegaaW.PrintMore
set_option linter.unusedVariables false
set_option linter.unusedSimpArgs false
open Go.Proofs.Ytgnbemgeiloegaa.PTypesGoods (S40 S42 S47 k40 k42 k47 rd_T40)
def alnum (c : Int) : Bool := decide ((97 ≤ c ∧ c ≤ 122) ∨ (65 ≤ c ∧ c ≤ 90) ∨ (48 ≤ c ∧ c ≤ 57))
def allFrom (s : ByteArray) (i : Nat) : Bool := decide (∀ j, j < s.size → i ≤ j → alnum (bt s j) = true)
def isName (s : ByteArray) : Bool := decide (1 ≤ s.size) && decide (s.size ≤ 24) && decide (57 < bt s 0) && allFrom s 0
theorem allFrom_step {s : ByteArray} {i : Nat} (h : i < s.size) : allFrom s i = (alnum (bt s i) && allFrom s (i + 1)) := by
 unfold allFrom
 by_cases ha : alnum (bt s i) = true
 ·
  rw [ha, Bool.true_and]
  congr 1
  simp only [eq_iff_iff]
  constructor
  · exact fun hh j hj hi => hh j hj (by omega)
  ·
   intro hh j hj hi
   by_cases e : j = i
   · rw [e]; exact ha
   · exact hh j hj (by omega)
 ·
  have : ¬ ∀ j, j < s.size → i ≤ j → alnum (bt s j) = true := fun hh => ha (hh i h (Nat.le_refl _))
  rw [decide_eq_false this]
  simp [ha]
theorem allFrom_end {s : ByteArray} {i : Nat} (h : ¬ i < s.size) : allFrom s i = true := decide_eq_true (fun j hj hi => by omega)
theorem letter_is (c : Int) : ∃ b, PTypesGoods.spinetref09_letter.f c = some b ∧ (b = true ↔ (97 ≤ c ∧ c ≤ 122) ∨ (65 ≤ c ∧ c ≤ 90)) := by
 unfold PTypesGoods.spinetref09_letter.f
 by_cases h1 : c ≥ 97
 ·
  rw [if_pos h1]
  by_cases h2 : c ≤ 122
  ·
   rw [if_pos h2]
   exact ⟨_, rfl, by simp; omega⟩
  ·
   rw [if_neg h2, if_pos (by omega)]
   exact ⟨_, rfl, by simp; omega⟩
 ·
  rw [if_neg h1]
  by_cases h2 : c ≥ 65
  ·
   rw [if_pos h2]
   exact ⟨_, rfl, by simp; omega⟩
  ·
   rw [if_neg h2]
   exact ⟨_, rfl, by simp; omega⟩
theorem digit_is (c : Int) : ∃ b, PTypesGoods.spinetref09_digit.f c = some b ∧ (b = true ↔ (48 ≤ c ∧ c ≤ 57)) := by
 unfold PTypesGoods.spinetref09_digit.f
 by_cases h1 : c ≥ 48
 ·
  rw [if_pos h1]
  exact ⟨_, rfl, by simp; omega⟩
 ·
  rw [if_neg h1]
  exact ⟨_, rfl, by simp; omega⟩
theorem word_loop (s : ByteArray) (hs : s.size ≤ 24) : ∀ (n i : Nat), s.size - i = n → ∃ k, PTypesGoods.spinetref09_Word.l0 k s (i : Int) = some (allFrom s i)
 | 0, i, hn => ⟨1, by
  rw [allFrom_end (by omega)]
  unfold PTypesGoods.spinetref09_Word.l0
  rw [if_neg (by omega)]⟩
 | n + 1, i, hn => by
  obtain ⟨k, hk⟩ := word_loop s hs n (i + 1) (by omega)
  have e : wrap64 ((i : Int) + 1) = ((i + 1 : Nat) : Int) := by unfold wrap64; omega
  refine ⟨k + 1, ?_⟩
  rw [allFrom_step (by omega)]
  conv => lhs; unfold PTypesGoods.spinetref09_Word.l0
  rw [if_pos (by omega), if_pos (by omega), e, hk]
  obtain ⟨b1, h1, h2⟩ := letter_is (bt s (i : Int))
  obtain ⟨b2, h3, h4⟩ := digit_is (bt s (i : Int))
  rw [h1, h3]
  have ha : alnum (bt s (i : Int)) = (b1 || b2) := by
   cases hb1 : b1 <;> cases hb2 : b2 <;> simp [alnum] <;> simp [hb1] at h2 <;> simp [hb2] at h4 <;> omega
  rw [ha]
  cases b1 <;> cases b2 <;> simp
theorem word_is (s : ByteArray) : ∃ k, PTypesGoods.spinetref13_word.f k s = some (isName s) := by
 have main : ∃ k, PTypesGoods.spinetref09_Word.f k s = some (isName s) := by
  unfold PTypesGoods.spinetref09_Word.f
  by_cases h0 : s.size = 0
  ·
   refine ⟨1, ?_⟩
   rw [if_pos (by omega)]
   simp [PTypesGoods.spinetref09_Word.j0, isName, h0]
  ·
   by_cases h1 : s.size ≤ 24
   ·
    obtain ⟨b, hb1, hb2⟩ := letter_is (bt s 0)
    have hstep : allFrom s 0 = (alnum (bt s 0) && allFrom s 1) := allFrom_step (i := 0) (by omega)
    have d1 : decide (1 ≤ s.size) = true := decide_eq_true (by omega)
    have d2 : decide (s.size ≤ 24) = true := decide_eq_true h1
    have hle : (decide (57 < bt s 0) && alnum (bt s 0)) = b := by
     cases b <;> simp [alnum] <;> simp at hb2 <;> omega
    have hn : isName s = (b && allFrom s 1) := by
     simp only [isName, d1, d2, Bool.true_and]
     rw [hstep, ← Bool.and_assoc, hle]
    rw [hn]
    cases b with
    | false =>
     refine ⟨1, ?_⟩
     rw [if_neg (by omega), if_neg (by omega), if_pos (by omega), hb1]
     rfl
    | true =>
     obtain ⟨k, hk⟩ := word_loop s h1 _ 1 rfl
     refine ⟨k + 1, ?_⟩
     rw [if_neg (by omega), if_neg (by omega), if_pos (by omega), hb1]
     simp only [Option.bind_some, PTypesGoods.spinetref09_Word.j0, Bool.not_true, Bool.false_eq_true, if_false, Bool.true_and]
     exact hk
   ·
    refine ⟨1, ?_⟩
    rw [if_neg (by omega), if_pos (by omega)]
    simp [PTypesGoods.spinetref09_Word.j0, isName, h1]
 obtain ⟨k, hk⟩ := main
 exact ⟨k, by unfold PTypesGoods.spinetref13_word.f; rw [hk]; rfl⟩
theorem word_calls (s : ByteArray) (w : World) : Calls Try.prog 55 #[.string s] w fun e w' => e = .returned (.bool (isName s)) ∧ Drawn0 w w' := by
 obtain ⟨k, hk⟩ := word_is s
 exact PTypesGoods.spinetref13_word.calls k s _ w hk
def form (t : List S40) (i : Int) : Int := if 0 ≤ i ∧ i < t.length then (rd_T40 t i).f0 else -1
def placeP (t : List S40) (i : Int) : Bool := decide (0 ≤ i ∧ i < t.length)
def holdsP (t : List S40) (i : Int) : Bool := placeP t i && decide (form t i ≠ 0) && decide (form t i ≠ 5) && decide (form t i ≠ 6) && decide (form t i ≠ 8)
theorem place_is (t : List S40) (i : Int) : PTypesGoods.spinetref13_place.f t i = some (placeP t i) := by
 unfold PTypesGoods.spinetref13_place.f placeP
 by_cases h : i ≥ 0
 ·
  rw [if_pos h]
  congr 1
  simp [h]
 ·
  rw [if_neg h]
  simp
  omega
theorem holds_is (t : List S40) (i : Int) : PTypesGoods.spinetref13_holds.f t i = some (holdsP t i) := by
 unfold PTypesGoods.spinetref13_holds.f holdsP
 rw [place_is, Option.bind_some]
 by_cases h : 0 ≤ i ∧ i < t.length
 ·
  have hp : placeP t i = true := decide_eq_true h
  have hf : form t i = (rd_T40 t i).f0 := if_pos h
  rw [hp, if_pos rfl, if_pos h.1, if_pos h.2, hf]
  generalize (rd_T40 t i).f0 = f
  by_cases h0 : f = 0
  · rw [if_pos h0]; simp [h0]
  ·
   rw [if_neg h0]
   by_cases h5 : f = 5
   · rw [if_pos h5]; simp [h5]
   ·
    rw [if_neg h5]
    by_cases h6 : f = 6
    · rw [if_pos h6]; simp [h6]
    ·
     rw [if_neg h6]
     simp [h0, h5, h6]
     rfl
 ·
  have hp : placeP t i = false := decide_eq_false h
  rw [hp]
  rfl
section
variable {w : World} {A : Option Addr} {c : Nat} {t : List S40}
theorem place_calls (hC : Kd.C k40 w A t.length t) (hc : t.length ≤ c) (i : Int) : Calls Try.prog 57 #[.slice A t.length c, .int .i64 i] w fun e w' => e = .returned (.bool (placeP t i)) ∧ Drawn0 w w' :=
 PTypesGoods.spinetref13_place.calls A c t i _ w hC hc (place_is t i)
theorem holds_calls (hC : Kd.C k40 w A t.length t) (hc : t.length ≤ c) (i : Int) : Calls Try.prog 56 #[.slice A t.length c, .int .i64 i] w fun e w' => e = .returned (.bool (holdsP t i)) ∧ Drawn0 w w' :=
 PTypesGoods.spinetref13_holds.calls A c t i _ w hC hc (holds_is t i)
end
end Go.Proofs.Ytgnbemgeiloegaa.Tg
namespace Go.Proofs.Ytgnbemgeiloegaa.Tg
open Go.RowKit Go.Maps Go.WideMaps
open Go.Proofs.YtgnbemgeiloegaaW.PrintWords Go.Proofs.YtgnbemgeiloegaaW.PrintLast Go.Proofs.YtgnbemgeiloegaaW.PrintMore
set_option linter.unusedVariables false
set_option linter.unusedSimpArgs false
open Go.Proofs.Ytgnbemgeiloegaa.PTypesGoods (S40 S42 S47 k40 k42 k47 rd_T40 rd_T42 at_T40 at_T42)
def basesP (t : List S40) : Nat → Int → List Int → List Int × Bool
 | 0, _, _ => ([], false)
 | n + 1, x, acc => if (rd_T40 t x).f5 = 0 then (acc, true) else if placeP t (rd_T40 t x).f5 = true ∧ form t (rd_T40 t x).f5 = 9 then (if acc.length > 5 then ([], false) else basesP t n (rd_T40 t x).f5 (acc ++ [(rd_T40 t x).f5])) else ([], false)
theorem bases_loop (t : List S40) : ∀ (n : Nat) (x : Int) (acc : List Int), 0 ≤ x → x < t.length → 1 ≤ n → 7 ≤ n + acc.length → ∃ k, PTypesGoods.spinetref13_bases.l0 k t x acc = some (basesP t n x acc)
 | 0, x, acc, h0, h1, hn, hl => by omega
 | n + 1, x, acc, h0, h1, hn, hl => by
  by_cases hb : (rd_T40 t x).f5 = 0
  ·
   refine ⟨1, ?_⟩
   unfold PTypesGoods.spinetref13_bases.l0
   rw [if_pos h0, if_pos h1, if_pos hb]
   simp [basesP, hb]
  ·
   by_cases hp : placeP t (rd_T40 t x).f5 = true
   ·
    have hpr : 0 ≤ (rd_T40 t x).f5 ∧ (rd_T40 t x).f5 < t.length := of_decide_eq_true hp
    have hf : form t (rd_T40 t x).f5 = (rd_T40 t (rd_T40 t x).f5).f0 := if_pos hpr
    by_cases h9 : (rd_T40 t (rd_T40 t x).f5).f0 = 9
    ·
     by_cases h5 : acc.length > 5
     ·
      refine ⟨1, ?_⟩
      unfold PTypesGoods.spinetref13_bases.l0
      rw [if_pos h0, if_pos h1, if_neg hb, place_is, hp, Option.bind_some, if_pos rfl, if_pos hpr.1, if_pos hpr.2, if_pos h9, if_pos (by omega)]
      simp [basesP, hb, hp, hf, h9, h5]
     ·
      obtain ⟨k, hk⟩ := bases_loop t n (rd_T40 t x).f5 (acc ++ [(rd_T40 t x).f5]) hpr.1 hpr.2 (by omega) (by simp; omega)
      refine ⟨k + 1, ?_⟩
      conv => lhs; unfold PTypesGoods.spinetref13_bases.l0
      rw [if_pos h0, if_pos h1, if_neg hb, place_is, hp, Option.bind_some, if_pos rfl, if_pos hpr.1, if_pos hpr.2, if_pos h9, if_neg (by omega), if_pos (by omega), hk]
      simp [basesP, hb, hp, hf, h9, h5]
    ·
     refine ⟨1, ?_⟩
     unfold PTypesGoods.spinetref13_bases.l0
     rw [if_pos h0, if_pos h1, if_neg hb, place_is, hp, Option.bind_some, if_pos rfl, if_pos hpr.1, if_pos hpr.2, if_neg h9]
     simp [basesP, hb, hp, hf, h9]
   ·
    have hp' : placeP t (rd_T40 t x).f5 = false := by simpa using hp
    refine ⟨1, ?_⟩
    unfold PTypesGoods.spinetref13_bases.l0
    rw [if_pos h0, if_pos h1, if_neg hb, place_is, hp', Option.bind_some, if_neg (by decide)]
    simp [basesP, hb, hp']
theorem bases_in (t : List S40) : ∀ (n : Nat) (x : Int) (acc : List Int), (∀ b ∈ acc, 0 ≤ b ∧ b < (t.length : Int)) → ∀ b ∈ (basesP t n x acc).1, 0 ≤ b ∧ b < (t.length : Int)
 | 0, x, acc, h => fun b hb => by simp [basesP] at hb
 | n + 1, x, acc, h => by
  unfold basesP
  split
  · exact h
  ·
   split
   ·
    rename_i hp
    have hpr : 0 ≤ (rd_T40 t x).f5 ∧ (rd_T40 t x).f5 < t.length := of_decide_eq_true hp.1
    split
    · intro b hb; cases hb
    ·
     refine bases_in t n _ _ fun b hb => ?_
     rw [List.mem_append] at hb
     rcases hb with hb | hb
     · exact h b hb
     ·
      simp at hb
      subst hb
      exact hpr
   · intro b hb; cases hb
def met (S : List ByteArray) (s : ByteArray) : Bool := S.any fun x => decide (x = s)
def fieldsP (t : List S40) (S : List ByteArray) : List S42 → Option (List ByteArray)
 | [] => some S
 | f :: r => if (met S f.f0 || !isName f.f0 || !holdsP t f.f2) = true then none else fieldsP t (S ++ [f.f0]) r
theorem fieldsP_snoc (t : List S40) : ∀ (xs : List S42) (S : List ByteArray) (f : S42), fieldsP t S (xs ++ [f]) = (fieldsP t S xs).bind fun S' => if (met S' f.f0 || !isName f.f0 || !holdsP t f.f2) = true then none else some (S' ++ [f.f0])
 | [], S, f => by simp [fieldsP]
 | x :: xs, S, f => by
  simp only [List.cons_append, fieldsP]
  split
  · rfl
  · exact fieldsP_snoc t xs _ f
theorem fieldsP_app (t : List S40) : ∀ (xs ys : List S42) (S : List ByteArray), fieldsP t S (xs ++ ys) = (fieldsP t S xs).bind fun S' => fieldsP t S' ys
 | [], ys, S => by simp [fieldsP]
 | x :: xs, ys, S => by
  simp only [List.cons_append, fieldsP]
  split
  · rfl
  · exact fieldsP_app t xs ys _
def recsP (t : List S40) (S : List ByteArray) : List Int → Option (List ByteArray)
 | [] => some S
 | b :: r => if (rd_T40 t b).f6.length > 64 then none else (fieldsP t S (rd_T40 t b).f6).bind fun S' => recsP t S' r
theorem recsP_app (t : List S40) : ∀ (xs ys : List Int) (S : List ByteArray), recsP t S (xs ++ ys) = (recsP t S xs).bind fun S' => recsP t S' ys
 | [], ys, S => by simp [recsP]
 | x :: xs, ys, S => by
  simp only [List.cons_append, recsP]
  split
  · rfl
  ·
   cases h : fieldsP t S (rd_T40 t x).f6 with
   | none => rfl
   | some S' =>
    simp only [Option.bind_some]
    exact recsP_app t xs ys _
def recordP (t : List S40) (a : Int) : Bool :=
 (basesP t 6 a [a]).2 && decide ((basesP t 6 a [a]).1.length ≤ 5) && decide ((rd_T40 t a).f6.length ≤ 64) && (recsP t [] (basesP t 6 a [a]).1).isSome
end Go.Proofs.Ytgnbemgeiloegaa.Tg
namespace Go.Proofs.Ytgnbemgeiloegaa.Tg
open Go.RowKit Go.Maps Go.WideMaps
open Go.Proofs.YtgnbemgeiloegaaW.PrintWords Go.Proofs.YtgnbemgeiloegaaW.PrintLast Go.Proofs.YtgnbemgeiloegaaW.PrintMore
set_option linter.unusedVariables false
set_option linter.unusedSimpArgs false
open Go.Proofs.Ytgnbemgeiloegaa.PTypesGoods (S40 S42 S47 k40 k42 k47 rd_T40 rd_T42 at_T40 at_T42)
def Sized (t : List S40) : Prop := ∀ x ∈ t, x.f1.size ≤ maxLen ∧ x.f2.size ≤ maxLen ∧ ∀ f ∈ x.f6, f.f0.size ≤ maxLen
def metM (S : List ByteArray) (s : ByteArray) : Option Int := if met S s = true then some 1 else none
theorem metM_put (S : List ByteArray) (s : ByteArray) : putS (metM S) s (some 1) = metM (S ++ [s]) := by
 funext b
 unfold putS metM met
 by_cases e : b = s
 ·
  subst e
  rw [if_pos rfl, if_pos (by simp)]
 ·
  rw [if_neg e, List.any_append]
  have : ([s].any fun x => decide (x = b)) = false := by simp [Ne.symm e]
  rw [this, Bool.or_false]
theorem own_keep {w w' : World} {base : Nat} {e : TypeId} {size n : Nat} {v : Value} {xs : List Value} (h : w.ownsRow base e size v n xs) (hk : ∀ k, v.ownBlock = some k → w'.heap[k]? = w.heap[k]?) : w'.ownsRow base e size v n xs := by
 obtain ⟨h1, h2⟩ := h
 refine ⟨h1, ?_⟩
 rcases h2 with h2 | ⟨g, cap, cur, rfl, hg, hh, r⟩
 · exact .inl h2
 · exact .inr ⟨g, cap, cur, rfl, hg, (hk g (by simp [Value.ownBlock])).trans hh, r⟩
theorem own_zero {w : World} {base : Nat} {e : TypeId} {size n : Nat} {v : Value} {xs : List Value} (h : w.ownsRow base e size v n xs) : w.ownsRow 0 e size v n xs := by
 obtain ⟨h1, h2⟩ := h
 refine ⟨h1, ?_⟩
 rcases h2 with h2 | ⟨g, cap, cur, hv, hg, r⟩
 · exact .inl h2
 · exact .inr ⟨g, cap, cur, hv, Nat.zero_le _, r⟩
theorem size_in {n j : Nat} (h : j < n) : ¬ n ≤ j := Nat.not_le.2 h
theorem drawn_below {w w' : World} (d : Drawn0 w w') : Below w.heap.size w w' := by
 obtain ⟨n, rfl⟩ := d
 exact ⟨rfl, rfl, rfl, Nat.le_refl _, fun _ _ => rfl⟩
structure Rec (w0 : World) (mb : Nat) (bv : Value) (bs : List Int) (S : List ByteArray) (N : Nat) (w : World) : Prop where
 map : MapS w (.map (some mb)) N (metM S)
 row : w.ownsRow 0 3 1 bv bs.length (bs.map (Value.int .i64))
 ne : ∀ k, bv.ownBlock = some k → k ≠ mb
 lo : w0.heap.size ≤ mb
 below : Below w0.heap.size w0 w
theorem Rec.on {w0 w w1 : World} {mb : Nat} {bv : Value} {bs : List Int} {S : List ByteArray} {N : Nat} (h : Rec w0 mb bv bs S N w) (hb : Below w.heap.size w w1) : Rec w0 mb bv bs S N w1 :=
 ⟨h.map.kept (hb.block mb h.map.lt), own_keep h.row (fun k e => hb.block k (own_lt h.row k e)), h.ne, h.lo, h.below.trans (hb.mono h.below.size)⟩
theorem Rec.put {w0 w w1 : World} {mb : Nat} {bv : Value} {bs : List Int} {S : List ByteArray} {N : Nat} {s : ByteArray} (h : Rec w0 mb bv bs S N w) (hm : MapS w1 (.map (some mb)) (N + 1) (putS (metM S) s (some 1))) (hg : w.grownBy w1 (some mb)) : Rec w0 mb bv bs (S ++ [s]) (N + 1) w1 :=
 ⟨by rw [← metM_put]; exact hm, own_keep h.row (fun k e => hg.block k (own_lt h.row k e) (fun e' => h.ne k e (Option.some.inj e'))), h.ne, h.lo, h.below.grown hg h.below.size (fun k e => by cases e; exact h.lo)⟩
theorem rowInt {w : World} {A : Option Addr} {c : Nat} {l : List Int} (h : w.ownsRow 0 3 1 (.slice A l.length c) l.length (l.map (Value.int .i64))) (hn : 0 < l.length) : ∃ ad, A = some ad ∧ ∀ (j : Nat) (hj : j < l.length), w.cell? (ad.add j) = some (.int .i64 l[j]) := by
 rcases h.2 with ⟨h1, h2⟩ | ⟨g, cap, cur, h1, _⟩
 · omega
 ·
  cases h1
  exact ⟨_, rfl, fun j hj => h.cells (g := g) rfl j _ (by simp [List.getElem?_eq_getElem hj])⟩
set_option maxHeartbeats 4000000 in
theorem record_calls {w : World} {A : Option Addr} {c : Nat} {t : List S40} (hC : Kd.C k40 w A t.length t) (hc : t.length ≤ c) (hz : Sized t) (a : Int) (h0 : 0 ≤ a) (h1 : a < t.length) :
 Calls Try.prog 58 #[.slice A t.length c, .int .i64 a] w fun e w' => e = .returned (.bool (recordP t a)) ∧ Below w.heap.size w w' := by
 obtain ⟨k, hk⟩ := bases_loop t 6 a [a] h0 h1 (by omega) (by simp)
 have hin := bases_in t 6 a [a] (fun b hb => by simp at hb; subst hb; exact ⟨h0, h1⟩)
 obtain ⟨bs, ok, hbs⟩ : ∃ bs ok, basesP t 6 a [a] = (bs, ok) := ⟨_, _, rfl⟩
 rw [hbs] at hk hin
 have hrec : Aside0 (recordP t a = (ok && decide (bs.length ≤ 5) && decide ((rd_T40 t a).f6.length ≤ 64) && (recsP t [] bs).isSome)) := ⟨by unfold recordP; rw [hbs]⟩
 have hk' : PTypesGoods.spinetref13_bases.f k t a = some (bs, ok) := hk
 clear hk hbs
 have HIN := Aside0.mk hin
 clear hin
 go_enter Try.func58, Try.ntmps58
 go_wp2_with fail
 refine (PTypesGoods.spinetref13_bases.calls k A c t a bs ok w hC hc hk').mono ?_
 rintro e w1 ⟨bv, rfl, hR, hB1⟩
 have hrow := Kd.own_of_R hR
 have hlow := own_base hrow
 obtain ⟨Ab, cb, rfl⟩ := own_slice hrow
 obtain ⟨ad, A6, c6, A7, c7, hA, p0, p1, p2, p3, p4, p5, p6, p7, p8, p9, l6, C6, l7, C7⟩ := at_T40 (Kd.C_below hC hB1) a h0 h1
 subst hA
 clear p0 p1 p2 p3 p4 p5 p7 p8 p9 C6 C7
 have hmm := @run_makeMap Try.prog
 cases ok with
 | false =>
  go_wp2
  go_ret
  exact ⟨by rw [hrec.out]; rfl, hB1⟩
 | true =>
  by_cases h5 : bs.length ≤ 5
  ·
   have d5 : decide ((bs.length : Int) > 5) = false := decide_eq_false (by omega)
   by_cases h64 : (rd_T40 t a).f6.length ≤ 64
   ·
    have d64 : decide (((rd_T40 t a).f6.length : Int) > 64) = false := decide_eq_false (by omega)
    have hrec2 : Aside0 (recordP t a = (recsP t [] bs).isSome) := ⟨by rw [hrec.out]; simp [h5, h64]⟩
    clear hrec
    have HR0 : Aside0 (Rec w w1.heap.size (.slice Ab bs.length cb) bs [] 0 (w1.alloc (.map #[] 0))) := ⟨⟨by
     have := MapS.made w1
     have e : metM [] = fun _ => none := by funext b; simp [metM, met]
     rw [e]; exact this, own_zero (own_keep hrow (fun k e => (Below.heap_alloc w1 _ k (own_lt hrow k e)))), fun k e => by have := own_lt hrow k e; omega, hB1.size, below_alloc hB1 _⟩⟩
    clear hR hlow
    go_wp2
    clear p6 hmm hrow
    have hCw := Aside0.mk hC
    go_loopw [8] (fun i wr => ∃ (i0 N : Nat) (S : List ByteArray), i0 ≤ bs.length ∧ i = .int .i64 i0 ∧ N ≤ 64 * i0 ∧ Aside0 (recsP t [] (bs.take i0) = some S) ∧ Aside0 (Rec w w1.heap.size (.slice Ab bs.length cb) bs S N wr)) (fun i _ => bs.length - (intOf i).toNat)
    case atStart => exact ⟨0, 0, [], Nat.zero_le _, rfl, Nat.zero_le _, ⟨by simp [recsP]⟩, HR0⟩
    case round =>
     clear HR0
     obtain ⟨wo, rfl⟩ : ∃ wo : World, wo = wr := ⟨_, rfl⟩
     obtain ⟨i0, N, S, hi0, rfl, hN, hS, HR⟩ := hrel
     by_cases hlt : i0 < bs.length
     ·
      have hx : decide ((i0 : Int) < (bs.length : Int)) = true := decide_eq_true (by omega)
      have hin := size_in hlt
      obtain ⟨bd, rfl, hcb⟩ := rowInt HR.out.row (by omega)
      have hb0 := hcb i0 hlt
      clear hcb
      have hbin := HIN.out _ (List.getElem_mem hlt)
      have htk : bs.take (i0 + 1) = bs.take i0 ++ [bs[i0]] := by rw [List.take_add_one, List.getElem?_eq_getElem hlt]; rfl
      have hstep : Aside0 (recsP t [] (bs.take (i0 + 1)) = if (rd_T40 t bs[i0]).f6.length > 64 then none else (fieldsP t S (rd_T40 t bs[i0]).f6).bind fun S' => some S') := ⟨by rw [htk, recsP_app, hS.out]; simp [recsP]⟩
      have hnone : Aside0 (recsP t [] (bs.take (i0 + 1)) = none → recsP t [] bs = none) := ⟨fun h => by
       have e : bs = bs.take (i0 + 1) ++ bs.drop (i0 + 1) := (List.take_append_drop _ _).symm
       rw [e, recsP_app, h]; rfl⟩
      clear htk
      generalize hbb : bs[i0] = b at hb0 hbin hstep
      clear hbb
      obtain ⟨ad2, B6, d6, B7, d7, hA2, q0, q1, q2, q3, q4, q5, q6, q7, q8, q9, m6, D6, m7, D7⟩ := at_T40 hCw.out b hbin.1 hbin.2
      obtain rfl := Option.some.inj hA2
      clear q0 q1 q2 q3 q4 q5 q7 q8 q9 D7 hA2
      have q6' := (HR.out.below.cell (World.block_lt_of_cell? _ _ q6)).trans q6
      clear q6
      have hbr := hbin.1
      have hbr2 := hbin.2
      by_cases hl64 : (rd_T40 t b).f6.length ≤ 64
      ·
       have d64b : decide (((rd_T40 t b).f6.length : Int) > 64) = false := decide_eq_false (by omega)
       go_wp2
       have hfz : ∀ f ∈ (rd_T40 t b).f6, f.f0.size ≤ maxLen := by
        have hm : rd_T40 t b ∈ t := by
         have hb2 : b.toNat < t.length := by omega
         have e : rd_T40 t b = t[b.toNat] := by unfold rd_T40; simp [List.getD_eq_getElem?_getD, List.getElem?_eq_getElem hb2]
         rw [e]
         exact List.getElem_mem hb2
        exact (hz _ hm).2.2
       have hfz2 := Aside0.mk hfz
       clear hfz q6'
       generalize (rd_T40 t b).f6 = fs at D6 hl64 d64b hstep hfz2 m6
       have hD6 := Aside0.mk D6
       clear D6
       go_loopw [10] (fun i wx => ∃ (k0 N2 : Nat) (S2 : List ByteArray), k0 ≤ fs.length ∧ i = .int .i64 k0 ∧ N2 ≤ 64 * i0 + k0 ∧ Aside0 (fieldsP t S (fs.take k0) = some S2) ∧ Aside0 (Rec w w1.heap.size (.slice (some bd) bs.length cb) bs S2 N2 wx)) (fun i _ => fs.length - (intOf i).toNat)
       case atStart => exact ⟨0, N, S, Nat.zero_le _, rfl, by omega, ⟨by simp [fieldsP]⟩, HR⟩
       case round =>
        clear HR
        obtain ⟨k0, N2, S2, hk0, rfl, hN2, hF, HR⟩ := hrel
        have HB := Aside0.mk HR.out.below
        by_cases hkl : k0 < fs.length
        ·
         have hy : decide ((k0 : Int) < (fs.length : Int)) = true := decide_eq_true (by omega)
         have hin2 := size_in hkl
         obtain ⟨fd, hfA, r0, r1, r2⟩ := at_T42 (Kd.C_below hD6.out HB.out) (k0 : Int) (by omega) (by omega)
         obtain rfl := hfA
         have hk00 : ((k0 : Nat) : Int).toNat = k0 := by omega
         have hrd : rd_T42 fs (k0 : Int) = fs[k0] := by unfold rd_T42; simp [List.getD_eq_getElem?_getD, List.getElem?_eq_getElem hkl]
         rw [hk00, hrd] at r0 r1 r2
         have hfk : fs.take (k0 + 1) = fs.take k0 ++ [fs[k0]] := by rw [List.take_add_one, List.getElem?_eq_getElem hkl]; rfl
         have hfs : Aside0 (fieldsP t S (fs.take (k0 + 1)) = if (met S2 (fs[k0]).f0 || !isName (fs[k0]).f0 || !holdsP t (fs[k0]).f2) = true then none else some (S2 ++ [(fs[k0]).f0])) := ⟨by rw [hfk, fieldsP_snoc, hF.out]; rfl⟩
         have hno2 : Aside0 (fieldsP t S (fs.take (k0 + 1)) = none → recordP t a = false) := ⟨fun h => by
          have e : fs = fs.take (k0 + 1) ++ fs.drop (k0 + 1) := (List.take_append_drop _ _).symm
          have e2 : fieldsP t S fs = none := by rw [e, fieldsP_app, h]; rfl
          rw [hrec2.out, hnone.out (by rw [hstep.out, if_neg (by omega), e2]; rfl)]; rfl⟩
         have hsz := hfz2.out _ (List.getElem_mem hkl)
         obtain ⟨fx, hfx⟩ : ∃ fx, fs[k0] = fx := ⟨_, rfl⟩
         rw [hfx] at r0 r1 r2 hfs hsz
         have hrd2 := Aside0.mk (hrd.trans hfx)
         clear hfk hrd hfx
         have hlook := HR.out.map.look hsz
         have HCx := Aside0.mk (Kd.C_below hCw.out HR.out.below)
         by_cases hmet : met S2 fx.f0 = true
         ·
          rw [show (metM S2 fx.f0).getD 0 = 1 by simp [metM, hmet]] at hlook
          go_wp2
          go_ret
          exact ⟨by rw [hno2.out (by rw [hfs.out, hmet]; rfl)]; rfl, HR.out.below⟩
         ·
          have hmet2 : met S2 fx.f0 = false := by simpa using hmet
          rw [show (metM S2 fx.f0).getD 0 = 0 by simp [metM, hmet2]] at hlook
          go_wp2_with fail
          refine (word_calls fx.f0 _).mono ?_
          rintro e w4 ⟨rfl, d4⟩
          have HR4 := Aside0.mk (HR.out.on (drawn_below d4))
          have HB4 := Aside0.mk (HB.out.trans ((drawn_below d4).mono HB.out.size))
          cases hnm : isName fx.f0 with
          | false =>
           go_wp2
           go_ret
           exact ⟨by rw [hno2.out (by rw [hfs.out, hnm]; simp)]; rfl, HR4.out.below⟩
          | true =>
           clear hlook r0 r1 r2
           obtain ⟨fd3, hfA3, r0, r1, r2⟩ := at_T42 (Kd.C_below hD6.out HB4.out) (k0 : Int) (by omega) (by omega)
           obtain rfl := Option.some.inj hfA3
           rw [hk00, hrd2.out] at r0 r1 r2
           go_wp2_with fail
           refine (holds_calls (Kd.C_below hCw.out HR4.out.below) hc fx.f2).mono ?_
           rintro e w5 ⟨rfl, d5⟩
           have HR5 := Aside0.mk (HR4.out.on (drawn_below d5))
           have HB5 := Aside0.mk (HB4.out.trans ((drawn_below d5).mono HB4.out.size))
           cases hho : holdsP t fx.f2 with
           | false =>
            go_wp2
            go_ret
            exact ⟨by rw [hno2.out (by rw [hfs.out, hho]; simp)]; rfl, HR5.out.below⟩
           | true =>
            clear r0 r1 r2
            obtain ⟨fd4, hfA4, r0, r1, r2⟩ := at_T42 (Kd.C_below hD6.out HB5.out) (k0 : Int) (by omega) (by omega)
            obtain rfl := Option.some.inj hfA4
            rw [hk00, hrd2.out] at r0 r1 r2
            obtain ⟨w6, hst, hm6, hg6⟩ := HR5.out.map.store (x := 1) (by unfold maxLen; omega) hsz (by decide)
            have HR6 := Aside0.mk (HR5.out.put hm6 hg6)
            have hfs2 : Aside0 (fieldsP t S (fs.take (k0 + 1)) = some (S2 ++ [fx.f0])) := ⟨by rw [hfs.out, hmet2, hnm, hho]; rfl⟩
            go_wp2
            go_roundw
            case rel => exact ⟨k0 + 1, N2 + 1, S2 ++ [fx.f0], by omega, by go_num, by omega, hfs2, HR6⟩
            case measure => simp [intOf]; omega
        ·
         have hy : decide ((k0 : Int) < (fs.length : Int)) = false := decide_eq_false (by omega)
         have hfe : fs.take k0 = fs := List.take_of_length_le (by omega)
         have hF2 := hF.out
         rw [hfe] at hF2
         have hstep2 : Aside0 (recsP t [] (bs.take (i0 + 1)) = some S2) := ⟨by rw [hstep.out, if_neg (by omega), hF2]; rfl⟩
         clear hF2 hfe hF hstep
         go_wp2
         go_roundw
         case rel => exact ⟨i0 + 1, N2, S2, by omega, by go_num, by omega, hstep2, HR⟩
         case measure => simp [intOf]; omega
      ·
       have d64b : decide (((rd_T40 t b).f6.length : Int) > 64) = true := decide_eq_true (by omega)
       go_wp2
       go_ret
       have hno := hnone.out (by rw [hstep.out, if_pos (by omega)])
       exact ⟨by rw [hrec2.out, hno]; rfl, HR.out.below⟩
     ·
      have hx : decide ((i0 : Int) < (bs.length : Int)) = false := decide_eq_false (by omega)
      have hbe : bs.take i0 = bs := List.take_of_length_le (by omega)
      have hS2 := hS.out
      rw [hbe] at hS2
      have hS3 := Aside0.mk hS2
      clear hS2 hbe
      go_wp2
      go_ret
      exact ⟨by rw [hrec2.out, hS3.out]; rfl, HR.out.below⟩
   ·
    have d64 : decide (((rd_T40 t a).f6.length : Int) > 64) = true := decide_eq_true (by omega)
    go_wp2
    go_ret
    exact ⟨by rw [hrec.out]; simp [h64], hB1⟩
  ·
   have d5 : decide ((bs.length : Int) > 5) = true := decide_eq_true (by omega)
   go_wp2
   go_ret
   exact ⟨by rw [hrec.out]; simp [h5], hB1⟩
end Go.Proofs.Ytgnbemgeiloegaa.Tg
namespace Go.Proofs.Ytgnbemgeiloegaa.Tg
open Go.RowKit Go.Maps Go.WideMaps
open Go.Proofs.YtgnbemgeiloegaaW.PrintWords Go.Proofs.YtgnbemgeiloegaaW.PrintLast Go.Proofs.YtgnbemgeiloegaaW.PrintMore
set_option linter.unusedVariables false
set_option linter.unusedSimpArgs false
open Go.Proofs.Ytgnbemgeiloegaa.PTypesGoods (S40 S42 S47 k40 k42 k47 rd_T40 rd_T42 rd_T47 at_T40 at_T42 at_T47)
def nul (s : ByteArray) : Bool := s.toList.isEmpty
def bad2 (x : S40) : Bool := (decide (x.f0 ≠ 9) && (decide (x.f9 ≠ 0) || (nul x.f1 != nul x.f2))) || (decide (x.f0 = 9) && (nul x.f1 || decide (x.f9 < -1) || decide (x.f9 > 63)))
def bad4 (x : S40) : Bool := (!nul x.f1 && !isName x.f1) || (!nul x.f2 && !isName x.f2)
def bad6 (x : S40) : Bool := (((decide (x.f0 ≠ 7) && decide (x.f3 ≠ 0)) || (decide (x.f0 ≠ 7) && decide (x.f0 ≠ 8) && decide (x.f0 ≠ 10) && decide (x.f4 ≠ 0))) || (decide (x.f0 ≠ 9) && (decide (x.f5 ≠ 0) || decide ((x.f6.length : Int) > 0)))) || (decide (x.f0 ≠ 11) && (decide ((x.f7.length : Int) > 0) || decide (x.f8 ≠ 0)))
def parP (t : List S40) (i : Int) : Bool := holdsP t i || (placeP t i && decide (form t i = 8))
def parsP (t : List S40) (l : List S47) : Bool := l.all fun p => parP t p.f1
def resP (t : List S40) (i : Int) : Bool := decide (i = 0) || (holdsP t i && decide (form t i ≠ 7) && decide (form t i ≠ 9))
def caseP (t : List S40) (a : Int) (x : S40) : Bool :=
 if x.f0 = 7 then decide (1 ≤ x.f3) && decide (x.f3 ≤ 4096) && holdsP t x.f4
 else if x.f0 = 8 then holdsP t x.f4 || (placeP t x.f4 && decide (form t x.f4 = 8))
 else if x.f0 = 10 then placeP t x.f4 && decide (form t x.f4 = 9)
 else if x.f0 = 9 then recordP t a
 else if x.f0 = 11 then parsP t x.f7 && decide (x.f7.length ≤ 64) && resP t x.f8
 else false
def oneX (t : List S40) (a : Int) (x : S40) : Bool := !bad2 x && !bad4 x && !bad6 x && caseP t a x
def oneP (t : List S40) (a : Int) : Bool := oneX t a (rd_T40 t a)
structure Box (w wx : World) (x : S40) (A6 : Option Addr) (c6 : Nat) (A7 : Option Addr) (c7 : Nat) : Prop where
 b0 : wx.cell? ⟨w.heap.size, 0, none⟩ = some (.int .i64 x.f0)
 b1 : wx.cell? ⟨w.heap.size, 1, none⟩ = some (.string x.f1)
 b2 : wx.cell? ⟨w.heap.size, 2, none⟩ = some (.string x.f2)
 b3 : wx.cell? ⟨w.heap.size, 3, none⟩ = some (.int .i64 x.f3)
 b4 : wx.cell? ⟨w.heap.size, 4, none⟩ = some (.int .i64 x.f4)
 b5 : wx.cell? ⟨w.heap.size, 5, none⟩ = some (.int .i64 x.f5)
 b6 : wx.cell? ⟨w.heap.size, 6, none⟩ = some (.slice A6 x.f6.length c6)
 b7 : wx.cell? ⟨w.heap.size, 7, none⟩ = some (.slice A7 x.f7.length c7)
 b8 : wx.cell? ⟨w.heap.size, 8, none⟩ = some (.int .i64 x.f8)
 b9 : wx.cell? ⟨w.heap.size, 9, none⟩ = some (.int .i64 x.f9)
 lt : w.heap.size < wx.heap.size
 below : Below w.heap.size w wx
theorem Box.made (w : World) (x : S40) (A6 : Option Addr) (c6 : Nat) (A7 : Option Addr) (c7 : Nat) :
 Box w (w.alloc (.cells #[.int .i64 x.f0, .string x.f1, .string x.f2, .int .i64 x.f3, .int .i64 x.f4, .int .i64 x.f5, .slice A6 x.f6.length c6, .slice A7 x.f7.length c7, .int .i64 x.f8, .int .i64 x.f9] 40)) x A6 c6 A7 c7 := by
 refine ⟨?_, ?_, ?_, ?_, ?_, ?_, ?_, ?_, ?_, ?_, ?_, ?_⟩
 all_goals first | exact below_alloc (Below.refl _ _) _ | (go_simp; done) | rfl
theorem Box.on {w wx w2 : World} {x : S40} {A6 : Option Addr} {c6 : Nat} {A7 : Option Addr} {c7 : Nat} (h : Box w wx x A6 c6 A7 c7) (hb : Below wx.heap.size wx w2) : Box w w2 x A6 c6 A7 c7 :=
 have k : ∀ o, w2.cell? ⟨w.heap.size, o, none⟩ = wx.cell? ⟨w.heap.size, o, none⟩ := fun o => hb.cell h.lt
 ⟨(k 0).trans h.b0, (k 1).trans h.b1, (k 2).trans h.b2, (k 3).trans h.b3, (k 4).trans h.b4, (k 5).trans h.b5, (k 6).trans h.b6, (k 7).trans h.b7, (k 8).trans h.b8, (k 9).trans h.b9, Nat.lt_of_lt_of_le h.lt hb.size, h.below.trans (hb.mono (Nat.le_of_lt h.lt))⟩
theorem Box.drewN {w wx : World} {x : S40} {A6 : Option Addr} {c6 : Nat} {A7 : Option Addr} {c7 : Nat} (h : Box w wx x A6 c6 A7 c7) (n : Nat) : Box w (wx.drewN n) x A6 c6 A7 c7 :=
 h.on ⟨rfl, rfl, rfl, Nat.le_refl _, fun _ _ => rfl⟩
def Parms (t : List S40) : Prop := ∀ x ∈ t, x.f7.length ≤ 4000 ∧ x.f6.length ≤ 4000
theorem rd_in {t : List S40} {a : Int} (h0 : 0 ≤ a) (h1 : a < t.length) : rd_T40 t a ∈ t := by
 have h : a.toNat < t.length := by omega
 have e : rd_T40 t a = t[a.toNat] := by unfold rd_T40; simp [List.getD_eq_getElem?_getD, List.getElem?_eq_getElem h]
 rw [e]
 exact List.getElem_mem h
end Go.Proofs.Ytgnbemgeiloegaa.Tg
namespace Go.Proofs.Ytgnbemgeiloegaa.Tg
open Go.RowKit Go.Maps Go.WideMaps
open Go.Proofs.YtgnbemgeiloegaaW.PrintWords Go.Proofs.YtgnbemgeiloegaaW.PrintLast Go.Proofs.YtgnbemgeiloegaaW.PrintMore
set_option linter.unusedVariables false
set_option linter.unusedSimpArgs false
open Go.Proofs.Ytgnbemgeiloegaa.PTypesGoods (S40 S42 S47 k40 k42 k47 rd_T40 rd_T42 rd_T47 at_T40 at_T42 at_T47)
abbrev Prs := List (Int × Int)
def sameRec (x y : S40) : Bool := decide (x.f0 = y.f0) && (x.f1.toList == y.f1.toList) && decide (x.f9 = y.f9) && decide (x.f9 ≠ -1)
def sameName (x y : S40) : Bool := !nul x.f2 && (x.f2.toList == y.f2.toList) && (x.f1.toList == y.f1.toList) && decide (x.f0 ≠ 11) && decide (y.f0 ≠ 11)
def sameLen (x y : S40) : Bool := nul x.f2 && nul y.f2 && decide (x.f3 = y.f3)
def parsR (f : Prs → Int → Int → Bool × Prs) : Prs → List S47 → List S47 → Bool × Prs
 | p, v :: vs, w :: ws => if v.f0 = w.f0 then (if (f p v.f1 w.f1).1 = true then parsR f (f p v.f1 w.f1).2 vs ws else f p v.f1 w.f1) else (false, p)
 | p, _, _ => (true, p)
def sameX (f : Prs → Int → Int → Bool × Prs) (p : Prs) (a b : Int) (x y : S40) : Bool × Prs :=
 if a = b then (true, p)
 else if x.f0 = 9 ∨ y.f0 = 9 then (sameRec x y, p)
 else if sameName x y = true then (true, p)
 else if x.f0 ≠ y.f0 then (false, p)
 else if (a, b) ∈ p then (true, p)
 else if x.f0 = 7 ∨ x.f0 = 8 ∨ x.f0 = 10 then (if sameLen x y = true then f ((a, b) :: p) x.f4 y.f4 else (false, (a, b) :: p))
 else if x.f0 = 11 then
  (if x.f7.length ≠ y.f7.length then (false, (a, b) :: p)
   else if (parsR f ((a, b) :: p) x.f7 y.f7).1 = true then f (parsR f ((a, b) :: p) x.f7 y.f7).2 x.f8 y.f8 else (false, (parsR f ((a, b) :: p) x.f7 y.f7).2))
 else (false, (a, b) :: p)
def sameF (t : List S40) : Nat → Prs → Int → Int → Bool × Prs
 | 0, p, _, _ => (false, p)
 | n + 1, p, a, b => sameX (sameF t n) p a b (rd_T40 t a) (rd_T40 t b)
def InT (t : List S40) (a : Int) : Prop := 0 ≤ a ∧ a < t.length
structure Inner (t : List S40) : Prop where
 elem : ∀ a, InT t a → (rd_T40 t a).f0 = 7 ∨ (rd_T40 t a).f0 = 8 ∨ (rd_T40 t a).f0 = 10 → InT t (rd_T40 t a).f4
 par : ∀ a, InT t a → (rd_T40 t a).f0 = 11 → (∀ v ∈ (rd_T40 t a).f7, InT t v.f1) ∧ InT t (rd_T40 t a).f8
 lo : 7 ≤ t.length
 hi : t.length ≤ 256
structure Pok (t : List S40) (p : Prs) : Prop where
 nodup : p.Nodup
 inT : ∀ q ∈ p, InT t q.1 ∧ InT t q.2
theorem Pok.cons {t : List S40} {p : Prs} {a b : Int} (h : Pok t p) (ha : InT t a) (hb : InT t b) (hn : (a, b) ∉ p) : Pok t ((a, b) :: p) := by
 refine ⟨List.nodup_cons.2 ⟨hn, h.nodup⟩, fun q hq => ?_⟩
 rcases List.mem_cons.1 hq with rfl | hq
 · exact ⟨ha, hb⟩
 · exact h.inT q hq
theorem Pok.nil (t : List S40) : Pok t [] := ⟨List.nodup_nil, fun q hq => by cases hq⟩
theorem nodup_len : ∀ (m : Nat) (l : List Nat), l.Nodup → (∀ k ∈ l, k < m) → l.length ≤ m
 | 0, l, _, h => by
  cases l with
  | nil => simp
  | cons k l => exact absurd (h k (by simp)) (by omega)
 | m + 1, l, hn, h => by
  by_cases hm : m ∈ l
  ·
   have h1 := nodup_len m (l.erase m) (hn.erase m) (fun k hk => by
    obtain ⟨k1, k2⟩ := (hn.mem_erase_iff).1 hk
    have := h k k2
    omega)
   rw [List.length_erase_of_mem hm] at h1
   omega
  ·
   exact Nat.le_succ_of_le (nodup_len m l hn (fun k hk => by
    have := h k hk
    rcases Nat.lt_or_ge k m with h2 | h2
    · exact h2
    · exact absurd ((by omega : k = m) ▸ hk) hm))
theorem map_nodup {α β : Type} {f : α → β} : ∀ {l : List α}, (∀ a ∈ l, ∀ b ∈ l, f a = f b → a = b) → l.Nodup → (l.map f).Nodup
 | [], _, _ => by simp
 | a :: l, hf, h => by
  obtain ⟨h1, h2⟩ := List.nodup_cons.1 h
  rw [List.map_cons, List.nodup_cons]
  refine ⟨fun hm => ?_, map_nodup (fun b hb c hc => hf b (by simp [hb]) c (by simp [hc])) h2⟩
  obtain ⟨b, hb, e⟩ := List.mem_map.1 hm
  exact h1 ((hf b (by simp [hb]) a (by simp) e) ▸ hb)
theorem Pok.len {t : List S40} {p : Prs} (h : Pok t p) : p.length ≤ t.length * t.length := by
 let m : Int × Int → Nat := fun q => q.1.toNat * t.length + q.2.toNat
 have h1 : (p.map m).Nodup := by
  refine map_nodup ?_ h.nodup
  intro q hq r hr e
  obtain ⟨⟨a1, a2⟩, b1, b2⟩ := h.inT q hq
  obtain ⟨⟨c1, c2⟩, d1, d2⟩ := h.inT r hr
  have e' : q.1.toNat * t.length + q.2.toNat = r.1.toNat * t.length + r.2.toNat := e
  have e1 : (q.1.toNat * t.length + q.2.toNat) / t.length = q.1.toNat := by
   rw [Nat.mul_comm, Nat.mul_add_div (by omega), Nat.div_eq_of_lt (by omega)]; rfl
  have e2 : (r.1.toNat * t.length + r.2.toNat) / t.length = r.1.toNat := by
   rw [Nat.mul_comm, Nat.mul_add_div (by omega), Nat.div_eq_of_lt (by omega)]; rfl
  have e3 : q.1.toNat = r.1.toNat := by rw [← e1, ← e2, e']
  rw [e3] at e'
  have e4 : q.2.toNat = r.2.toNat := by omega
  exact Prod.ext (by omega) (by omega)
 have h2 : ∀ k ∈ p.map m, k < t.length * t.length := by
  intro k hk
  obtain ⟨q, hq, rfl⟩ := List.mem_map.1 hk
  obtain ⟨⟨a1, a2⟩, b1, b2⟩ := h.inT q hq
  have : (q.1.toNat + 1) * t.length ≤ t.length * t.length := Nat.mul_le_mul_right _ (by omega)
  rw [Nat.add_mul, Nat.one_mul] at this
  show q.1.toNat * t.length + q.2.toNat < _
  omega
 have := nodup_len _ _ h1 h2
 simpa using this
theorem parsR_ok {t : List S40} {f : Prs → Int → Int → Bool × Prs} (hf : ∀ p a b, Pok t p → InT t a → InT t b → Pok t (f p a b).2 ∧ p.length ≤ (f p a b).2.length) :
 ∀ (vs ws : List S47) (p : Prs), Pok t p → (∀ v ∈ vs, InT t v.f1) → (∀ v ∈ ws, InT t v.f1) → Pok t (parsR f p vs ws).2 ∧ p.length ≤ (parsR f p vs ws).2.length
 | [], ws, p, h, _, _ => by unfold parsR; exact ⟨h, Nat.le_refl _⟩
 | v :: vs, [], p, h, _, _ => by unfold parsR; exact ⟨h, Nat.le_refl _⟩
 | v :: vs, w :: ws, p, h, h1, h2 => by
  have k := hf p v.f1 w.f1 h (h1 v (by simp)) (h2 w (by simp))
  unfold parsR
  split
  ·
   split
   ·
    obtain ⟨k1, k2⟩ := parsR_ok hf vs ws _ k.1 (fun u hu => h1 u (by simp [hu])) (fun u hu => h2 u (by simp [hu]))
    exact ⟨k1, Nat.le_trans k.2 k2⟩
   · exact k
  · exact ⟨h, Nat.le_refl _⟩
theorem sameF_ok {t : List S40} (hI : Inner t) : ∀ (n : Nat) (p : Prs) (a b : Int), Pok t p → InT t a → InT t b → Pok t (sameF t n p a b).2 ∧ p.length ≤ (sameF t n p a b).2.length
 | 0, p, a, b, h, _, _ => ⟨h, Nat.le_refl _⟩
 | n + 1, p, a, b, h, ha, hb => by
  have ih := sameF_ok hI n
  have hA := hI.elem a ha
  have hB := hI.elem b hb
  have pA := hI.par a ha
  have pB := hI.par b hb
  show Pok t (sameX (sameF t n) p a b (rd_T40 t a) (rd_T40 t b)).2 ∧ p.length ≤ (sameX (sameF t n) p a b (rd_T40 t a) (rd_T40 t b)).2.length
  generalize rd_T40 t a = x at hA pA
  generalize rd_T40 t b = y at hB pB
  unfold sameX
  split
  · exact ⟨h, Nat.le_refl _⟩
  split
  · exact ⟨h, Nat.le_refl _⟩
  split
  · exact ⟨h, Nat.le_refl _⟩
  split
  · exact ⟨h, Nat.le_refl _⟩
  rename_i e0
  have e0' : x.f0 = y.f0 := Classical.not_not.1 e0
  split
  · exact ⟨h, Nat.le_refl _⟩
  rename_i hn
  have h1 := h.cons ha hb hn
  split
  ·
   rename_i e7
   split
   ·
    obtain ⟨k1, k2⟩ := ih _ x.f4 y.f4 h1 (hA e7) (hB (e0' ▸ e7))
    exact ⟨k1, Nat.le_trans (by simp) k2⟩
   · exact ⟨h1, by simp⟩
  split
  ·
   rename_i e11
   split
   · exact ⟨h1, by simp⟩
   obtain ⟨k1, k2⟩ := parsR_ok ih x.f7 y.f7 _ h1 (pA e11).1 (pB (e0' ▸ e11)).1
   split
   ·
    obtain ⟨m1, m2⟩ := ih _ x.f8 y.f8 k1 (pA e11).2 (pB (e0' ▸ e11)).2
    exact ⟨m1, Nat.le_trans (Nat.le_trans (by simp) k2) m2⟩
   · exact ⟨k1, Nat.le_trans (by simp) k2⟩
  · exact ⟨h1, by simp⟩
open Classical in
noncomputable def metP (p : Prs) : Value → Option Int := fun v => if ∃ q ∈ p, v = keyP q.1 q.2 then some 1 else none
theorem metP_in {p : Prs} {a b : Int} (h : (a, b) ∈ p) : metP p (keyP a b) = some 1 := by
 unfold metP
 rw [if_pos ⟨(a, b), h, rfl⟩]
theorem metP_out {p : Prs} {a b : Int} (h : (a, b) ∉ p) : metP p (keyP a b) = none := by
 unfold metP
 rw [if_neg]
 rintro ⟨⟨c, d⟩, hq, e⟩
 simp [keyP] at e
 obtain ⟨rfl, rfl⟩ := e
 exact h hq
theorem metP_put (p : Prs) (a b : Int) : putG (metP p) (keyP a b) (some 1) = metP ((a, b) :: p) := by
 funext v
 unfold putG metP
 by_cases e : v = keyP a b
 · rw [if_pos e, if_pos ⟨(a, b), by simp, e⟩]
 ·
  rw [if_neg e]
  by_cases h : ∃ q ∈ p, v = keyP q.1 q.2
  ·
   obtain ⟨q, hq, e2⟩ := h
   rw [if_pos ⟨q, hq, e2⟩, if_pos ⟨q, by simp [hq], e2⟩]
  ·
   rw [if_neg h, if_neg]
   rintro ⟨q, hq, e2⟩
   rcases List.mem_cons.1 hq with rfl | hq
   · exact e e2
   · exact h ⟨q, hq, e2⟩
theorem metP_nil : metP [] = fun _ => none := by
 funext v
 simp [metP]
structure WP (w0 : World) (g : Nat) (p : Prs) (w : World) : Prop where
 map : MapG 83 w (.map (some g)) p.length (metP p)
 below : Below w0.heap.size w0 w
theorem WP.on {w0 w w1 : World} {g : Nat} {p : Prs} (h : WP w0 g p w) (hb : Below w.heap.size w w1) : WP w0 g p w1 := ⟨h.map.kept (hb.block _ h.map.lt), h.below.trans (hb.mono h.below.size)⟩
def SameAt (t : List S40) (w0 : World) (A : Option Addr) (c : Nat) (g n : Nat) : Prop :=
 ∀ (p : Prs) (a b : Int) (w : World), Pok t p → InT t a → InT t b → t.length * t.length < p.length + n → WP w0 g p w →
  Calls Try.prog 65 #[.map (some g), .slice A t.length c, .int .i64 a, .int .i64 b] w fun e w' => e = .returned (.bool (sameF t n p a b).1) ∧ WP w0 g (sameF t n p a b).2 w' ∧ KeepBut w w' g none
end Go.Proofs.Ytgnbemgeiloegaa.Tg
