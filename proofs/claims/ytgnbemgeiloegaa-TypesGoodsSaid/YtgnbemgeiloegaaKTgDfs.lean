import Derived.Test.YtgnbemgeiloegaaKPTypesGoodsx5
import Derived.Test.YtgnbemgeiloegaaKTgEnds
namespace Go.Proofs.Ytgnbemgeiloegaa.Tg
open Go.RowKit
open Go.Proofs.YtgnbemgeiloegaaW.PrintWords Go.Proofs.YtgnbemgeiloegaaW.PrintLast Go.Proofs.YtgnbemgeiloegaaW.PrintMore
set_option linter.unusedVariables false
set_option linter.unusedSimpArgs false
open Go.Proofs.Ytgnbemgeiloegaa.PTypesGoods (S40 S42 S47 k40 k42 k47 rd_T40 rd_T42 rd_T47 at_T40 at_T42 at_T47)
/-! ONE SEARCH FOR BOTH: 0 not met, 1 on the way, 2 done. -/
def visits (f : Int → List Int → Bool × List Int) : List Int → List Int → Bool × List Int
  | [], st => (true, st)
  | x :: xs, st => if (f x st).1 = true then visits f xs (f x st).2 else (false, (f x st).2)
def visit (g : Int → List Int) : Nat → Int → List Int → Bool × List Int
  | 0, _, st => (false, st)
  | n + 1, a, st => if rd st a = 1 then (false, st) else if rd st a = 2 then (true, st) else
      if (visits (visit g n) (g a) (st.set a.toNat 1)).1 = true then (true, (visits (visit g n) (g a) (st.set a.toNat 1)).2.set a.toNat 2) else (false, (visits (visit g n) (g a) (st.set a.toNat 1)).2)
def zeros (st : List Int) : Nat := st.count 0
def Val (st : List Int) : Prop := ∀ v ∈ st, v = 0 ∨ v = 1 ∨ v = 2
def At (m : Nat) (a : Int) : Prop := 0 ≤ a ∧ a < (m : Int)
theorem rd_set (st : List Int) (a b : Int) (v : Int) (ha : At st.length a) (hb : At st.length b) : rd (st.set a.toNat v) b = if b = a then v else rd st b := by
  unfold rd At at *
  simp only [List.getD_eq_getElem?_getD, List.getElem?_set]
  by_cases e : b = a
  · subst e
    have : b.toNat < st.length := by omega
    simp [this]
  · rw [if_neg e, if_neg (by omega)]
theorem rd_mem (st : List Int) (a : Int) (ha : At st.length a) : rd st a ∈ st := by
  unfold rd At at *
  have h : a.toNat < st.length := by omega
  rw [List.getD_eq_getElem?_getD, List.getElem?_eq_getElem h]
  exact List.getElem_mem h
theorem val_set {st : List Int} (h : Val st) (i : Nat) {v : Int} (hv : v = 0 ∨ v = 1 ∨ v = 2) : Val (st.set i v) := fun x hx => by
  rcases List.mem_or_eq_of_mem_set hx with h1 | h1
  · exact h x h1
  · rw [h1]; exact hv
theorem zeros_set_le (st : List Int) (i : Nat) {v : Int} (hv : v ≠ 0) : zeros (st.set i v) ≤ zeros st := by
  unfold zeros
  by_cases h : i < st.length
  · rw [List.count_set h]
    have : (v == 0) = false := by simp [hv]
    rw [this]
    simp only [Bool.false_eq_true, if_false, Nat.add_zero]
    omega
  · rw [List.set_eq_of_length_le (by omega)]
    exact Nat.le_refl _
theorem zeros_set_lt (st : List Int) (a : Int) {v : Int} (hv : v ≠ 0) (ha : At st.length a) (h0 : rd st a = 0) : zeros (st.set a.toNat v) < zeros st := by
  unfold zeros At at *
  have h : a.toNat < st.length := by omega
  have e : st[a.toNat] = 0 := by
    unfold rd at h0
    rw [List.getD_eq_getElem?_getD, List.getElem?_eq_getElem h] at h0
    exact h0
  rw [List.count_set h, e]
  have : (v == 0) = false := by simp [hv]
  rw [this]
  have hp : 0 < st.count 0 := List.count_pos_iff.2 (e ▸ List.getElem_mem h)
  simp only [Bool.false_eq_true, if_false, Nat.add_zero, beq_self_eq_true, if_true]
  omega
/-- what a search keeps -/
structure Keeps (st st' : List Int) : Prop where
  len : st'.length = st.length
  val : Val st → Val st'
  zer : zeros st' ≤ zeros st
theorem Keeps.refl (st : List Int) : Keeps st st := ⟨rfl, id, Nat.le_refl _⟩
theorem Keeps.trans {a b c : List Int} (h : Keeps a b) (k : Keeps b c) : Keeps a c := ⟨k.len.trans h.len, fun v => k.val (h.val v), Nat.le_trans k.zer h.zer⟩
theorem visits_keeps {f : Int → List Int → Bool × List Int} (h : ∀ a st, Keeps st (f a st).2) : ∀ (l : List Int) (st : List Int), Keeps st (visits f l st).2
  | [], st => Keeps.refl st
  | x :: xs, st => by
    unfold visits
    split
    · exact (h x st).trans (visits_keeps h xs _)
    · exact h x st
theorem set_keeps (st : List Int) (i : Nat) {v : Int} (hv : v = 1 ∨ v = 2) : Keeps st (st.set i v) := ⟨by simp, fun h => val_set h i (by omega), zeros_set_le st i (by omega)⟩
theorem visit_keeps (g : Int → List Int) : ∀ (n : Nat) (a : Int) (st : List Int), Keeps st (visit g n a st).2
  | 0, a, st => Keeps.refl st
  | n + 1, a, st => by
    have hv := visits_keeps (visit_keeps g n) (g a) (st.set a.toNat 1)
    have h1 := (set_keeps st a.toNat (v := 1) (by omega)).trans hv
    unfold visit
    split
    · exact Keeps.refl st
    · split
      · exact Keeps.refl st
      · split
        · exact h1.trans (set_keeps _ _ (by omega))
        · exact h1
/-! WHAT LIES IN A TYPE: for the reference, and for the program (a record without a base: 0). -/
def insR (t : List S40) (a : Int) : List Int :=
  if (rd_T40 t a).f0 = 7 ∨ (rd_T40 t a).f0 = 8 then [(rd_T40 t a).f4] else if (rd_T40 t a).f0 = 9 then (if (rd_T40 t a).f5 = 0 then [] else [(rd_T40 t a).f5]) ++ (rd_T40 t a).f6.map (·.f2) else []
def insP (t : List S40) (a : Int) : List Int :=
  if (rd_T40 t a).f0 = 7 ∨ (rd_T40 t a).f0 = 8 then [(rd_T40 t a).f4] else if (rd_T40 t a).f0 = 9 then (rd_T40 t a).f5 :: (rd_T40 t a).f6.map (·.f2) else []
/-- all that lies in types is a place, and there is not too much of it -/
structure Within (t : List S40) : Prop where
  place : ∀ a, At t.length a → ∀ b ∈ insP t a, At t.length b
  fields : ∀ a, At t.length a → (rd_T40 t a).f6.length ≤ 64
theorem insR_sub (t : List S40) (a b : Int) (h : b ∈ insR t a) : b ∈ insP t a := by
  unfold insR at h
  unfold insP
  by_cases h1 : (rd_T40 t a).f0 = 7 ∨ (rd_T40 t a).f0 = 8
  · rw [if_pos h1] at h ⊢
    exact h
  · rw [if_neg h1] at h ⊢
    by_cases h2 : (rd_T40 t a).f0 = 9
    · rw [if_pos h2] at h ⊢
      by_cases h3 : (rd_T40 t a).f5 = 0
      · rw [if_pos h3] at h
        exact List.mem_cons_of_mem _ h
      · rw [if_neg h3] at h
        exact h
    · rw [if_neg h2] at h
      cases h
/-! ### the reference's -/
section
variable {t : List S40}
theorem round_list (hw : Within t) (a : Int) (ha : At t.length a) (g : Int → List Int) (n : Nat) (l : List Int) (hl : l.length ≤ 70)
    (hin : ∀ b ∈ l, ∀ st, st.length = t.length → Val st → zeros st < n → Ev (fun k => PTypesGoods.spinetref13_round.f k t b st) (!(visit g n b st).1, (visit g n b st).2)) :
    ∀ (d i : Nat) (st : List Int), l.length - i = d → i ≤ l.length → st.length = t.length → Val st → zeros st < n →
      Ev (fun k => PTypesGoods.spinetref13_round.l1 k t a st l (i : Int)) (!(visits (visit g n) (l.drop i) st).1, if (visits (visit g n) (l.drop i) st).1 = true then (visits (visit g n) (l.drop i) st).2.set a.toNat 2 else (visits (visit g n) (l.drop i) st).2)
  | 0, i, st, hd, hi, hs, hv, hz => by
    have e : l.drop i = [] := List.drop_of_length_le (by omega)
    rw [e]
    simp only [visits, Bool.not_true, if_true]
    refine Ev.step (f := fun _ => some (false, st.set a.toNat 2)) (fun k => ?_) (Ev.now _)
    unfold At at ha
    rw [PTypesGoods.spinetref13_round.l1]
    rw [if_neg (by omega), if_pos ha.1, if_pos (by omega)]
  | d + 1, i, st, hd, hi, hs, hv, hz => by
    have hlt : i < l.length := by omega
    have c1 : (i : Int) < (l.length : Int) := by omega
    have c2 : 0 ≤ (i : Int) := by omega
    have o1 : l.length - (i + 1) = d := by omega
    have e : l.drop i = l[i] :: l.drop (i + 1) := List.drop_eq_getElem_cons hlt
    have er : rd l (i : Int) = l[i] := by unfold rd; simp [List.getD_eq_getElem?_getD, List.getElem?_eq_getElem hlt]
    have ew : wrap64 ((i : Int) + 1) = ((i + 1 : Nat) : Int) := by unfold wrap64; omega
    have h1 := hin l[i] (List.getElem_mem hlt) st hs hv hz
    have hk := visit_keeps g n l[i] st
    rw [e]
    refine Ev.step (f := fun k => (PTypesGoods.spinetref13_round.f k t (rd l i) st).bind fun b => if b.1 = true then some (true, b.2) else PTypesGoods.spinetref13_round.l1 k t a b.2 l (wrap64 ((i : Int) + 1))) (fun k => ?_) ?_
    · rw [PTypesGoods.spinetref13_round.l1, if_pos c1, if_pos c2]
    · rw [er, ew]
      refine Ev.bind h1 ?_
      cases hb : (visit g n l[i] st).1 with
      | false =>
        simp only [visits, hb, Bool.not_false, if_true, Bool.false_eq_true, if_false]
        exact Ev.now _
      | true =>
        have h2 := round_list hw a ha g n l hl hin d (i + 1) (visit g n l[i] st).2 o1 hlt (hk.len.trans hs) (hk.val hv) (Nat.lt_of_le_of_lt hk.zer hz)
        simp only [visits, hb, Bool.not_true, if_true, Bool.false_eq_true, if_false]
        exact h2
theorem round_fields (hw : Within t) (a : Int) (ha : At t.length a) (st : List Int) (r : Bool × List Int) :
    ∀ (d i : Nat) (acc : List Int), (rd_T40 t a).f6.length - i = d → i ≤ (rd_T40 t a).f6.length → acc.length ≤ i + 1 →
      Ev (fun k => PTypesGoods.spinetref13_round.j3 k t a st (acc ++ ((rd_T40 t a).f6.drop i).map (·.f2))) r →
      Ev (fun k => PTypesGoods.spinetref13_round.l0 k t a st acc (i : Int)) r
  | 0, i, acc, hd, hi, hacc, h => by
    have hl := hw.fields a ha
    have e : (rd_T40 t a).f6.drop i = [] := List.drop_of_length_le (by omega)
    rw [e, List.map_nil, List.append_nil] at h
    refine Ev.step (f := fun k => PTypesGoods.spinetref13_round.j3 k t a st acc) (fun k => ?_) h
    unfold At at ha
    rw [PTypesGoods.spinetref13_round.l0]
    rw [if_pos ha.1, if_pos ha.2, if_neg (by omega)]
  | d + 1, i, acc, hd, hi, hacc, h => by
    have hl := hw.fields a ha
    have hlt : i < (rd_T40 t a).f6.length := by omega
    have c1 : (i : Int) < ((rd_T40 t a).f6.length : Int) := by omega
    have c2 : 0 ≤ (i : Int) := by omega
    have c3 : acc.length < 17592186044416 := by omega
    have o1 : (rd_T40 t a).f6.length - (i + 1) = d := by omega
    have o2 : (acc ++ [((rd_T40 t a).f6[i]).f2]).length ≤ i + 1 + 1 := by simp; omega
    have e : (rd_T40 t a).f6.drop i = (rd_T40 t a).f6[i] :: (rd_T40 t a).f6.drop (i + 1) := List.drop_eq_getElem_cons hlt
    have er : rd_T42 (rd_T40 t a).f6 (i : Int) = (rd_T40 t a).f6[i] := by unfold rd_T42; simp [List.getD_eq_getElem?_getD, List.getElem?_eq_getElem hlt]
    have ew : wrap64 ((i : Int) + 1) = ((i + 1 : Nat) : Int) := by unfold wrap64; omega
    rw [e, List.map_cons, List.append_cons] at h
    have h2 := round_fields hw a ha st r d (i + 1) (acc ++ [((rd_T40 t a).f6[i]).f2]) o1 hlt o2 h
    refine Ev.step (f := fun k => PTypesGoods.spinetref13_round.l0 k t a st (acc ++ [((rd_T40 t a).f6[i]).f2]) ((i + 1 : Nat) : Int)) (fun k => ?_) h2
    unfold At at ha
    rw [PTypesGoods.spinetref13_round.l0, if_pos ha.1, if_pos ha.2, if_pos c1, if_pos c2, if_pos c3, er, ew]
theorem round_is (hw : Within t) : ∀ (n : Nat) (a : Int) (st : List Int), At t.length a → st.length = t.length → Val st → zeros st < n →
    Ev (fun k => PTypesGoods.spinetref13_round.f k t a st) (!(visit (insR t) n a st).1, (visit (insR t) n a st).2)
  | 0, a, st, ha, hs, hv, hz => absurd hz (Nat.not_lt_zero _)
  | n + 1, a, st, ha, hs, hv, hz => by
    have has : At st.length a := by rw [hs]; exact ha
    have hm := hv _ (rd_mem st a has)
    have a0 := ha.1
    have a1 := ha.2
    have a2 : a < (st.length : Int) := has.2
    by_cases h1 : rd st a = 1
    · refine Ev.step (f := fun _ => some (true, st)) (fun k => ?_) (by simp only [visit, h1, if_true, Bool.not_false]; exact Ev.now _)
      rw [PTypesGoods.spinetref13_round.f, if_pos a0, if_pos a2, if_pos h1]
    by_cases h2 : rd st a = 2
    · have e : visit (insR t) (n + 1) a st = (true, st) := by simp only [visit]; rw [if_neg h1, if_pos h2]
      rw [e]
      refine Ev.step (f := fun _ => some (false, st)) (fun k => ?_) (Ev.now _)
      rw [PTypesGoods.spinetref13_round.f, if_pos a0, if_pos a2, if_neg h1, if_pos h2]
    have h0 : rd st a = 0 := by rcases hm with h | h | h <;> first | exact h | exact absurd h h1 | exact absurd h h2
    have hs1 : (st.set a.toNat 1).length = t.length := by rw [List.length_set]; exact hs
    have hv1 := val_set hv a.toNat (v := 1) (by omega)
    have hz1 : zeros (st.set a.toNat 1) < n := by
      have := zeros_set_lt st a (v := 1) (by omega) has h0
      omega
    have key : ∀ l : List Int, l = insR t a → Ev (fun k => PTypesGoods.spinetref13_round.j3 k t a (st.set a.toNat 1) l) (!(visit (insR t) (n + 1) a st).1, (visit (insR t) (n + 1) a st).2) := by
      intro l hl
      have hlen : l.length ≤ 70 := by
        have hf := hw.fields a ha
        rw [hl]; unfold insR
        split
        · simp
        · split
          · split <;> simp <;> omega
          · simp
      have hq := round_list hw a ha (insR t) n l hlen (fun b hb st' hs' hv' hz' => round_is hw n b st' (hw.place a ha b (insR_sub t a b (hl ▸ hb))) hs' hv' hz') _ 0 (st.set a.toNat 1) rfl (Nat.zero_le _) hs1 hv1 hz1
      rw [List.drop_zero] at hq
      have e : visit (insR t) (n + 1) a st = if (visits (visit (insR t) n) l (st.set a.toNat 1)).1 = true then (true, (visits (visit (insR t) n) l (st.set a.toNat 1)).2.set a.toNat 2) else (false, (visits (visit (insR t) n) l (st.set a.toNat 1)).2) := by
        simp only [visit]; rw [if_neg h1, if_neg h2, hl]
      rw [e]
      refine Ev.step (f := fun k => PTypesGoods.spinetref13_round.l1 k t a (st.set a.toNat 1) l 0) (fun k => by rw [PTypesGoods.spinetref13_round.j3]) ?_
      cases hb : (visits (visit (insR t) n) l (st.set a.toNat 1)).1 with
      | false =>
        rw [hb] at hq
        simpa using hq
      | true =>
        rw [hb] at hq
        simpa using hq
    have jkey : ∀ b : Bool, (b = true ↔ (rd_T40 t a).f0 = 7 ∨ (rd_T40 t a).f0 = 8) → Ev (fun k => PTypesGoods.spinetref13_round.j0 k t a (st.set a.toNat 1) [] (rd_T40 t a).f0 b) (!(visit (insR t) (n + 1) a st).1, (visit (insR t) (n + 1) a st).2) := by
      intro b hb
      cases b with
      | true =>
        have hf := hb.1 rfl
        refine Ev.step (f := fun k => PTypesGoods.spinetref13_round.j3 k t a (st.set a.toNat 1) [(rd_T40 t a).f4]) (fun k => ?_) (key _ (by unfold insR; rw [if_pos hf]))
        rw [PTypesGoods.spinetref13_round.j0, if_pos rfl, if_pos a0, if_pos a1]
      | false =>
        have hf : ¬ ((rd_T40 t a).f0 = 7 ∨ (rd_T40 t a).f0 = 8) := fun h => by simpa using hb.2 h
        by_cases h9 : (rd_T40 t a).f0 = 9
        · have hj1 : ∀ acc : List Int, acc.length ≤ 1 → acc = (if (rd_T40 t a).f5 = 0 then [] else [(rd_T40 t a).f5]) → Ev (fun k => PTypesGoods.spinetref13_round.j1 k t a (st.set a.toNat 1) acc) (!(visit (insR t) (n + 1) a st).1, (visit (insR t) (n + 1) a st).2) := by
            intro acc hacc he
            refine Ev.step (f := fun k => PTypesGoods.spinetref13_round.l0 k t a (st.set a.toNat 1) acc 0) (fun k => by rw [PTypesGoods.spinetref13_round.j1]) ?_
            refine round_fields hw a ha _ _ _ 0 acc rfl (Nat.zero_le _) (by omega) ?_
            rw [List.drop_zero]
            refine key _ ?_
            unfold insR
            rw [if_neg hf, if_pos h9, he]
          by_cases h5 : (rd_T40 t a).f5 = 0
          · refine Ev.step (f := fun k => PTypesGoods.spinetref13_round.j1 k t a (st.set a.toNat 1) []) (fun k => ?_) (hj1 [] (by simp) (by rw [if_pos h5]))
            rw [PTypesGoods.spinetref13_round.j0, if_neg (by decide), if_pos h9, if_pos a0, if_pos a1, if_pos h5]
          · refine Ev.step (f := fun k => PTypesGoods.spinetref13_round.j1 k t a (st.set a.toNat 1) [(rd_T40 t a).f5]) (fun k => ?_) (hj1 _ (by simp) (by rw [if_neg h5]))
            rw [PTypesGoods.spinetref13_round.j0, if_neg (by decide), if_pos h9, if_pos a0, if_pos a1, if_neg h5]
        · refine Ev.step (f := fun k => PTypesGoods.spinetref13_round.j3 k t a (st.set a.toNat 1) []) (fun k => ?_) (key [] (by unfold insR; rw [if_neg hf, if_neg h9]))
          rw [PTypesGoods.spinetref13_round.j0, if_neg (by decide), if_neg h9]
    by_cases h7 : (rd_T40 t a).f0 = 7
    · refine Ev.step (f := fun k => PTypesGoods.spinetref13_round.j0 k t a (st.set a.toNat 1) [] (rd_T40 t a).f0 ((rd_T40 t a).f0 == 7)) (fun k => ?_) (jkey _ (by simp [h7]))
      rw [PTypesGoods.spinetref13_round.f, if_pos a0, if_pos a2, if_neg h1, if_neg h2, Option.bind_some, if_pos a1, if_pos h7]
    · refine Ev.step (f := fun k => PTypesGoods.spinetref13_round.j0 k t a (st.set a.toNat 1) [] (rd_T40 t a).f0 ((rd_T40 t a).f0 == 8)) (fun k => ?_) (jkey _ (by simp [h7]))
      rw [PTypesGoods.spinetref13_round.f, if_pos a0, if_pos a2, if_neg h1, if_neg h2, Option.bind_some, if_pos a1, if_neg h7]
end
end Go.Proofs.Ytgnbemgeiloegaa.Tg
