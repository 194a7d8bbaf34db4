import Derived.Test.YtgnbemgeiloegaaMPTypesGoodsx5
import Derived.Test.YtgnbemgeiloegaaMTgEnds
namespace Go.Proofs.Ytgnbemgeiloegaa.Tg
open Go.RowKit
open Go.Proofs.YtgnbemgeiloegaaW.PrintWords Go.Proofs.YtgnbemgeiloegaaW.PrintLast Go.Proofs.YtgnbemgeiloegaaW.PrintMore
set_option linter.unusedVariables false
set_option linter.unusedSimpArgs false
open Go.Proofs.Ytgnbemgeiloegaa.PTypesGoods (S40 S42 S47 k40 k42 k47 rd_T40 rd_T42 rd_T47 at_T40 at_T42 at_T47)
def visits (f : Int → List Int → Bool × List Int) : List Int → List Int → Bool × List Int
 | [], st => (true, st)
 | x :: xs, st => if (f x st).1 = true then visits f xs (f x st).2 else (false, (f x st).2)
def visit (g : Int → List Int) : Nat → Int → List Int → Bool × List Int
 | 0, _, st => (false, st)
 | n + 1, a, st => if rd st a = 1 then (false, st) else if rd st a = 2 then (true, st) else
  if (visits (visit g n) (g a) (st.set a.toNat 1)).1 = true then (true, (visits (visit g n) (g a) (st.set a.toNat 1)).2.set a.toNat 2) else (false, (visits (visit g n) (g a) (st.set a.toNat 1)).2)
def zeros (st : List Int) : Nat := st.count 0
def Val (st : List Int) : Prop := ∀ v ∈ st, v = 0 ∨ v = 1 ∨ v = 2
def At (m : Nat) (a : Int) : Prop := 0 ≤ a ∧ a < (m : Int)
theorem rd_set (st : List Int) (a b : Int) (v : Int) (ha : At st.length a) (hb : At st.length b) : rd (st.set a.toNat v) b = if b = a then v else rd st b := by
 unfold rd At at *
 simp only [List.getD_eq_getElem?_getD, List.getElem?_set]
 by_cases e : b = a
 ·
  subst e
  have : b.toNat < st.length := by omega
  simp [this]
 · rw [if_neg e, if_neg (by omega)]
theorem rd_mem (st : List Int) (a : Int) (ha : At st.length a) : rd st a ∈ st := by
 unfold rd At at *
 have h : a.toNat < st.length := by omega
 rw [List.getD_eq_getElem?_getD, List.getElem?_eq_getElem h]
 exact List.getElem_mem h
theorem val_set {st : List Int} (h : Val st) (i : Nat) {v : Int} (hv : v = 0 ∨ v = 1 ∨ v = 2) : Val (st.set i v) := fun x hx => by
 rcases List.mem_or_eq_of_mem_set hx with h1 | h1
 · exact h x h1
 · rw [h1]; exact hv
theorem zeros_set_le (st : List Int) (i : Nat) {v : Int} (hv : v ≠ 0) : zeros (st.set i v) ≤ zeros st := by
 unfold zeros
 by_cases h : i < st.length
 ·
  rw [List.count_set h]
  have : (v == 0) = false := by simp [hv]
  rw [this]
  simp only [Bool.false_eq_true, if_false, Nat.add_zero]
  omega
 ·
  rw [List.set_eq_of_length_le (by omega)]
  exact Nat.le_refl _
theorem zeros_set_lt (st : List Int) (a : Int) {v : Int} (hv : v ≠ 0) (ha : At st.length a) (h0 : rd st a = 0) : zeros (st.set a.toNat v) < zeros st := by
 unfold zeros At at *
 have h : a.toNat < st.length := by omega
 have e : st[a.toNat] = 0 := by
  unfold rd at h0
  rw [List.getD_eq_getElem?_getD, List.getElem?_eq_getElem h] at h0
  exact h0
 rw [List.count_set h, e]
 have : (v == 0) = false := by simp [hv]
 rw [this]
 have hp : 0 < st.count 0 := List.count_pos_iff.2 (e ▸ List.getElem_mem h)
 simp only [Bool.false_eq_true, if_false, Nat.add_zero, beq_self_eq_true, if_true]
 omega
structure Keeps (st st' : List Int) : Prop where
 len : st'.length = st.length
 val : Val st → Val st'
 zer : zeros st' ≤ zeros st
theorem Keeps.refl (st : List Int) : Keeps st st := ⟨rfl, id, Nat.le_refl _⟩
theorem Keeps.trans {a b c : List Int} (h : Keeps a b) (k : Keeps b c) : Keeps a c := ⟨k.len.trans h.len, fun v => k.val (h.val v), Nat.le_trans k.zer h.zer⟩
theorem visits_keeps {f : Int → List Int → Bool × List Int} (h : ∀ a st, Keeps st (f a st).2) : ∀ (l : List Int) (st : List Int), Keeps st (visits f l st).2
 | [], st => Keeps.refl st
 | x :: xs, st => by
  unfold visits
  split
  · exact (h x st).trans (visits_keeps h xs _)
  · exact h x st
theorem set_keeps (st : List Int) (i : Nat) {v : Int} (hv : v = 1 ∨ v = 2) : Keeps st (st.set i v) := ⟨by simp, fun h => val_set h i (by omega), zeros_set_le st i (by omega)⟩
theorem visit_keeps (g : Int → List Int) : ∀ (n : Nat) (a : Int) (st : List Int), Keeps st (visit g n a st).2
 | 0, a, st => Keeps.refl st
 | n + 1, a, st => by
  have hv := visits_keeps (visit_keeps g n) (g a) (st.set a.toNat 1)
  have h1 := (set_keeps st a.toNat (v := 1) (by omega)).trans hv
  unfold visit
  split
  · exact Keeps.refl st
  ·
   split
   · exact Keeps.refl st
   ·
    split
    · exact h1.trans (set_keeps _ _ (by omega))
    · exact h1
def insR (t : List S40) (a : Int) : List Int :=
 if (rd_T40 t a).f0 = 7 ∨ (rd_T40 t a).f0 = 8 then [(rd_T40 t a).f4] else if (rd_T40 t a).f0 = 9 then (if (rd_T40 t a).f5 = 0 then [] else [(rd_T40 t a).f5]) ++ (rd_T40 t a).f6.map (·.f2) else []
def insP (t : List S40) (a : Int) : List Int :=
 if (rd_T40 t a).f0 = 7 ∨ (rd_T40 t a).f0 = 8 then [(rd_T40 t a).f4] else if (rd_T40 t a).f0 = 9 then (rd_T40 t a).f5 :: (rd_T40 t a).f6.map (·.f2) else []
structure Within (t : List S40) : Prop where
 place : ∀ a, At t.length a → ∀ b ∈ insP t a, At t.length b
 fields : ∀ a, At t.length a → (rd_T40 t a).f6.length ≤ 64
theorem insR_sub (t : List S40) (a b : Int) (h : b ∈ insR t a) : b ∈ insP t a := by
 unfold insR at h
 unfold insP
 by_cases h1 : (rd_T40 t a).f0 = 7 ∨ (rd_T40 t a).f0 = 8
 ·
  rw [if_pos h1] at h ⊢
  exact h
 ·
  rw [if_neg h1] at h ⊢
  by_cases h2 : (rd_T40 t a).f0 = 9
  ·
   rw [if_pos h2] at h ⊢
   by_cases h3 : (rd_T40 t a).f5 = 0
   ·
    rw [if_pos h3] at h
    exact List.mem_cons_of_mem _ h
   ·
    rw [if_neg h3] at h
    exact h
  ·
   rw [if_neg h2] at h
   cases h
section
variable {t : List S40}
theorem round_list (hw : Within t) (a : Int) (ha : At t.length a) (g : Int → List Int) (n : Nat) (l : List Int) (hl : l.length ≤ 70)
 (hin : ∀ b ∈ l, ∀ st, st.length = t.length → Val st → zeros st < n → Ev (fun k => PTypesGoods.spinetref13_round.f k t b st) (!(visit g n b st).1, (visit g n b st).2)) :
 ∀ (d i : Nat) (st : List Int), l.length - i = d → i ≤ l.length → st.length = t.length → Val st → zeros st < n →
  Ev (fun k => PTypesGoods.spinetref13_round.l1 k t a st l (i : Int)) (!(visits (visit g n) (l.drop i) st).1, if (visits (visit g n) (l.drop i) st).1 = true then (visits (visit g n) (l.drop i) st).2.set a.toNat 2 else (visits (visit g n) (l.drop i) st).2)
 | 0, i, st, hd, hi, hs, hv, hz => by
  have e : l.drop i = [] := List.drop_of_length_le (by omega)
  rw [e]
  simp only [visits, Bool.not_true, if_true]
  refine Ev.step (f := fun _ => some (false, st.set a.toNat 2)) (fun k => ?_) (Ev.now _)
  unfold At at ha
  rw [PTypesGoods.spinetref13_round.l1]
  rw [if_neg (by omega), if_pos ha.1, if_pos (by omega)]
 | d + 1, i, st, hd, hi, hs, hv, hz => by
  have hlt : i < l.length := by omega
  have c1 : (i : Int) < (l.length : Int) := by omega
  have c2 : 0 ≤ (i : Int) := by omega
  have o1 : l.length - (i + 1) = d := by omega
  have e : l.drop i = l[i] :: l.drop (i + 1) := List.drop_eq_getElem_cons hlt
  have er : rd l (i : Int) = l[i] := by unfold rd; simp [List.getD_eq_getElem?_getD, List.getElem?_eq_getElem hlt]
  have ew : wrap64 ((i : Int) + 1) = ((i + 1 : Nat) : Int) := by unfold wrap64; omega
  have h1 := hin l[i] (List.getElem_mem hlt) st hs hv hz
  have hk := visit_keeps g n l[i] st
  rw [e]
  refine Ev.step (f := fun k => (PTypesGoods.spinetref13_round.f k t (rd l i) st).bind fun b => if b.1 = true then some (true, b.2) else PTypesGoods.spinetref13_round.l1 k t a b.2 l (wrap64 ((i : Int) + 1))) (fun k => ?_) ?_
  · rw [PTypesGoods.spinetref13_round.l1, if_pos c1, if_pos c2]
  ·
   rw [er, ew]
   refine Ev.bind h1 ?_
   cases hb : (visit g n l[i] st).1 with
   | false =>
    simp only [visits, hb, Bool.not_false, if_true, Bool.false_eq_true, if_false]
    exact Ev.now _
   | true =>
    have h2 := round_list hw a ha g n l hl hin d (i + 1) (visit g n l[i] st).2 o1 hlt (hk.len.trans hs) (hk.val hv) (Nat.lt_of_le_of_lt hk.zer hz)
    simp only [visits, hb, Bool.not_true, if_true, Bool.false_eq_true, if_false]
    exact h2
theorem round_fields (hw : Within t) (a : Int) (ha : At t.length a) (st : List Int) (r : Bool × List Int) :
 ∀ (d i : Nat) (acc : List Int), (rd_T40 t a).f6.length - i = d → i ≤ (rd_T40 t a).f6.length → acc.length ≤ i + 1 →
  Ev (fun k => PTypesGoods.spinetref13_round.j3 k t a st (acc ++ ((rd_T40 t a).f6.drop i).map (·.f2))) r →
  Ev (fun k => PTypesGoods.spinetref13_round.l0 k t a st acc (i : Int)) r
 | 0, i, acc, hd, hi, hacc, h => by
  have hl := hw.fields a ha
  have e : (rd_T40 t a).f6.drop i = [] := List.drop_of_length_le (by omega)
  rw [e, List.map_nil, List.append_nil] at h
  refine Ev.step (f := fun k => PTypesGoods.spinetref13_round.j3 k t a st acc) (fun k => ?_) h
  unfold At at ha
  rw [PTypesGoods.spinetref13_round.l0]
  rw [if_pos ha.1, if_pos ha.2, if_neg (by omega)]
 | d + 1, i, acc, hd, hi, hacc, h => by
  have hl := hw.fields a ha
  have hlt : i < (rd_T40 t a).f6.length := by omega
  have c1 : (i : Int) < ((rd_T40 t a).f6.length : Int) := by omega
  have c2 : 0 ≤ (i : Int) := by omega
  have c3 : acc.length < 17592186044416 := by omega
  have o1 : (rd_T40 t a).f6.length - (i + 1) = d := by omega
  have o2 : (acc ++ [((rd_T40 t a).f6[i]).f2]).length ≤ i + 1 + 1 := by simp; omega
  have e : (rd_T40 t a).f6.drop i = (rd_T40 t a).f6[i] :: (rd_T40 t a).f6.drop (i + 1) := List.drop_eq_getElem_cons hlt
  have er : rd_T42 (rd_T40 t a).f6 (i : Int) = (rd_T40 t a).f6[i] := by unfold rd_T42; simp [List.getD_eq_getElem?_getD, List.getElem?_eq_getElem hlt]
  have ew : wrap64 ((i : Int) + 1) = ((i + 1 : Nat) : Int) := by unfold wrap64; omega
  rw [e, List.map_cons, List.append_cons] at h
  have h2 := round_fields hw a ha st r d (i + 1) (acc ++ [((rd_T40 t a).f6[i]).f2]) o1 hlt o2 h
  refine Ev.step (f := fun k => PTypesGoods.spinetref13_round.l0 k t a st (acc ++ [((rd_T40 t a).f6[i]).f2]) ((i + 1 : Nat) : Int)) (fun k => ?_) h2
  unfold At at ha
  rw [PTypesGoods.spinetref13_round.l0, if_pos ha.1, if_pos ha.2, if_pos c1, if_pos c2, if_pos c3, er, ew]
theorem round_is (hw : Within t) : ∀ (n : Nat) (a : Int) (st : List Int), At t.length a → st.length = t.length → Val st → zeros st < n →
 Ev (fun k => PTypesGoods.spinetref13_round.f k t a st) (!(visit (insR t) n a st).1, (visit (insR t) n a st).2)
 | 0, a, st, ha, hs, hv, hz => absurd hz (Nat.not_lt_zero _)
 | n + 1, a, st, ha, hs, hv, hz => by
  have has : At st.length a := by rw [hs]; exact ha
  have hm := hv _ (rd_mem st a has)
  have a0 := ha.1
  have a1 := ha.2
  have a2 : a < (st.length : Int) := has.2
  by_cases h1 : rd st a = 1
  ·
   refine Ev.step (f := fun _ => some (true, st)) (fun k => ?_) (by simp only [visit, h1, if_true, Bool.not_false]; exact Ev.now _)
   rw [PTypesGoods.spinetref13_round.f, if_pos a0, if_pos a2, if_pos h1]
  by_cases h2 : rd st a = 2
  ·
   have e : visit (insR t) (n + 1) a st = (true, st) := by simp only [visit]; rw [if_neg h1, if_pos h2]
   rw [e]
   refine Ev.step (f := fun _ => some (false, st)) (fun k => ?_) (Ev.now _)
   rw [PTypesGoods.spinetref13_round.f, if_pos a0, if_pos a2, if_neg h1, if_pos h2]
  have h0 : rd st a = 0 := by rcases hm with h | h | h <;> first | exact h | exact absurd h h1 | exact absurd h h2
  have hs1 : (st.set a.toNat 1).length = t.length := by rw [List.length_set]; exact hs
  have hv1 := val_set hv a.toNat (v := 1) (by omega)
  have hz1 : zeros (st.set a.toNat 1) < n := by
   have := zeros_set_lt st a (v := 1) (by omega) has h0
   omega
  have key : ∀ l : List Int, l = insR t a → Ev (fun k => PTypesGoods.spinetref13_round.j3 k t a (st.set a.toNat 1) l) (!(visit (insR t) (n + 1) a st).1, (visit (insR t) (n + 1) a st).2) := by
   intro l hl
   have hlen : l.length ≤ 70 := by
    have hf := hw.fields a ha
    rw [hl]; unfold insR
    split
    · simp
    ·
     split
     · split <;> simp <;> omega
     · simp
   have hq := round_list hw a ha (insR t) n l hlen (fun b hb st' hs' hv' hz' => round_is hw n b st' (hw.place a ha b (insR_sub t a b (hl ▸ hb))) hs' hv' hz') _ 0 (st.set a.toNat 1) rfl (Nat.zero_le _) hs1 hv1 hz1
   rw [List.drop_zero] at hq
   have e : visit (insR t) (n + 1) a st = if (visits (visit (insR t) n) l (st.set a.toNat 1)).1 = true then (true, (visits (visit (insR t) n) l (st.set a.toNat 1)).2.set a.toNat 2) else (false, (visits (visit (insR t) n) l (st.set a.toNat 1)).2) := by
    simp only [visit]; rw [if_neg h1, if_neg h2, hl]
   rw [e]
   refine Ev.step (f := fun k => PTypesGoods.spinetref13_round.l1 k t a (st.set a.toNat 1) l 0) (fun k => by rw [PTypesGoods.spinetref13_round.j3]) ?_
   cases hb : (visits (visit (insR t) n) l (st.set a.toNat 1)).1 with
   | false =>
    rw [hb] at hq
    simpa using hq
   | true =>
    rw [hb] at hq
    simpa using hq
  have jkey : ∀ b : Bool, (b = true ↔ (rd_T40 t a).f0 = 7 ∨ (rd_T40 t a).f0 = 8) → Ev (fun k => PTypesGoods.spinetref13_round.j0 k t a (st.set a.toNat 1) [] (rd_T40 t a).f0 b) (!(visit (insR t) (n + 1) a st).1, (visit (insR t) (n + 1) a st).2) := by
   intro b hb
   cases b with
   | true =>
    have hf := hb.1 rfl
    refine Ev.step (f := fun k => PTypesGoods.spinetref13_round.j3 k t a (st.set a.toNat 1) [(rd_T40 t a).f4]) (fun k => ?_) (key _ (by unfold insR; rw [if_pos hf]))
    rw [PTypesGoods.spinetref13_round.j0, if_pos rfl, if_pos a0, if_pos a1]
   | false =>
    have hf : ¬ ((rd_T40 t a).f0 = 7 ∨ (rd_T40 t a).f0 = 8) := fun h => by simpa using hb.2 h
    by_cases h9 : (rd_T40 t a).f0 = 9
    ·
     have hj1 : ∀ acc : List Int, acc.length ≤ 1 → acc = (if (rd_T40 t a).f5 = 0 then [] else [(rd_T40 t a).f5]) → Ev (fun k => PTypesGoods.spinetref13_round.j1 k t a (st.set a.toNat 1) acc) (!(visit (insR t) (n + 1) a st).1, (visit (insR t) (n + 1) a st).2) := by
      intro acc hacc he
      refine Ev.step (f := fun k => PTypesGoods.spinetref13_round.l0 k t a (st.set a.toNat 1) acc 0) (fun k => by rw [PTypesGoods.spinetref13_round.j1]) ?_
      refine round_fields hw a ha _ _ _ 0 acc rfl (Nat.zero_le _) (by omega) ?_
      rw [List.drop_zero]
      refine key _ ?_
      unfold insR
      rw [if_neg hf, if_pos h9, he]
     by_cases h5 : (rd_T40 t a).f5 = 0
     ·
      refine Ev.step (f := fun k => PTypesGoods.spinetref13_round.j1 k t a (st.set a.toNat 1) []) (fun k => ?_) (hj1 [] (by simp) (by rw [if_pos h5]))
      rw [PTypesGoods.spinetref13_round.j0, if_neg (by decide), if_pos h9, if_pos a0, if_pos a1, if_pos h5]
     ·
      refine Ev.step (f := fun k => PTypesGoods.spinetref13_round.j1 k t a (st.set a.toNat 1) [(rd_T40 t a).f5]) (fun k => ?_) (hj1 _ (by simp) (by rw [if_neg h5]))
      rw [PTypesGoods.spinetref13_round.j0, if_neg (by decide), if_pos h9, if_pos a0, if_pos a1, if_neg h5]
    ·
     refine Ev.step (f := fun k => PTypesGoods.spinetref13_round.j3 k t a (st.set a.toNat 1) []) (fun k => ?_) (key [] (by unfold insR; rw [if_neg hf, if_neg h9]))
     rw [PTypesGoods.spinetref13_round.j0, if_neg (by decide), if_neg h9]
  by_cases h7 : (rd_T40 t a).f0 = 7
  ·
   refine Ev.step (f := fun k => PTypesGoods.spinetref13_round.j0 k t a (st.set a.toNat 1) [] (rd_T40 t a).f0 ((rd_T40 t a).f0 == 7)) (fun k => ?_) (jkey _ (by simp [h7]))
   rw [PTypesGoods.spinetref13_round.f, if_pos a0, if_pos a2, if_neg h1, if_neg h2, Option.bind_some, if_pos a1, if_pos h7]
  ·
   refine Ev.step (f := fun k => PTypesGoods.spinetref13_round.j0 k t a (st.set a.toNat 1) [] (rd_T40 t a).f0 ((rd_T40 t a).f0 == 8)) (fun k => ?_) (jkey _ (by simp [h7]))
   rw [PTypesGoods.spinetref13_round.f, if_pos a0, if_pos a2, if_neg h1, if_neg h2, Option.bind_some, if_pos a1, if_neg h7]
end
end Go.Proofs.Ytgnbemgeiloegaa.Tg
namespace Go.Proofs.Ytgnbemgeiloegaa.Tg
open Go.RowKit
open Go.Proofs.YtgnbemgeiloegaaW.PrintWords Go.Proofs.YtgnbemgeiloegaaW.PrintLast Go.Proofs.YtgnbemgeiloegaaW.PrintMore
set_option linter.unusedVariables false
set_option linter.unusedSimpArgs false
open Go.Proofs.Ytgnbemgeiloegaa.PTypesGoods (S40 S42 S47 k40 k42 k47 rd_T40 rd_T42 rd_T47 at_T40 at_T42 at_T47)
section
variable {t : List S40}
theorem ends_list (hw : Within t) (a : Int) (ha : At t.length a) (g : Int → List Int) (n : Nat) (l : List Int) (hl : l.length ≤ 70)
 (hin : ∀ b ∈ l, ∀ st, st.length = t.length → Val st → zeros st < n → Ev (fun k => TgEnds.tables_ends.f k t b st) (visit g n b st)) :
 ∀ (d i : Nat) (st : List Int), l.length - i = d → i ≤ l.length → st.length = t.length → Val st → zeros st < n →
  Ev (fun k => TgEnds.tables_ends.l1 k t a st l (l.length : Int) (i : Int)) ((visits (visit g n) (l.drop i) st).1, if (visits (visit g n) (l.drop i) st).1 = true then (visits (visit g n) (l.drop i) st).2.set a.toNat 2 else (visits (visit g n) (l.drop i) st).2)
 | 0, i, st, hd, hi, hs, hv, hz => by
  have e : l.drop i = [] := List.drop_of_length_le (by omega)
  rw [e]
  simp only [visits, if_true]
  refine Ev.step (f := fun _ => some (true, st.set a.toNat 2)) (fun k => ?_) (Ev.now _)
  unfold At at ha
  rw [TgEnds.tables_ends.l1]
  rw [if_neg (by omega), if_pos ha.1, if_pos (by omega)]
 | d + 1, i, st, hd, hi, hs, hv, hz => by
  have hlt : i < l.length := by omega
  have c1 : (i : Int) < (l.length : Int) := by omega
  have c2 : 0 ≤ (i : Int) := by omega
  have o1 : l.length - (i + 1) = d := by omega
  have e : l.drop i = l[i] :: l.drop (i + 1) := List.drop_eq_getElem_cons hlt
  have er : rd l (i : Int) = l[i] := by unfold rd; simp [List.getD_eq_getElem?_getD, List.getElem?_eq_getElem hlt]
  have ew : wrap64 ((i : Int) + 1) = ((i + 1 : Nat) : Int) := by unfold wrap64; omega
  have h1 := hin l[i] (List.getElem_mem hlt) st hs hv hz
  have hk := visit_keeps g n l[i] st
  rw [e]
  refine Ev.step (f := fun k => (TgEnds.tables_ends.f k t (rd l i) st).bind fun b => if b.1 = true then TgEnds.tables_ends.l1 k t a b.2 l (l.length : Int) (wrap64 ((i : Int) + 1)) else some (false, b.2)) (fun k => ?_) ?_
  · rw [TgEnds.tables_ends.l1, if_pos c1, if_pos c2, if_pos c1]
  ·
   rw [er, ew]
   refine Ev.bind h1 ?_
   cases hb : (visit g n l[i] st).1 with
   | false =>
    simp only [visits, hb, if_true, Bool.false_eq_true, if_false]
    exact Ev.now _
   | true =>
    have h2 := ends_list hw a ha g n l hl hin d (i + 1) (visit g n l[i] st).2 o1 hlt (hk.len.trans hs) (hk.val hv) (Nat.lt_of_le_of_lt hk.zer hz)
    simp only [visits, hb, if_true, Bool.false_eq_true, if_false]
    exact h2
theorem ends_fields (hw : Within t) (a : Int) (ha : At t.length a) (st : List Int) (r : Bool × List Int) :
 ∀ (d i : Nat) (acc : List Int), (rd_T40 t a).f6.length - i = d → i ≤ (rd_T40 t a).f6.length → acc.length ≤ i + 1 →
  Ev (fun k => TgEnds.tables_ends.j2 k t a st (acc ++ ((rd_T40 t a).f6.drop i).map (·.f2))) r →
  Ev (fun k => TgEnds.tables_ends.l0 k t a st acc (rd_T40 t a).f6 ((rd_T40 t a).f6.length : Int) (i : Int)) r
 | 0, i, acc, hd, hi, hacc, h => by
  have hl := hw.fields a ha
  have e : (rd_T40 t a).f6.drop i = [] := List.drop_of_length_le (by omega)
  rw [e, List.map_nil, List.append_nil] at h
  refine Ev.step (f := fun k => TgEnds.tables_ends.j2 k t a st acc) (fun k => ?_) h
  unfold At at ha
  rw [TgEnds.tables_ends.l0]
  rw [if_neg (by omega)]
 | d + 1, i, acc, hd, hi, hacc, h => by
  have hl := hw.fields a ha
  have hlt : i < (rd_T40 t a).f6.length := by omega
  have c1 : (i : Int) < ((rd_T40 t a).f6.length : Int) := by omega
  have c2 : 0 ≤ (i : Int) := by omega
  have c3 : acc.length < 17592186044416 := by omega
  have o1 : (rd_T40 t a).f6.length - (i + 1) = d := by omega
  have o2 : (acc ++ [((rd_T40 t a).f6[i]).f2]).length ≤ i + 1 + 1 := by simp; omega
  have e : (rd_T40 t a).f6.drop i = (rd_T40 t a).f6[i] :: (rd_T40 t a).f6.drop (i + 1) := List.drop_eq_getElem_cons hlt
  have er : rd_T42 (rd_T40 t a).f6 (i : Int) = (rd_T40 t a).f6[i] := by unfold rd_T42; simp [List.getD_eq_getElem?_getD, List.getElem?_eq_getElem hlt]
  have ew : wrap64 ((i : Int) + 1) = ((i + 1 : Nat) : Int) := by unfold wrap64; omega
  rw [e, List.map_cons, List.append_cons] at h
  have h2 := ends_fields hw a ha st r d (i + 1) (acc ++ [((rd_T40 t a).f6[i]).f2]) o1 hlt o2 h
  refine Ev.step (f := fun k => TgEnds.tables_ends.l0 k t a st (acc ++ [((rd_T40 t a).f6[i]).f2]) (rd_T40 t a).f6 ((rd_T40 t a).f6.length : Int) ((i + 1 : Nat) : Int)) (fun k => ?_) h2
  rw [TgEnds.tables_ends.l0, if_pos c1, if_pos c2, if_pos c1, if_pos c3, er, ew]
theorem ends_is (hw : Within t) : ∀ (n : Nat) (a : Int) (st : List Int), At t.length a → st.length = t.length → Val st → zeros st < n →
 Ev (fun k => TgEnds.tables_ends.f k t a st) (visit (insP t) n a st)
 | 0, a, st, ha, hs, hv, hz => absurd hz (Nat.not_lt_zero _)
 | n + 1, a, st, ha, hs, hv, hz => by
  have has : At st.length a := by rw [hs]; exact ha
  have hm := hv _ (rd_mem st a has)
  have a0 := ha.1
  have a1 := ha.2
  have a2 : a < (st.length : Int) := has.2
  by_cases h1 : rd st a = 1
  ·
   have e : visit (insP t) (n + 1) a st = (false, st) := by simp only [visit]; rw [if_pos h1]
   rw [e]
   refine Ev.step (f := fun _ => some (false, st)) (fun k => ?_) (Ev.now _)
   rw [TgEnds.tables_ends.f, if_pos a0, if_pos a2, if_pos (by omega), h1]
   rfl
  by_cases h2 : rd st a = 2
  ·
   have e : visit (insP t) (n + 1) a st = (true, st) := by simp only [visit]; rw [if_neg h1, if_pos h2]
   rw [e]
   refine Ev.step (f := fun _ => some (true, st)) (fun k => ?_) (Ev.now _)
   rw [TgEnds.tables_ends.f, if_pos a0, if_pos a2, if_pos (by omega), h2]
   rfl
  have h0 : rd st a = 0 := by rcases hm with h | h | h <;> first | exact h | exact absurd h h1 | exact absurd h h2
  have h0' : ¬ rd st a > 0 := by omega
  have hs1 : (st.set a.toNat 1).length = t.length := by rw [List.length_set]; exact hs
  have hv1 := val_set hv a.toNat (v := 1) (by omega)
  have hz1 : zeros (st.set a.toNat 1) < n := by
   have := zeros_set_lt st a (v := 1) (by omega) has h0
   omega
  have key : ∀ l : List Int, l = insP t a → Ev (fun k => TgEnds.tables_ends.j2 k t a (st.set a.toNat 1) l) (visit (insP t) (n + 1) a st) := by
   intro l hl
   have hlen : l.length ≤ 70 := by
    have hf := hw.fields a ha
    rw [hl]; unfold insP
    split
    · simp
    ·
     split
     · simp; omega
     · simp
   have hq := ends_list hw a ha (insP t) n l hlen (fun b hb st' hs' hv' hz' => ends_is hw n b st' (hw.place a ha b (hl ▸ hb)) hs' hv' hz') _ 0 (st.set a.toNat 1) rfl (Nat.zero_le _) hs1 hv1 hz1
   rw [List.drop_zero] at hq
   have e : visit (insP t) (n + 1) a st = if (visits (visit (insP t) n) l (st.set a.toNat 1)).1 = true then (true, (visits (visit (insP t) n) l (st.set a.toNat 1)).2.set a.toNat 2) else (false, (visits (visit (insP t) n) l (st.set a.toNat 1)).2) := by
    simp only [visit]; rw [if_neg h1, if_neg h2, hl]
   rw [e]
   refine Ev.step (f := fun k => TgEnds.tables_ends.l1 k t a (st.set a.toNat 1) l (l.length : Int) 0) (fun k => by rw [TgEnds.tables_ends.j2]) ?_
   cases hb : (visits (visit (insP t) n) l (st.set a.toNat 1)).1 with
   | false =>
    rw [hb] at hq
    simpa using hq
   | true =>
    rw [hb] at hq
    simpa using hq
  have jkey : ∀ b : Bool, (b = true ↔ (rd_T40 t a).f0 = 7 ∨ (rd_T40 t a).f0 = 8) → Ev (fun k => TgEnds.tables_ends.j0 k t a (st.set a.toNat 1) [] (rd_T40 t a).f0 b) (visit (insP t) (n + 1) a st) := by
   intro b hb
   have c0 : ([] : List Int).length < 17592186044416 := by simp
   cases b with
   | true =>
    have hf := hb.1 rfl
    refine Ev.step (f := fun k => TgEnds.tables_ends.j2 k t a (st.set a.toNat 1) ([] ++ [(rd_T40 t a).f4])) (fun k => ?_) (key _ (by unfold insP; rw [if_pos hf]; rfl))
    rw [TgEnds.tables_ends.j0, if_pos rfl, if_pos a0, if_pos a1, if_pos c0]
   | false =>
    have hf : ¬ ((rd_T40 t a).f0 = 7 ∨ (rd_T40 t a).f0 = 8) := fun h => by simpa using hb.2 h
    by_cases h9 : (rd_T40 t a).f0 = 9
    ·
     refine Ev.step (f := fun k => TgEnds.tables_ends.l0 k t a (st.set a.toNat 1) ([] ++ [(rd_T40 t a).f5]) (rd_T40 t a).f6 ((rd_T40 t a).f6.length : Int) 0) (fun k => ?_) ?_
     · rw [TgEnds.tables_ends.j0, if_neg (by decide), if_pos h9, if_pos a0, if_pos a1, if_pos c0]
     ·
      refine ends_fields hw a ha _ _ _ 0 _ rfl (Nat.zero_le _) (by simp) ?_
      rw [List.drop_zero]
      refine key _ ?_
      unfold insP
      rw [if_neg hf, if_pos h9]
      rfl
    ·
     refine Ev.step (f := fun k => TgEnds.tables_ends.j2 k t a (st.set a.toNat 1) []) (fun k => ?_) (key [] (by unfold insP; rw [if_neg hf, if_neg h9]))
     rw [TgEnds.tables_ends.j0, if_neg (by decide), if_neg h9]
  by_cases h7 : (rd_T40 t a).f0 = 7
  ·
   refine Ev.step (f := fun k => TgEnds.tables_ends.j0 k t a (st.set a.toNat 1) [] (rd_T40 t a).f0 ((rd_T40 t a).f0 == 7)) (fun k => ?_) (jkey _ (by simp [h7]))
   rw [TgEnds.tables_ends.f, if_pos a0, if_pos a2, if_neg h0', Option.bind_some, Option.bind_some, if_pos a1, if_pos h7]
  ·
   refine Ev.step (f := fun k => TgEnds.tables_ends.j0 k t a (st.set a.toNat 1) [] (rd_T40 t a).f0 ((rd_T40 t a).f0 == 8)) (fun k => ?_) (jkey _ (by simp [h7]))
   rw [TgEnds.tables_ends.f, if_pos a0, if_pos a2, if_neg h0', Option.bind_some, Option.bind_some, if_pos a1, if_neg h7]
end
end Go.Proofs.Ytgnbemgeiloegaa.Tg
namespace Go.Proofs.Ytgnbemgeiloegaa.Tg
open Go.RowKit
open Go.Proofs.YtgnbemgeiloegaaW.PrintWords Go.Proofs.YtgnbemgeiloegaaW.PrintLast Go.Proofs.YtgnbemgeiloegaaW.PrintMore
set_option linter.unusedVariables false
set_option linter.unusedSimpArgs false
open Go.Proofs.Ytgnbemgeiloegaa.PTypesGoods (S40 S42 S47 k40 k42 k47 rd_T40 rd_T42 rd_T47 at_T40 at_T42 at_T47)
theorem visits_app (f : Int → List Int → Bool × List Int) : ∀ (xs ys : List Int) (st : List Int), visits f (xs ++ ys) st = if (visits f xs st).1 = true then visits f ys (visits f xs st).2 else (visits f xs st)
 | [], ys, st => by simp [visits]
 | x :: xs, ys, st => by
  simp only [List.cons_append, visits]
  split
  · exact visits_app f xs ys _
  · simp
def Basics (t : List S40) : Prop := 7 ≤ t.length ∧ ∀ i : Int, 0 ≤ i → i < 7 → (rd_T40 t i).f0 = i
section
variable {t : List S40}
theorem Basics.insP (h : Basics t) (i : Int) (h0 : 0 ≤ i) (h7 : i < 7) : insP t i = [] := by
 have := h.2 i h0 h7
 unfold Tg.insP
 rw [if_neg (by omega), if_neg (by omega)]
theorem Basics.insR (h : Basics t) (i : Int) (h0 : 0 ≤ i) (h7 : i < 7) : insR t i = [] := by
 have := h.2 i h0 h7
 unfold Tg.insR
 rw [if_neg (by omega), if_neg (by omega)]
structure Rel (m : Nat) (sr sp : List Int) : Prop where
 lr : sr.length = m
 lp : sp.length = m
 lo : ∀ i : Int, 0 ≤ i → i < 7 → rd sp i = 2 ∧ (rd sr i = 0 ∨ rd sr i = 2)
 hi : ∀ i : Int, 7 ≤ i → i < m → rd sp i = rd sr i
theorem Rel.set {m : Nat} {sr sp : List Int} (h : Rel m sr sp) (h7 : 7 ≤ m) (a v : Int) (a7 : 7 ≤ a) (am : a < m) : Rel m (sr.set a.toNat v) (sp.set a.toNat v) := by
 have e1 := h.lr
 have e2 := h.lp
 refine ⟨by simp [e1], by simp [e2], fun i i0 i7 => ?_, fun i i7 im => ?_⟩
 ·
  rw [rd_set sp a i v ⟨by omega, by omega⟩ ⟨by omega, by omega⟩, rd_set sr a i v ⟨by omega, by omega⟩ ⟨by omega, by omega⟩, if_neg (by omega), if_neg (by omega)]
  exact h.lo i i0 i7
 ·
  rw [rd_set sp a i v ⟨by omega, by omega⟩ ⟨by omega, by omega⟩, rd_set sr a i v ⟨by omega, by omega⟩ ⟨by omega, by omega⟩]
  split
  · rfl
  · exact h.hi i i7 im
theorem sim_visits (hw : Within t) (n : Nat)
 (hone : ∀ a sr sp, At t.length a → Rel t.length sr sp → Val sr → zeros sr < n → (visit (insR t) n a sr).1 = (visit (insP t) n a sp).1 ∧ Rel t.length (visit (insR t) n a sr).2 (visit (insP t) n a sp).2) :
 ∀ (l : List Int) (sr sp : List Int), (∀ b ∈ l, At t.length b) → Rel t.length sr sp → Val sr → zeros sr < n →
  (visits (visit (insR t) n) l sr).1 = (visits (visit (insP t) n) l sp).1 ∧ Rel t.length (visits (visit (insR t) n) l sr).2 (visits (visit (insP t) n) l sp).2
 | [], sr, sp, hl, hr, hv, hz => ⟨rfl, hr⟩
 | x :: xs, sr, sp, hl, hr, hv, hz => by
  obtain ⟨h1, h2⟩ := hone x sr sp (hl x (List.mem_cons_self ..)) hr hv hz
  have hk := visit_keeps (insR t) n x sr
  have ih := sim_visits hw n hone xs _ _ (fun b hb => hl b (List.mem_cons_of_mem _ hb)) h2 (hk.val hv) (Nat.lt_of_le_of_lt hk.zer hz)
  simp only [visits]
  rw [← h1]
  split
  · exact ih
  · exact ⟨rfl, h2⟩
theorem sim_visit (hb : Basics t) (hw : Within t) : ∀ (n : Nat) (a : Int) (sr sp : List Int), At t.length a → Rel t.length sr sp → Val sr → zeros sr < n →
 (visit (insR t) n a sr).1 = (visit (insP t) n a sp).1 ∧ Rel t.length (visit (insR t) n a sr).2 (visit (insP t) n a sp).2
 | 0, a, sr, sp, ha, hr, hv, hz => absurd hz (Nat.not_lt_zero _)
 | n + 1, a, sr, sp, ha, hr, hv, hz => by
  have l7 := hb.1
  have er := hr.lr
  have ep := hr.lp
  have hm := hv _ (rd_mem sr a (by rw [er]; exact ha))
  have ha' := ha
  unfold At at ha'
  by_cases a7 : a < 7
  ·
   obtain ⟨q1, q2⟩ := hr.lo a ha'.1 a7
   have eP : visit (insP t) (n + 1) a sp = (true, sp) := by simp only [visit]; rw [if_neg (by omega), if_pos q1]
   rw [eP]
   rcases q2 with q2 | q2
   ·
    have eR : visit (insR t) (n + 1) a sr = (true, (sr.set a.toNat 1).set a.toNat 2) := by
     simp only [visit]
     rw [if_neg (by omega), if_neg (by omega), hb.insR a ha'.1 a7]
     rfl
    rw [eR, List.set_set]
    refine ⟨rfl, by simp [er], ep, fun i i0 i7 => ?_, fun i i7 im => ?_⟩
    ·
     rw [rd_set sr a i 2 ⟨by omega, by omega⟩ ⟨by omega, by omega⟩]
     refine ⟨(hr.lo i i0 i7).1, ?_⟩
     split
     · exact .inr rfl
     · exact (hr.lo i i0 i7).2
    ·
     rw [rd_set sr a i 2 ⟨by omega, by omega⟩ ⟨by omega, by omega⟩, if_neg (by omega)]
     exact hr.hi i i7 im
   ·
    have eR : visit (insR t) (n + 1) a sr = (true, sr) := by simp only [visit]; rw [if_neg (by omega), if_pos q2]
    rw [eR]
    exact ⟨rfl, hr⟩
  ·
   have hh := hr.hi a (by omega) ha'.2
   by_cases h1 : rd sr a = 1
   ·
    have eR : visit (insR t) (n + 1) a sr = (false, sr) := by simp only [visit]; rw [if_pos h1]
    have eP : visit (insP t) (n + 1) a sp = (false, sp) := by simp only [visit]; rw [if_pos (hh.trans h1)]
    rw [eR, eP]
    exact ⟨rfl, hr⟩
   by_cases h2 : rd sr a = 2
   ·
    have eR : visit (insR t) (n + 1) a sr = (true, sr) := by simp only [visit]; rw [if_neg h1, if_pos h2]
    have eP : visit (insP t) (n + 1) a sp = (true, sp) := by simp only [visit]; rw [if_neg (by rw [hh]; exact h1), if_pos (hh.trans h2)]
    rw [eR, eP]
    exact ⟨rfl, hr⟩
   have h0 : rd sr a = 0 := by rcases hm with h | h | h <;> first | exact h | exact absurd h h1 | exact absurd h h2
   have hr1 := hr.set l7 a 1 (by omega) ha'.2
   have hv1 := val_set hv a.toNat (v := 1) (by omega)
   have hz1 : zeros (sr.set a.toNat 1) < n := by
    have := zeros_set_lt sr a (v := 1) (by omega) (by rw [er]; exact ha) h0
    omega
   have ih := sim_visits hw n (fun a' sr' sp' => sim_visit hb hw n a' sr' sp') (insR t a) _ _ (fun b hb' => hw.place a ha b (insR_sub t a b hb')) hr1 hv1 hz1
   have eL : visits (visit (insP t) n) (insP t a) (sp.set a.toNat 1) = visits (visit (insP t) n) (insR t a) (sp.set a.toNat 1) := by
    unfold Tg.insP Tg.insR
    split
    · rfl
    ·
     split
     ·
      split
      ·
       rename_i h5
       rw [h5]
       obtain ⟨m, rfl⟩ : ∃ m, n = m + 1 := ⟨n - 1, by omega⟩
       have q := (hr1.lo 0 (by omega) (by omega)).1
       have e0 : visit (Tg.insP t) (m + 1) 0 (sp.set a.toNat 1) = (true, sp.set a.toNat 1) := by simp only [visit]; rw [if_neg (by omega), if_pos q]
       show visits (visit (Tg.insP t) (m + 1)) (0 :: _) _ = visits (visit (Tg.insP t) (m + 1)) ([] ++ _) _
       simp only [visits, e0, if_true, List.nil_append]
      · rfl
     · rfl
   have eR : visit (insR t) (n + 1) a sr = if (visits (visit (insR t) n) (insR t a) (sr.set a.toNat 1)).1 = true then (true, (visits (visit (insR t) n) (insR t a) (sr.set a.toNat 1)).2.set a.toNat 2) else (false, (visits (visit (insR t) n) (insR t a) (sr.set a.toNat 1)).2) := by
    simp only [visit]; rw [if_neg h1, if_neg h2]
   have eP : visit (insP t) (n + 1) a sp = if (visits (visit (insP t) n) (insP t a) (sp.set a.toNat 1)).1 = true then (true, (visits (visit (insP t) n) (insP t a) (sp.set a.toNat 1)).2.set a.toNat 2) else (false, (visits (visit (insP t) n) (insP t a) (sp.set a.toNat 1)).2) := by
    simp only [visit]; rw [if_neg (by rw [hh]; exact h1), if_neg (by rw [hh]; exact h2)]
   rw [eR, eP, eL, ← ih.1]
   split
   · exact ⟨rfl, ih.2.set l7 a 2 (by omega) ha'.2⟩
   · exact ⟨rfl, ih.2⟩
def from_ (i d : Nat) : List Int := (List.range' i d).map fun (j : Nat) => (j : Int)
theorem from_succ (i d : Nat) : from_ i (d + 1) = (i : Int) :: from_ (i + 1) d := by unfold from_; rw [List.range'_succ]; rfl
theorem from_snoc (i d : Nat) : from_ i (d + 1) = from_ i d ++ [((i + d : Nat) : Int)] := by unfold from_; rw [List.range'_concat]; simp
theorem from_add (i d e : Nat) : from_ i (d + e) = from_ i d ++ from_ (i + d) e := by unfold from_; rw [← List.map_append, List.range'_append_1]
theorem from_at {i d m : Nat} (h : i + d ≤ m) : ∀ b ∈ from_ i d, At m b := by
 intro b hb
 unfold from_ at hb
 rw [List.mem_map] at hb
 obtain ⟨j, hj, rfl⟩ := hb
 rw [List.mem_range'_1] at hj
 exact ⟨by omega, by omega⟩
def some2 (m j : Nat) : List Int := List.replicate j 2 ++ List.replicate (m - j) 0
theorem first7 (hb : Basics t) (n : Nat) : ∀ (d j : Nat), j + d = 7 → visits (visit (insP t) (n + 1)) (from_ j d) (some2 t.length j) = (true, some2 t.length 7)
 | 0, j, h => by
  obtain rfl : j = 7 := by omega
  rfl
 | d + 1, j, h => by
  have l7 := hb.1
  rw [from_succ]
  have e0 : some2 t.length j = List.replicate j 2 ++ 0 :: List.replicate (t.length - (j + 1)) 0 := by
   unfold some2
   rw [show t.length - j = (t.length - (j + 1)) + 1 by omega, List.replicate_succ]
  have hr : rd (some2 t.length j) (j : Int) = 0 := by
   rw [e0]; unfold rd
   rw [List.getD_eq_getElem?_getD, Int.toNat_natCast, List.getElem?_append_right (by simp)]
   simp
  have hs : (some2 t.length j).set j 2 = some2 t.length (j + 1) := by
   rw [e0, List.set_append_right _ _ (by simp)]
   unfold some2
   simp only [List.length_replicate, Nat.sub_self, List.set_cons_zero]
   rw [List.replicate_succ', List.append_assoc]
   rfl
  have e1 : visit (insP t) (n + 1) (j : Int) (some2 t.length j) = (true, some2 t.length (j + 1)) := by
   simp only [visit]
   rw [if_neg (by omega), if_neg (by omega), hb.insP j (by omega) (by omega)]
   simp only [visits, if_true, Int.toNat_natCast, List.set_set, hs]
  simp only [visits, e1, if_true]
  exact first7 hb n d (j + 1) (by omega)
theorem val_zeros (m : Nat) : Val (List.replicate m 0) := fun v hv => .inl (List.eq_of_mem_replicate hv)
theorem rel_start (m : Nat) (h7 : 7 ≤ m) : Rel m (List.replicate m 0) (some2 m 7) := by
 have hr : ∀ i : Int, 0 ≤ i → i < m → rd (List.replicate m 0) i = 0 := fun i i0 im => by
  unfold rd
  rw [List.getD_eq_getElem?_getD, List.getElem?_replicate, if_pos (by omega)]
  rfl
 refine ⟨by simp, by simp [some2]; omega, fun i i0 i7 => ⟨?_, .inl (hr i i0 (by omega))⟩, fun i i7 im => ?_⟩
 ·
  unfold rd some2
  rw [List.getD_eq_getElem?_getD, List.getElem?_append_left (by simp; omega), List.getElem?_replicate, if_pos (by omega)]
  rfl
 ·
  rw [hr i (by omega) im]
  unfold rd some2
  rw [List.getD_eq_getElem?_getD, List.getElem?_append_right (by simp; omega), List.getElem?_replicate, if_pos (by simp; omega)]
  rfl
def searchR (t : List S40) : Bool := (visits (visit (insR t) (t.length + 1)) (from_ 7 (t.length - 7)) (List.replicate t.length 0)).1
def searchP (t : List S40) : Bool := (visits (visit (insP t) (t.length + 1)) (from_ 0 t.length) (List.replicate t.length 0)).1
theorem zeros_start (m : Nat) : zeros (List.replicate m 0) < m + 1 := by
 unfold zeros
 rw [List.count_replicate_self]
 omega
theorem search_is (hb : Basics t) (hw : Within t) : searchR t = searchP t := by
 have l7 := hb.1
 unfold searchR searchP
 have e : from_ 0 t.length = from_ 0 7 ++ from_ 7 (t.length - 7) := by
  have := from_add 0 7 (t.length - 7)
  rwa [show 7 + (t.length - 7) = t.length by omega] at this
 rw [e, visits_app]
 have e0 : List.replicate t.length 0 = some2 t.length 0 := by simp [some2]
 conv => rhs; rw [e0]
 rw [first7 hb t.length 7 0 rfl]
 simp only [if_true]
 exact (sim_visits hw _ (fun a sr sp => sim_visit hb hw _ a sr sp) _ _ _ (from_at (by omega)) (rel_start _ l7) (val_zeros _) (zeros_start _)).1
def Deep (g : Int → List Int) : Nat → Int → Prop
 | 0, _ => False
 | n + 1, a => ∀ b ∈ g a, Deep g n b
theorem Deep.mono {g : Int → List Int} : ∀ {n m : Nat} {a : Int}, n ≤ m → Deep g n a → Deep g m a
 | 0, _, _, _, h => h.elim
 | n + 1, m, a, hm, h => by
  obtain ⟨k, rfl⟩ : ∃ k, m = k + 1 := ⟨m - 1, by omega⟩
  exact fun b hb => Deep.mono (by omega) (h b hb)
theorem deep_all {g : Int → List Int} : ∀ (l : List Int), (∀ b ∈ l, ∃ n, Deep g n b) → ∃ n, ∀ b ∈ l, Deep g n b
 | [], _ => ⟨0, fun b hb => by cases hb⟩
 | x :: xs, h => by
  obtain ⟨n, hn⟩ := h x (List.mem_cons_self ..)
  obtain ⟨m, hm⟩ := deep_all xs fun b hb => h b (List.mem_cons_of_mem _ hb)
  refine ⟨max n m, fun b hb => ?_⟩
  rcases List.mem_cons.1 hb with rfl | hb
  · exact hn.mono (Nat.le_max_left _ _)
  · exact (hm b hb).mono (Nat.le_max_right _ _)
structure Done (g : Int → List Int) (m : Nat) (st st' : List Int) : Prop where
 len : st'.length = st.length
 two : ∀ i, At m i → rd st i = 2 → rd st' i = 2
 deep : (∀ i, At m i → rd st i = 2 → ∃ n, Deep g n i) → ∀ i, At m i → rd st' i = 2 → ∃ n, Deep g n i
theorem Done.refl (g : Int → List Int) (m : Nat) (st : List Int) : Done g m st st := ⟨rfl, fun _ _ h => h, fun h => h⟩
theorem Done.trans {g : Int → List Int} {m : Nat} {a b c : List Int} (h : Done g m a b) (k : Done g m b c) : Done g m a c := ⟨k.len.trans h.len, fun i hi e => k.two i hi (h.two i hi e), fun e => k.deep (h.deep e)⟩
theorem visits_done {g : Int → List Int} {m : Nat} {f : Int → List Int → Bool × List Int} (hf : ∀ a st, At m a → st.length = m → Done g m st (f a st).2 ∧ ((f a st).1 = true → rd (f a st).2 a = 2)) :
 ∀ (l : List Int) (st : List Int), (∀ b ∈ l, At m b) → st.length = m → Done g m st (visits f l st).2 ∧ ((visits f l st).1 = true → ∀ b ∈ l, rd (visits f l st).2 b = 2)
 | [], st, hl, hs => ⟨Done.refl .., fun _ b hb => by cases hb⟩
 | x :: xs, st, hl, hs => by
  obtain ⟨h1, h2⟩ := hf x st (hl x (List.mem_cons_self ..)) hs
  obtain ⟨k1, k2⟩ := visits_done hf xs (f x st).2 (fun b hb => hl b (List.mem_cons_of_mem _ hb)) (h1.len.trans hs)
  simp only [visits]
  split
  ·
   rename_i e
   refine ⟨h1.trans k1, fun e' b hb => ?_⟩
   rcases List.mem_cons.1 hb with rfl | hb
   · exact k1.two _ (hl _ (List.mem_cons_self ..)) (h2 e)
   · exact k2 e' b hb
  · exact ⟨h1, fun e => by simp at e⟩
theorem visit_done {g : Int → List Int} {m : Nat} (hg : ∀ a, At m a → ∀ b ∈ g a, At m b) : ∀ (n : Nat) (a : Int) (st : List Int), At m a → st.length = m → Done g m st (visit g n a st).2 ∧ ((visit g n a st).1 = true → rd (visit g n a st).2 a = 2)
 | 0, a, st, ha, hs => ⟨Done.refl .., fun e => by simp [visit] at e⟩
 | n + 1, a, st, ha, hs => by
  by_cases h1 : rd st a = 1
  ·
   have e : visit g (n + 1) a st = (false, st) := by simp only [visit]; rw [if_pos h1]
   rw [e]
   exact ⟨Done.refl .., fun e => by simp at e⟩
  by_cases h2 : rd st a = 2
  ·
   have e : visit g (n + 1) a st = (true, st) := by simp only [visit]; rw [if_neg h1, if_pos h2]
   rw [e]
   exact ⟨Done.refl .., fun _ => h2⟩
  have has : At st.length a := by rw [hs]; exact ha
  have d1 : Done g m st (st.set a.toNat 1) := by
   refine ⟨by simp, fun i hi e => ?_, fun h i hi e => ?_⟩
   ·
    rw [rd_set st a i 1 has (by rw [hs]; exact hi)]
    by_cases e' : i = a
    · subst e'; exact absurd e h2
    · rw [if_neg e']; exact e
   ·
    rw [rd_set st a i 1 has (by rw [hs]; exact hi)] at e
    by_cases e' : i = a
    · rw [if_pos e'] at e; omega
    · rw [if_neg e'] at e; exact h i hi e
  obtain ⟨k1, k2⟩ := visits_done (fun a' st' => visit_done hg n a' st') (g a) (st.set a.toNat 1) (hg a ha) (by simp [hs])
  have e : visit g (n + 1) a st = if (visits (visit g n) (g a) (st.set a.toNat 1)).1 = true then (true, (visits (visit g n) (g a) (st.set a.toNat 1)).2.set a.toNat 2) else (false, (visits (visit g n) (g a) (st.set a.toNat 1)).2) := by
   simp only [visit]; rw [if_neg h1, if_neg h2]
  rw [e]
  have hl := (d1.trans k1).len.trans hs
  split
  ·
   rename_i ht
   have d2 := d1.trans k1
   refine ⟨⟨by simp [d2.len], fun i hi e => ?_, fun h i hi e => ?_⟩, fun _ => ?_⟩
   ·
    rw [rd_set _ a i 2 (by rw [hl]; exact ha) (by rw [hl]; exact hi)]
    split
    · rfl
    · exact d2.two i hi e
   ·
    rw [rd_set _ a i 2 (by rw [hl]; exact ha) (by rw [hl]; exact hi)] at e
    by_cases e' : i = a
    ·
     subst e'
     obtain ⟨N, hN⟩ := deep_all (g := g) (g i) fun b hb => d2.deep h b (hg i ha b hb) (k2 ht b hb)
     exact ⟨N + 1, hN⟩
    ·
     rw [if_neg e'] at e
     exact d2.deep h i hi e
   · rw [rd_set _ a a 2 (by rw [hl]; exact ha) (by rw [hl]; exact ha), if_pos rfl]
  · exact ⟨d1.trans k1, fun e => by simp at e⟩
theorem search_deep (hw : Within t) (h : searchP t = true) : ∃ N, ∀ a, At t.length a → Deep (insP t) N a := by
 unfold searchP at h
 obtain ⟨k1, k2⟩ := visits_done (fun a st => visit_done (g := insP t) (fun a ha => hw.place a ha) (t.length + 1) a st) (from_ 0 t.length) (List.replicate t.length 0) (from_at (by omega)) (by simp)
 have hd : ∀ b ∈ from_ 0 t.length, ∃ n, Deep (insP t) n b := fun b hb => by
  refine k1.deep (fun i hi e => ?_) b (from_at (by omega) b hb) (k2 h b hb)
  exfalso
  unfold rd At at *
  rw [List.getD_eq_getElem?_getD, List.getElem?_replicate, if_pos (by omega)] at e
  simp at e
 obtain ⟨N, hN⟩ := deep_all _ hd
 refine ⟨N, fun a ha => hN a ?_⟩
 unfold from_ At at *
 rw [List.mem_map]
 exact ⟨a.toNat, by rw [List.mem_range'_1]; omega, by omega⟩
end
end Go.Proofs.Ytgnbemgeiloegaa.Tg
