import Derived.Test.YtgnbemgeiloegaaKTgDfs
namespace Go.Proofs.Ytgnbemgeiloegaa.Tg
open Go.RowKit
open Go.Proofs.YtgnbemgeiloegaaW.PrintWords Go.Proofs.YtgnbemgeiloegaaW.PrintLast Go.Proofs.YtgnbemgeiloegaaW.PrintMore
set_option linter.unusedVariables false
set_option linter.unusedSimpArgs false
open Go.Proofs.Ytgnbemgeiloegaa.PTypesGoods (S40 S42 S47 k40 k42 k47 rd_T40 rd_T42 rd_T47 at_T40 at_T42 at_T47)
/-! ### the program's -/
section
variable {t : List S40}
theorem ends_list (hw : Within t) (a : Int) (ha : At t.length a) (g : Int → List Int) (n : Nat) (l : List Int) (hl : l.length ≤ 70)
    (hin : ∀ b ∈ l, ∀ st, st.length = t.length → Val st → zeros st < n → Ev (fun k => TgEnds.tables_ends.f k t b st) (visit g n b st)) :
    ∀ (d i : Nat) (st : List Int), l.length - i = d → i ≤ l.length → st.length = t.length → Val st → zeros st < n →
      Ev (fun k => TgEnds.tables_ends.l1 k t a st l (l.length : Int) (i : Int)) ((visits (visit g n) (l.drop i) st).1, if (visits (visit g n) (l.drop i) st).1 = true then (visits (visit g n) (l.drop i) st).2.set a.toNat 2 else (visits (visit g n) (l.drop i) st).2)
  | 0, i, st, hd, hi, hs, hv, hz => by
    have e : l.drop i = [] := List.drop_of_length_le (by omega)
    rw [e]
    simp only [visits, if_true]
    refine Ev.step (f := fun _ => some (true, st.set a.toNat 2)) (fun k => ?_) (Ev.now _)
    unfold At at ha
    rw [TgEnds.tables_ends.l1]
    rw [if_neg (by omega), if_pos ha.1, if_pos (by omega)]
  | d + 1, i, st, hd, hi, hs, hv, hz => by
    have hlt : i < l.length := by omega
    have c1 : (i : Int) < (l.length : Int) := by omega
    have c2 : 0 ≤ (i : Int) := by omega
    have o1 : l.length - (i + 1) = d := by omega
    have e : l.drop i = l[i] :: l.drop (i + 1) := List.drop_eq_getElem_cons hlt
    have er : rd l (i : Int) = l[i] := by unfold rd; simp [List.getD_eq_getElem?_getD, List.getElem?_eq_getElem hlt]
    have ew : wrap64 ((i : Int) + 1) = ((i + 1 : Nat) : Int) := by unfold wrap64; omega
    have h1 := hin l[i] (List.getElem_mem hlt) st hs hv hz
    have hk := visit_keeps g n l[i] st
    rw [e]
    refine Ev.step (f := fun k => (TgEnds.tables_ends.f k t (rd l i) st).bind fun b => if b.1 = true then TgEnds.tables_ends.l1 k t a b.2 l (l.length : Int) (wrap64 ((i : Int) + 1)) else some (false, b.2)) (fun k => ?_) ?_
    · rw [TgEnds.tables_ends.l1, if_pos c1, if_pos c2, if_pos c1]
    · rw [er, ew]
      refine Ev.bind h1 ?_
      cases hb : (visit g n l[i] st).1 with
      | false =>
        simp only [visits, hb, if_true, Bool.false_eq_true, if_false]
        exact Ev.now _
      | true =>
        have h2 := ends_list hw a ha g n l hl hin d (i + 1) (visit g n l[i] st).2 o1 hlt (hk.len.trans hs) (hk.val hv) (Nat.lt_of_le_of_lt hk.zer hz)
        simp only [visits, hb, if_true, Bool.false_eq_true, if_false]
        exact h2
theorem ends_fields (hw : Within t) (a : Int) (ha : At t.length a) (st : List Int) (r : Bool × List Int) :
    ∀ (d i : Nat) (acc : List Int), (rd_T40 t a).f6.length - i = d → i ≤ (rd_T40 t a).f6.length → acc.length ≤ i + 1 →
      Ev (fun k => TgEnds.tables_ends.j2 k t a st (acc ++ ((rd_T40 t a).f6.drop i).map (·.f2))) r →
      Ev (fun k => TgEnds.tables_ends.l0 k t a st acc (rd_T40 t a).f6 ((rd_T40 t a).f6.length : Int) (i : Int)) r
  | 0, i, acc, hd, hi, hacc, h => by
    have hl := hw.fields a ha
    have e : (rd_T40 t a).f6.drop i = [] := List.drop_of_length_le (by omega)
    rw [e, List.map_nil, List.append_nil] at h
    refine Ev.step (f := fun k => TgEnds.tables_ends.j2 k t a st acc) (fun k => ?_) h
    unfold At at ha
    rw [TgEnds.tables_ends.l0]
    rw [if_neg (by omega)]
  | d + 1, i, acc, hd, hi, hacc, h => by
    have hl := hw.fields a ha
    have hlt : i < (rd_T40 t a).f6.length := by omega
    have c1 : (i : Int) < ((rd_T40 t a).f6.length : Int) := by omega
    have c2 : 0 ≤ (i : Int) := by omega
    have c3 : acc.length < 17592186044416 := by omega
    have o1 : (rd_T40 t a).f6.length - (i + 1) = d := by omega
    have o2 : (acc ++ [((rd_T40 t a).f6[i]).f2]).length ≤ i + 1 + 1 := by simp; omega
    have e : (rd_T40 t a).f6.drop i = (rd_T40 t a).f6[i] :: (rd_T40 t a).f6.drop (i + 1) := List.drop_eq_getElem_cons hlt
    have er : rd_T42 (rd_T40 t a).f6 (i : Int) = (rd_T40 t a).f6[i] := by unfold rd_T42; simp [List.getD_eq_getElem?_getD, List.getElem?_eq_getElem hlt]
    have ew : wrap64 ((i : Int) + 1) = ((i + 1 : Nat) : Int) := by unfold wrap64; omega
    rw [e, List.map_cons, List.append_cons] at h
    have h2 := ends_fields hw a ha st r d (i + 1) (acc ++ [((rd_T40 t a).f6[i]).f2]) o1 hlt o2 h
    refine Ev.step (f := fun k => TgEnds.tables_ends.l0 k t a st (acc ++ [((rd_T40 t a).f6[i]).f2]) (rd_T40 t a).f6 ((rd_T40 t a).f6.length : Int) ((i + 1 : Nat) : Int)) (fun k => ?_) h2
    rw [TgEnds.tables_ends.l0, if_pos c1, if_pos c2, if_pos c1, if_pos c3, er, ew]
theorem ends_is (hw : Within t) : ∀ (n : Nat) (a : Int) (st : List Int), At t.length a → st.length = t.length → Val st → zeros st < n →
    Ev (fun k => TgEnds.tables_ends.f k t a st) (visit (insP t) n a st)
  | 0, a, st, ha, hs, hv, hz => absurd hz (Nat.not_lt_zero _)
  | n + 1, a, st, ha, hs, hv, hz => by
    have has : At st.length a := by rw [hs]; exact ha
    have hm := hv _ (rd_mem st a has)
    have a0 := ha.1
    have a1 := ha.2
    have a2 : a < (st.length : Int) := has.2
    by_cases h1 : rd st a = 1
    · have e : visit (insP t) (n + 1) a st = (false, st) := by simp only [visit]; rw [if_pos h1]
      rw [e]
      refine Ev.step (f := fun _ => some (false, st)) (fun k => ?_) (Ev.now _)
      rw [TgEnds.tables_ends.f, if_pos a0, if_pos a2, if_pos (by omega), h1]
      rfl
    by_cases h2 : rd st a = 2
    · have e : visit (insP t) (n + 1) a st = (true, st) := by simp only [visit]; rw [if_neg h1, if_pos h2]
      rw [e]
      refine Ev.step (f := fun _ => some (true, st)) (fun k => ?_) (Ev.now _)
      rw [TgEnds.tables_ends.f, if_pos a0, if_pos a2, if_pos (by omega), h2]
      rfl
    have h0 : rd st a = 0 := by rcases hm with h | h | h <;> first | exact h | exact absurd h h1 | exact absurd h h2
    have h0' : ¬ rd st a > 0 := by omega
    have hs1 : (st.set a.toNat 1).length = t.length := by rw [List.length_set]; exact hs
    have hv1 := val_set hv a.toNat (v := 1) (by omega)
    have hz1 : zeros (st.set a.toNat 1) < n := by
      have := zeros_set_lt st a (v := 1) (by omega) has h0
      omega
    have key : ∀ l : List Int, l = insP t a → Ev (fun k => TgEnds.tables_ends.j2 k t a (st.set a.toNat 1) l) (visit (insP t) (n + 1) a st) := by
      intro l hl
      have hlen : l.length ≤ 70 := by
        have hf := hw.fields a ha
        rw [hl]; unfold insP
        split
        · simp
        · split
          · simp; omega
          · simp
      have hq := ends_list hw a ha (insP t) n l hlen (fun b hb st' hs' hv' hz' => ends_is hw n b st' (hw.place a ha b (hl ▸ hb)) hs' hv' hz') _ 0 (st.set a.toNat 1) rfl (Nat.zero_le _) hs1 hv1 hz1
      rw [List.drop_zero] at hq
      have e : visit (insP t) (n + 1) a st = if (visits (visit (insP t) n) l (st.set a.toNat 1)).1 = true then (true, (visits (visit (insP t) n) l (st.set a.toNat 1)).2.set a.toNat 2) else (false, (visits (visit (insP t) n) l (st.set a.toNat 1)).2) := by
        simp only [visit]; rw [if_neg h1, if_neg h2, hl]
      rw [e]
      refine Ev.step (f := fun k => TgEnds.tables_ends.l1 k t a (st.set a.toNat 1) l (l.length : Int) 0) (fun k => by rw [TgEnds.tables_ends.j2]) ?_
      cases hb : (visits (visit (insP t) n) l (st.set a.toNat 1)).1 with
      | false =>
        rw [hb] at hq
        simpa using hq
      | true =>
        rw [hb] at hq
        simpa using hq
    have jkey : ∀ b : Bool, (b = true ↔ (rd_T40 t a).f0 = 7 ∨ (rd_T40 t a).f0 = 8) → Ev (fun k => TgEnds.tables_ends.j0 k t a (st.set a.toNat 1) [] (rd_T40 t a).f0 b) (visit (insP t) (n + 1) a st) := by
      intro b hb
      have c0 : ([] : List Int).length < 17592186044416 := by simp
      cases b with
      | true =>
        have hf := hb.1 rfl
        refine Ev.step (f := fun k => TgEnds.tables_ends.j2 k t a (st.set a.toNat 1) ([] ++ [(rd_T40 t a).f4])) (fun k => ?_) (key _ (by unfold insP; rw [if_pos hf]; rfl))
        rw [TgEnds.tables_ends.j0, if_pos rfl, if_pos a0, if_pos a1, if_pos c0]
      | false =>
        have hf : ¬ ((rd_T40 t a).f0 = 7 ∨ (rd_T40 t a).f0 = 8) := fun h => by simpa using hb.2 h
        by_cases h9 : (rd_T40 t a).f0 = 9
        · refine Ev.step (f := fun k => TgEnds.tables_ends.l0 k t a (st.set a.toNat 1) ([] ++ [(rd_T40 t a).f5]) (rd_T40 t a).f6 ((rd_T40 t a).f6.length : Int) 0) (fun k => ?_) ?_
          · rw [TgEnds.tables_ends.j0, if_neg (by decide), if_pos h9, if_pos a0, if_pos a1, if_pos c0]
          · refine ends_fields hw a ha _ _ _ 0 _ rfl (Nat.zero_le _) (by simp) ?_
            rw [List.drop_zero]
            refine key _ ?_
            unfold insP
            rw [if_neg hf, if_pos h9]
            rfl
        · refine Ev.step (f := fun k => TgEnds.tables_ends.j2 k t a (st.set a.toNat 1) []) (fun k => ?_) (key [] (by unfold insP; rw [if_neg hf, if_neg h9]))
          rw [TgEnds.tables_ends.j0, if_neg (by decide), if_neg h9]
    by_cases h7 : (rd_T40 t a).f0 = 7
    · refine Ev.step (f := fun k => TgEnds.tables_ends.j0 k t a (st.set a.toNat 1) [] (rd_T40 t a).f0 ((rd_T40 t a).f0 == 7)) (fun k => ?_) (jkey _ (by simp [h7]))
      rw [TgEnds.tables_ends.f, if_pos a0, if_pos a2, if_neg h0', Option.bind_some, Option.bind_some, if_pos a1, if_pos h7]
    · refine Ev.step (f := fun k => TgEnds.tables_ends.j0 k t a (st.set a.toNat 1) [] (rd_T40 t a).f0 ((rd_T40 t a).f0 == 8)) (fun k => ?_) (jkey _ (by simp [h7]))
      rw [TgEnds.tables_ends.f, if_pos a0, if_pos a2, if_neg h0', Option.bind_some, Option.bind_some, if_pos a1, if_neg h7]
end
end Go.Proofs.Ytgnbemgeiloegaa.Tg
