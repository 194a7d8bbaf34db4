import Derived.Test.YtgnbemgeiloegaaKTgDfs2
namespace Go.Proofs.Ytgnbemgeiloegaa.Tg
open Go.RowKit
open Go.Proofs.YtgnbemgeiloegaaW.PrintWords Go.Proofs.YtgnbemgeiloegaaW.PrintLast Go.Proofs.YtgnbemgeiloegaaW.PrintMore
set_option linter.unusedVariables false
set_option linter.unusedSimpArgs false
open Go.Proofs.Ytgnbemgeiloegaa.PTypesGoods (S40 S42 S47 k40 k42 k47 rd_T40 rd_T42 rd_T47 at_T40 at_T42 at_T47)
/-! THE TWO SEARCHES ARE ONE -/
theorem visits_app (f : Int → List Int → Bool × List Int) : ∀ (xs ys : List Int) (st : List Int), visits f (xs ++ ys) st = if (visits f xs st).1 = true then visits f ys (visits f xs st).2 else (visits f xs st)
  | [], ys, st => by simp [visits]
  | x :: xs, ys, st => by
    simp only [List.cons_append, visits]
    split
    · exact visits_app f xs ys _
    · simp
/-- the first seven have nothing in them -/
def Basics (t : List S40) : Prop := 7 ≤ t.length ∧ ∀ i : Int, 0 ≤ i → i < 7 → (rd_T40 t i).f0 = i
section
variable {t : List S40}
theorem Basics.insP (h : Basics t) (i : Int) (h0 : 0 ≤ i) (h7 : i < 7) : insP t i = [] := by
  have := h.2 i h0 h7
  unfold Tg.insP
  rw [if_neg (by omega), if_neg (by omega)]
theorem Basics.insR (h : Basics t) (i : Int) (h0 : 0 ≤ i) (h7 : i < 7) : insR t i = [] := by
  have := h.2 i h0 h7
  unfold Tg.insR
  rw [if_neg (by omega), if_neg (by omega)]
structure Rel (m : Nat) (sr sp : List Int) : Prop where
  lr : sr.length = m
  lp : sp.length = m
  lo : ∀ i : Int, 0 ≤ i → i < 7 → rd sp i = 2 ∧ (rd sr i = 0 ∨ rd sr i = 2)
  hi : ∀ i : Int, 7 ≤ i → i < m → rd sp i = rd sr i
theorem Rel.set {m : Nat} {sr sp : List Int} (h : Rel m sr sp) (h7 : 7 ≤ m) (a v : Int) (a7 : 7 ≤ a) (am : a < m) : Rel m (sr.set a.toNat v) (sp.set a.toNat v) := by
  have e1 := h.lr
  have e2 := h.lp
  refine ⟨by simp [e1], by simp [e2], fun i i0 i7 => ?_, fun i i7 im => ?_⟩
  · rw [rd_set sp a i v ⟨by omega, by omega⟩ ⟨by omega, by omega⟩, rd_set sr a i v ⟨by omega, by omega⟩ ⟨by omega, by omega⟩, if_neg (by omega), if_neg (by omega)]
    exact h.lo i i0 i7
  · rw [rd_set sp a i v ⟨by omega, by omega⟩ ⟨by omega, by omega⟩, rd_set sr a i v ⟨by omega, by omega⟩ ⟨by omega, by omega⟩]
    split
    · rfl
    · exact h.hi i i7 im
theorem sim_visits (hw : Within t) (n : Nat)
    (hone : ∀ a sr sp, At t.length a → Rel t.length sr sp → Val sr → zeros sr < n → (visit (insR t) n a sr).1 = (visit (insP t) n a sp).1 ∧ Rel t.length (visit (insR t) n a sr).2 (visit (insP t) n a sp).2) :
    ∀ (l : List Int) (sr sp : List Int), (∀ b ∈ l, At t.length b) → Rel t.length sr sp → Val sr → zeros sr < n →
      (visits (visit (insR t) n) l sr).1 = (visits (visit (insP t) n) l sp).1 ∧ Rel t.length (visits (visit (insR t) n) l sr).2 (visits (visit (insP t) n) l sp).2
  | [], sr, sp, hl, hr, hv, hz => ⟨rfl, hr⟩
  | x :: xs, sr, sp, hl, hr, hv, hz => by
    obtain ⟨h1, h2⟩ := hone x sr sp (hl x (List.mem_cons_self ..)) hr hv hz
    have hk := visit_keeps (insR t) n x sr
    have ih := sim_visits hw n hone xs _ _ (fun b hb => hl b (List.mem_cons_of_mem _ hb)) h2 (hk.val hv) (Nat.lt_of_le_of_lt hk.zer hz)
    simp only [visits]
    rw [← h1]
    split
    · exact ih
    · exact ⟨rfl, h2⟩
theorem sim_visit (hb : Basics t) (hw : Within t) : ∀ (n : Nat) (a : Int) (sr sp : List Int), At t.length a → Rel t.length sr sp → Val sr → zeros sr < n →
    (visit (insR t) n a sr).1 = (visit (insP t) n a sp).1 ∧ Rel t.length (visit (insR t) n a sr).2 (visit (insP t) n a sp).2
  | 0, a, sr, sp, ha, hr, hv, hz => absurd hz (Nat.not_lt_zero _)
  | n + 1, a, sr, sp, ha, hr, hv, hz => by
    have l7 := hb.1
    have er := hr.lr
    have ep := hr.lp
    have hm := hv _ (rd_mem sr a (by rw [er]; exact ha))
    have ha' := ha
    unfold At at ha'
    by_cases a7 : a < 7
    · obtain ⟨q1, q2⟩ := hr.lo a ha'.1 a7
      have eP : visit (insP t) (n + 1) a sp = (true, sp) := by simp only [visit]; rw [if_neg (by omega), if_pos q1]
      rw [eP]
      rcases q2 with q2 | q2
      · have eR : visit (insR t) (n + 1) a sr = (true, (sr.set a.toNat 1).set a.toNat 2) := by
          simp only [visit]
          rw [if_neg (by omega), if_neg (by omega), hb.insR a ha'.1 a7]
          rfl
        rw [eR, List.set_set]
        refine ⟨rfl, by simp [er], ep, fun i i0 i7 => ?_, fun i i7 im => ?_⟩
        · rw [rd_set sr a i 2 ⟨by omega, by omega⟩ ⟨by omega, by omega⟩]
          refine ⟨(hr.lo i i0 i7).1, ?_⟩
          split
          · exact .inr rfl
          · exact (hr.lo i i0 i7).2
        · rw [rd_set sr a i 2 ⟨by omega, by omega⟩ ⟨by omega, by omega⟩, if_neg (by omega)]
          exact hr.hi i i7 im
      · have eR : visit (insR t) (n + 1) a sr = (true, sr) := by simp only [visit]; rw [if_neg (by omega), if_pos q2]
        rw [eR]
        exact ⟨rfl, hr⟩
    · have hh := hr.hi a (by omega) ha'.2
      by_cases h1 : rd sr a = 1
      · have eR : visit (insR t) (n + 1) a sr = (false, sr) := by simp only [visit]; rw [if_pos h1]
        have eP : visit (insP t) (n + 1) a sp = (false, sp) := by simp only [visit]; rw [if_pos (hh.trans h1)]
        rw [eR, eP]
        exact ⟨rfl, hr⟩
      by_cases h2 : rd sr a = 2
      · have eR : visit (insR t) (n + 1) a sr = (true, sr) := by simp only [visit]; rw [if_neg h1, if_pos h2]
        have eP : visit (insP t) (n + 1) a sp = (true, sp) := by simp only [visit]; rw [if_neg (by rw [hh]; exact h1), if_pos (hh.trans h2)]
        rw [eR, eP]
        exact ⟨rfl, hr⟩
      have h0 : rd sr a = 0 := by rcases hm with h | h | h <;> first | exact h | exact absurd h h1 | exact absurd h h2
      have hr1 := hr.set l7 a 1 (by omega) ha'.2
      have hv1 := val_set hv a.toNat (v := 1) (by omega)
      have hz1 : zeros (sr.set a.toNat 1) < n := by
        have := zeros_set_lt sr a (v := 1) (by omega) (by rw [er]; exact ha) h0
        omega
      have ih := sim_visits hw n (fun a' sr' sp' => sim_visit hb hw n a' sr' sp') (insR t a) _ _ (fun b hb' => hw.place a ha b (insR_sub t a b hb')) hr1 hv1 hz1
      have eL : visits (visit (insP t) n) (insP t a) (sp.set a.toNat 1) = visits (visit (insP t) n) (insR t a) (sp.set a.toNat 1) := by
        unfold Tg.insP Tg.insR
        split
        · rfl
        · split
          · split
            · rename_i h5
              rw [h5]
              obtain ⟨m, rfl⟩ : ∃ m, n = m + 1 := ⟨n - 1, by omega⟩
              have q := (hr1.lo 0 (by omega) (by omega)).1
              have e0 : visit (Tg.insP t) (m + 1) 0 (sp.set a.toNat 1) = (true, sp.set a.toNat 1) := by simp only [visit]; rw [if_neg (by omega), if_pos q]
              show visits (visit (Tg.insP t) (m + 1)) (0 :: _) _ = visits (visit (Tg.insP t) (m + 1)) ([] ++ _) _
              simp only [visits, e0, if_true, List.nil_append]
            · rfl
          · rfl
      have eR : visit (insR t) (n + 1) a sr = if (visits (visit (insR t) n) (insR t a) (sr.set a.toNat 1)).1 = true then (true, (visits (visit (insR t) n) (insR t a) (sr.set a.toNat 1)).2.set a.toNat 2) else (false, (visits (visit (insR t) n) (insR t a) (sr.set a.toNat 1)).2) := by
        simp only [visit]; rw [if_neg h1, if_neg h2]
      have eP : visit (insP t) (n + 1) a sp = if (visits (visit (insP t) n) (insP t a) (sp.set a.toNat 1)).1 = true then (true, (visits (visit (insP t) n) (insP t a) (sp.set a.toNat 1)).2.set a.toNat 2) else (false, (visits (visit (insP t) n) (insP t a) (sp.set a.toNat 1)).2) := by
        simp only [visit]; rw [if_neg (by rw [hh]; exact h1), if_neg (by rw [hh]; exact h2)]
      rw [eR, eP, eL, ← ih.1]
      split
      · exact ⟨rfl, ih.2.set l7 a 2 (by omega) ha'.2⟩
      · exact ⟨rfl, ih.2⟩
/-- places from i on, so many -/
def from_ (i d : Nat) : List Int := (List.range' i d).map fun (j : Nat) => (j : Int)
theorem from_succ (i d : Nat) : from_ i (d + 1) = (i : Int) :: from_ (i + 1) d := by unfold from_; rw [List.range'_succ]; rfl
theorem from_snoc (i d : Nat) : from_ i (d + 1) = from_ i d ++ [((i + d : Nat) : Int)] := by unfold from_; rw [List.range'_concat]; simp
theorem from_add (i d e : Nat) : from_ i (d + e) = from_ i d ++ from_ (i + d) e := by unfold from_; rw [← List.map_append, List.range'_append_1]
theorem from_at {i d m : Nat} (h : i + d ≤ m) : ∀ b ∈ from_ i d, At m b := by
  intro b hb
  unfold from_ at hb
  rw [List.mem_map] at hb
  obtain ⟨j, hj, rfl⟩ := hb
  rw [List.mem_range'_1] at hj
  exact ⟨by omega, by omega⟩
def some2 (m j : Nat) : List Int := List.replicate j 2 ++ List.replicate (m - j) 0
theorem first7 (hb : Basics t) (n : Nat) : ∀ (d j : Nat), j + d = 7 → visits (visit (insP t) (n + 1)) (from_ j d) (some2 t.length j) = (true, some2 t.length 7)
  | 0, j, h => by
    obtain rfl : j = 7 := by omega
    rfl
  | d + 1, j, h => by
    have l7 := hb.1
    rw [from_succ]
    have e0 : some2 t.length j = List.replicate j 2 ++ 0 :: List.replicate (t.length - (j + 1)) 0 := by
      unfold some2
      rw [show t.length - j = (t.length - (j + 1)) + 1 by omega, List.replicate_succ]
    have hr : rd (some2 t.length j) (j : Int) = 0 := by
      rw [e0]; unfold rd
      rw [List.getD_eq_getElem?_getD, Int.toNat_natCast, List.getElem?_append_right (by simp)]
      simp
    have hs : (some2 t.length j).set j 2 = some2 t.length (j + 1) := by
      rw [e0, List.set_append_right _ _ (by simp)]
      unfold some2
      simp only [List.length_replicate, Nat.sub_self, List.set_cons_zero]
      rw [List.replicate_succ', List.append_assoc]
      rfl
    have e1 : visit (insP t) (n + 1) (j : Int) (some2 t.length j) = (true, some2 t.length (j + 1)) := by
      simp only [visit]
      rw [if_neg (by omega), if_neg (by omega), hb.insP j (by omega) (by omega)]
      simp only [visits, if_true, Int.toNat_natCast, List.set_set, hs]
    simp only [visits, e1, if_true]
    exact first7 hb n d (j + 1) (by omega)
theorem val_zeros (m : Nat) : Val (List.replicate m 0) := fun v hv => .inl (List.eq_of_mem_replicate hv)
theorem rel_start (m : Nat) (h7 : 7 ≤ m) : Rel m (List.replicate m 0) (some2 m 7) := by
  have hr : ∀ i : Int, 0 ≤ i → i < m → rd (List.replicate m 0) i = 0 := fun i i0 im => by
    unfold rd
    rw [List.getD_eq_getElem?_getD, List.getElem?_replicate, if_pos (by omega)]
    rfl
  refine ⟨by simp, by simp [some2]; omega, fun i i0 i7 => ⟨?_, .inl (hr i i0 (by omega))⟩, fun i i7 im => ?_⟩
  · unfold rd some2
    rw [List.getD_eq_getElem?_getD, List.getElem?_append_left (by simp; omega), List.getElem?_replicate, if_pos (by omega)]
    rfl
  · rw [hr i (by omega) im]
    unfold rd some2
    rw [List.getD_eq_getElem?_getD, List.getElem?_append_right (by simp; omega), List.getElem?_replicate, if_pos (by simp; omega)]
    rfl
/-- from place 7 on for the reference, from place 0 on for the program: one answer -/
def searchR (t : List S40) : Bool := (visits (visit (insR t) (t.length + 1)) (from_ 7 (t.length - 7)) (List.replicate t.length 0)).1
def searchP (t : List S40) : Bool := (visits (visit (insP t) (t.length + 1)) (from_ 0 t.length) (List.replicate t.length 0)).1
theorem zeros_start (m : Nat) : zeros (List.replicate m 0) < m + 1 := by
  unfold zeros
  rw [List.count_replicate_self]
  omega
theorem search_is (hb : Basics t) (hw : Within t) : searchR t = searchP t := by
  have l7 := hb.1
  unfold searchR searchP
  have e : from_ 0 t.length = from_ 0 7 ++ from_ 7 (t.length - 7) := by
    have := from_add 0 7 (t.length - 7)
    rwa [show 7 + (t.length - 7) = t.length by omega] at this
  rw [e, visits_app]
  have e0 : List.replicate t.length 0 = some2 t.length 0 := by simp [some2]
  conv => rhs; rw [e0]
  rw [first7 hb t.length 7 0 rfl]
  simp only [if_true]
  exact (sim_visits hw _ (fun a sr sp => sim_visit hb hw _ a sr sp) _ _ _ (from_at (by omega)) (rel_start _ l7) (val_zeros _) (zeros_start _)).1
/-! HOW DEEP A TYPE IS -/
def Deep (g : Int → List Int) : Nat → Int → Prop
  | 0, _ => False
  | n + 1, a => ∀ b ∈ g a, Deep g n b
theorem Deep.mono {g : Int → List Int} : ∀ {n m : Nat} {a : Int}, n ≤ m → Deep g n a → Deep g m a
  | 0, _, _, _, h => h.elim
  | n + 1, m, a, hm, h => by
    obtain ⟨k, rfl⟩ : ∃ k, m = k + 1 := ⟨m - 1, by omega⟩
    exact fun b hb => Deep.mono (by omega) (h b hb)
structure Done (g : Int → List Int) (m : Nat) (st st' : List Int) : Prop where
  len : st'.length = st.length
  two : ∀ i, At m i → rd st i = 2 → rd st' i = 2
  deep : (∀ i, At m i → rd st i = 2 → ∃ n, Deep g n i) → ∀ i, At m i → rd st' i = 2 → ∃ n, Deep g n i
theorem Done.refl (g : Int → List Int) (m : Nat) (st : List Int) : Done g m st st := ⟨rfl, fun _ _ h => h, fun h => h⟩
theorem Done.trans {g : Int → List Int} {m : Nat} {a b c : List Int} (h : Done g m a b) (k : Done g m b c) : Done g m a c := ⟨k.len.trans h.len, fun i hi e => k.two i hi (h.two i hi e), fun e => k.deep (h.deep e)⟩
end
end Go.Proofs.Ytgnbemgeiloegaa.Tg
