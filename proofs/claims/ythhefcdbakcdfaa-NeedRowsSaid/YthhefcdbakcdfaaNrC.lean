/- The Go law NeedRows at an int n: true. -/
import Derived.Test.YthhefcdbakcdfaaNrB
namespace Go.Proofs.Ythhefcdbakcdfaa.PNeedRows
open Go.RowKit Go.Proofs.YthhefcdbakcdfaaW.PrintWords Go.Proofs.YthhefcdbakcdfaaW.PrintLast Go.Proofs.YthhefcdbakcdfaaW.PrintMore
attribute [local go_sem] max2_int min2_int max_two min_two max_three min_three max_four min_four

def lf : Nat → S24 | 0 => nm ⟨#[97]⟩ | i + 1 => tw (lf i) (nm ⟨#[98]⟩)
def rt : Nat → S24 | 0 => nm ⟨#[97]⟩ | i + 1 => tw (nm ⟨#[98]⟩) (rt i)

/-- The two boxes, at blocks g and g + 1, hold the expressions a and b; w: the world at the beginning. -/
def Two (g : Nat) (a b : S24) (A A' : Option Addr) (c c' : Nat) (w W : World) : Prop :=
  W.heap[g]? = some (.cells #[.int .i64 a.f0, .int .i64 a.f1, .string a.f2, .string a.f3, .slice A a.f4.length c, .int .i64 a.f5] 24 (0, 0)) ∧ W.heap[g + 1]? = some (.cells #[.int .i64 b.f0, .int .i64 b.f1, .string b.f2, .string b.f3, .slice A' b.f4.length c', .int .i64 b.f5] 24 (0, 0)) ∧
  a.f4.length ≤ c ∧ b.f4.length ≤ c' ∧ Kd.F k24 W (fun k => k ≠ g ∧ k ≠ g + 1) A a.f4.length a.f4 ∧ Kd.F k24 W (fun k => k ≠ g ∧ k ≠ g + 1) A' b.f4.length b.f4 ∧ Below w.heap.size w W ∧ w.heap.size ≤ g ∧ g + 2 ≤ W.heap.size
theorem Two.below {g : Nat} {a b : S24} {A A' : Option Addr} {c c' : Nat} {w W W1 : World} (h : Two g a b A A' c c' w W) (hb : Below W.heap.size W W1) : Two g a b A A' c c' w W1 := by
  obtain ⟨h1, h2, h3, h4, h5, h6, h7, h8, h9⟩ := h
  exact ⟨(hb.block _ (by omega)).trans h1, (hb.block _ (by omega)).trans h2, h3, h4, Kd.F_below h5 hb, Kd.F_below h6 hb, below_more h7 hb, h8, Nat.le_trans h9 hb.size⟩
theorem Two.fst {g : Nat} {a b : S24} {A A' : Option Addr} {c c' : Nat} {w W : World} (h : Two g a b A A' c c' w W) : RepF W (fun k => k ≠ g ∧ k ≠ g + 1) a (.agg #[.int .i64 a.f0, .int .i64 a.f1, .string a.f2, .string a.f3, .slice A a.f4.length c, .int .i64 a.f5]) := by
  obtain ⟨h1, h2, h3, h4, h5, h6, h7, h8, h9⟩ := h
  exact ⟨A, c, rfl, h3, h5⟩
theorem Two.snd {g : Nat} {a b : S24} {A A' : Option Addr} {c c' : Nat} {w W : World} (h : Two g a b A A' c c' w W) : RepF W (fun k => k ≠ g ∧ k ≠ g + 1) b (.agg #[.int .i64 b.f0, .int .i64 b.f1, .string b.f2, .string b.f3, .slice A' b.f4.length c', .int .i64 b.f5]) := by
  obtain ⟨h1, h2, h3, h4, h5, h6, h7, h8, h9⟩ := h
  exact ⟨A', c', rfl, h4, h6⟩
theorem Two.new {g : Nat} {a b : S24} {A A' : Option Addr} {c c' : Nat} {w W : World} (h : Two g a b A A' c c' w W) : ∀ k, W.heap.size ≤ k → k ≠ g ∧ k ≠ g + 1 := by
  obtain ⟨h1, h2, h3, h4, h5, h6, h7, h8, h9⟩ := h
  intro k hk
  omega
def Held (g : Nat) (a b : S24) (A A' : Option Addr) (c c' : Nat) (w w' : World) : Prop := w'.cell? ⟨g, 0, none⟩ = some (.int .i64 a.f0) ∧ w'.cell? ⟨g, 1, none⟩ = some (.int .i64 a.f1) ∧ w'.cell? ⟨g, 2, none⟩ = some (.string a.f2) ∧ w'.cell? ⟨g, 3, none⟩ = some (.string a.f3) ∧ w'.cell? ⟨g, 4, none⟩ = some (.slice A a.f4.length c) ∧ w'.cell? ⟨g, 5, none⟩ = some (.int .i64 a.f5) ∧ w'.cell? ⟨(g + 1), 0, none⟩ = some (.int .i64 b.f0) ∧ w'.cell? ⟨(g + 1), 1, none⟩ = some (.int .i64 b.f1) ∧ w'.cell? ⟨(g + 1), 2, none⟩ = some (.string b.f2) ∧ w'.cell? ⟨(g + 1), 3, none⟩ = some (.string b.f3) ∧ w'.cell? ⟨(g + 1), 4, none⟩ = some (.slice A' b.f4.length c') ∧ w'.cell? ⟨(g + 1), 5, none⟩ = some (.int .i64 b.f5) ∧ Two g a b A A' c c' w w'
theorem Two.held {g : Nat} {a b : S24} {A A' : Option Addr} {c c' : Nat} {w W : World} (h : Two g a b A A' c c' w W) : Held g a b A A' c c' w W :=
  ⟨(blk_cell h.1 0).trans rfl, (blk_cell h.1 1).trans rfl, (blk_cell h.1 2).trans rfl, (blk_cell h.1 3).trans rfl, (blk_cell h.1 4).trans rfl, (blk_cell h.1 5).trans rfl,
    (blk_cell h.2.1 0).trans rfl, (blk_cell h.2.1 1).trans rfl, (blk_cell h.2.1 2).trans rfl, (blk_cell h.2.1 3).trans rfl, (blk_cell h.2.1 4).trans rfl, (blk_cell h.2.1 5).trans rfl, h⟩
theorem Held.two {g : Nat} {a b : S24} {A A' : Option Addr} {c c' : Nat} {w W : World} (h : Held g a b A A' c c' w W) : Two g a b A A' c c' w W := h.2.2.2.2.2.2.2.2.2.2.2.2
theorem Held.below {g : Nat} {a b : S24} {A A' : Option Addr} {c c' : Nat} {w W W1 : World} (h : Held g a b A A' c c' w W) (hb : Below W.heap.size W W1) : Held g a b A A' c c' w W1 := (h.two.below hb).held

theorem nd_nm (s : ByteArray) : ndE (nm s) = 1 := by simp [nm, ndE, ndL, mn]
theorem nd_tw (a b : S24) : ndE (tw a b) = mn (mx (mx 1 (ndE a)) (ndE b + 1)) 128 := by simp [tw, ndE, ndL]
theorem sm_nm (s : ByteArray) : SmE (nm s) := by simp [nm, SmE, SmL]
theorem sm_tw {a b : S24} (ha : SmE a) (hb : SmE b) : SmE (tw a b) := by simp [tw, SmE, SmL, ha, hb]
theorem sm_lf : ∀ i, SmE (lf i)
  | 0 => sm_nm _
  | i + 1 => sm_tw (sm_lf i) (sm_nm _)
theorem sm_rt : ∀ i, SmE (rt i)
  | 0 => sm_nm _
  | i + 1 => sm_tw (sm_nm _) (sm_rt i)
theorem nd_lf : ∀ i, ndE (lf (i + 1)) = 2
  | 0 => by rw [lf, nd_tw, lf, nd_nm, nd_nm]; rfl
  | i + 1 => by rw [lf, nd_tw, nd_lf i, nd_nm]; rfl
theorem nd_rt : ∀ i : Nat, ndE (rt i) = mn ((i : Int) + 1) 128
  | 0 => by rw [rt, nd_nm]; rfl
  | i + 1 => by
    rw [rt, nd_tw, nd_rt i, nd_nm]
    unfold mn mx
    repeat (first | omega | split)
theorem nf_lf (i : Nat) : ∃ k, nf k (lf (i + 1)) = some 2 := (nd_lf i ▸ nf_nd _ (sm_lf _)).rounds
theorem nf_rt (i : Nat) : ∃ k, nf k (rt i) = some (mn ((i : Int) + 1) 128) := (nd_rt i ▸ nf_nd _ (sm_rt _)).rounds

theorem two_stored {g : Nat} {a b x y : S24} {A A' X Y : Option Addr} {c c' p q : Nat} {w W : World} (h : Two g a b A A' c c' w W) (hx : x.f4.length ≤ p) (hX : Kd.F k24 W (fun k => k ≠ g ∧ k ≠ g + 1) X x.f4.length x.f4)
    (hy : y.f4.length ≤ q) (hY : Kd.F k24 W (fun k => k ≠ g ∧ k ≠ g + 1) Y y.f4.length y.f4) : Two g x y X Y p q w ((((((((((((W.setCell ⟨g, 0, none⟩ (.int .i64 x.f0)).setCell ⟨g, 1, none⟩ (.int .i64 x.f1)).setCell ⟨g, 2, none⟩ (.string x.f2)).setCell ⟨g, 3, none⟩ (.string x.f3)).setCell ⟨g, 4, none⟩ (.slice X x.f4.length p)).setCell ⟨g, 5, none⟩ (.int .i64 x.f5)).setCell ⟨g + 1, 0, none⟩ (.int .i64 y.f0)).setCell ⟨g + 1, 1, none⟩ (.int .i64 y.f1)).setCell ⟨g + 1, 2, none⟩ (.string y.f2)).setCell ⟨g + 1, 3, none⟩ (.string y.f3)).setCell ⟨g + 1, 4, none⟩ (.slice Y y.f4.length q)).setCell ⟨g + 1, 5, none⟩ (.int .i64 y.f5)) := by
  obtain ⟨h1, h2, h3, h4, h5, h6, h7, h8, h9⟩ := h
  have far : ∀ k, k ≠ g → k ≠ g + 1 → (((((((((((((W.setCell ⟨g, 0, none⟩ (.int .i64 x.f0)).setCell ⟨g, 1, none⟩ (.int .i64 x.f1)).setCell ⟨g, 2, none⟩ (.string x.f2)).setCell ⟨g, 3, none⟩ (.string x.f3)).setCell ⟨g, 4, none⟩ (.slice X x.f4.length p)).setCell ⟨g, 5, none⟩ (.int .i64 x.f5)).setCell ⟨g + 1, 0, none⟩ (.int .i64 y.f0)).setCell ⟨g + 1, 1, none⟩ (.int .i64 y.f1)).setCell ⟨g + 1, 2, none⟩ (.string y.f2)).setCell ⟨g + 1, 3, none⟩ (.string y.f3)).setCell ⟨g + 1, 4, none⟩ (.slice Y y.f4.length q)).setCell ⟨g + 1, 5, none⟩ (.int .i64 y.f5))).heap[k]? = W.heap[k]? := fun k k1 k2 => by
    simp only [Below.heap_setCell _ _ _ _ (show k ≠ (⟨g, _, none⟩ : Addr).block from k1), Below.heap_setCell _ _ _ _ (show k ≠ (⟨g + 1, _, none⟩ : Addr).block from k2)]
  have n1 : g ≠ g + 1 := by omega
  have n2 : g + 1 ≠ g := by omega
  refine ⟨?_, ?_, hx, hy, Kd.F_step hX (fun k hk _ => far k hk.1 hk.2), Kd.F_step hY (fun k hk _ => far k hk.1 hk.2), ?_, h8, ?_⟩
  · have z := blk_set (blk_set (blk_set (blk_set (blk_set (blk_set h1 0 (.int .i64 x.f0)) 1 (.int .i64 x.f1)) 2 (.string x.f2)) 3 (.string x.f3)) 4 (.slice X x.f4.length p)) 5 (.int .i64 x.f5)
    exact blk_far (p := ⟨g + 1, 5, none⟩) (blk_far (p := ⟨g + 1, 4, none⟩) (blk_far (p := ⟨g + 1, 3, none⟩) (blk_far (p := ⟨g + 1, 2, none⟩) (blk_far (p := ⟨g + 1, 1, none⟩) (blk_far (p := ⟨g + 1, 0, none⟩) z n1 _) n1 _) n1 _) n1 _) n1 _) n1 _
  · have z := blk_far (p := ⟨g, 5, none⟩) (blk_far (p := ⟨g, 4, none⟩) (blk_far (p := ⟨g, 3, none⟩) (blk_far (p := ⟨g, 2, none⟩) (blk_far (p := ⟨g, 1, none⟩) (blk_far (p := ⟨g, 0, none⟩) h2 n2 (.int .i64 x.f0)) n2 (.int .i64 x.f1)) n2 (.string x.f2)) n2 (.string x.f3)) n2 (.slice X x.f4.length p)) n2 (.int .i64 x.f5)
    exact blk_set (blk_set (blk_set (blk_set (blk_set (blk_set z 0 _) 1 _) 2 _) 3 _) 4 _) 5 _
  · exact ((((((((((((h7.setCell (by exact h8) _).setCell (by exact h8) _).setCell (by exact h8) _).setCell (by exact h8) _).setCell (by exact h8) _).setCell (by exact h8) _).setCell (by show _ ≤ g + 1; omega) _).setCell (by show _ ≤ g + 1; omega) _).setCell (by show _ ≤ g + 1; omega) _).setCell (by show _ ≤ g + 1; omega) _).setCell (by show _ ≤ g + 1; omega) _).setCell (by show _ ≤ g + 1; omega) _)
  · simpa [World.setCell] using h9

set_option maxHeartbeats 1000000 in
set_option maxRecDepth 100000 in
theorem rows_in (n : Int) (h1 : 1 ≤ n) (h2 : n ≤ 200) (w : World) : Calls Try.prog 5 #[.int .i64 n] w fun e w' => e = .returned (.bool true) ∧ Below w.heap.size w w' := by
  go_enter Try.func5, Try.ntmps5
  go_wp2_with fail
  refine (name_anyF (fun _ => True) _ _).mono ?_
  rintro e w1 ⟨v1, rfl, r1, b1⟩
  go_wp2_with fail
  refine (name_anyF (fun _ => True) _ _).mono ?_
  rintro e w2 ⟨v2, rfl, r2, b2⟩
  have B := below_more b1 b2
  have R1 := (r1.below b2)
  obtain ⟨A, c, rfl, hl, hc⟩ := R1
  obtain ⟨A', c', rfl, hl', hc'⟩ := r2
  go_wp2
  go_loopw [5] (fun i wr => ∃ (j : Nat) (A A' : Option Addr) (c c' : Nat), (j : Int) ≤ n ∧ i = .int .i64 j ∧ Two w2.heap.size (lf j) (rt j) A A' c c' w wr) (fun i _ => n.toNat - (intOf i).toNat)
  case atStart => exact ⟨0, A, A', c, c', by omega, rfl, by
    refine ⟨?_, ?_, hl, hl', ?_, ?_, ?_, B.size, ?_⟩
    · exact (heap_alloc_old _ _ (by simp)).trans (heap_alloc_new w2 _)
    · have h := heap_alloc_new (w2.alloc (.cells #[.int .i64 (nm ⟨#[97]⟩).f0, .int .i64 (nm ⟨#[97]⟩).f1, .string (nm ⟨#[97]⟩).f2, .string (nm ⟨#[97]⟩).f3, .slice A (nm ⟨#[97]⟩).f4.length c, .int .i64 (nm ⟨#[97]⟩).f5] 24)) (.cells #[.int .i64 (nm ⟨#[97]⟩).f0, .int .i64 (nm ⟨#[97]⟩).f1, .string (nm ⟨#[97]⟩).f2, .string (nm ⟨#[97]⟩).f3, .slice A' (nm ⟨#[97]⟩).f4.length c', .int .i64 (nm ⟨#[97]⟩).f5] 24)
      rw [World.size_alloc] at h
      exact h
    · exact Kd.F_alloc (Kd.F_alloc (Kd.F_mono (Kd.F_bound hc) (fun k hk => ⟨by omega, by omega⟩)) _) _
    · exact Kd.F_alloc (Kd.F_alloc (Kd.F_mono (Kd.F_bound hc') (fun k hk => ⟨by omega, by omega⟩)) _) _
    · exact below_alloc (below_alloc B _) _
    · simp⟩
  case round =>
    obtain ⟨j, A, A', c, c', hj, rfl, hT⟩ := hrel
    obtain ⟨q0, q1, q2, q3, q4, q5, q6, q7, q8, q9, q10, q11, _⟩ := hT.held
    by_cases hlt : (j : Int) < n
    · have hx : decide ((j : Int) < n) = true := decide_eq_true hlt
      go_wp2
      have hT3 := hT.below (below_drew (Below.refl _ _))
      have hn3 : w2.heap.size ≠ w2.heap.size + 1 := by omega
      have hn4 : w2.heap.size + 1 ≠ w2.heap.size := by omega
      clear q0 q1 q2 q3 q4 q5 q6 q7 q8 q9 q10 q11
      refine start_ (n := 8) (S := Held w2.heap.size (lf j) (rt j) A A' c c' w) (ds := [6, 7]) #[false, false, false, false, false, false, false, false] (by kernel_rfl) rfl rfl (hT3.held) (fun hHeld => ?_)
      generalize wr.drew = w3 at hT3 hHeld ⊢
      refine take_ (i := 0) (N := some 20) (v := ?_) (a' := ?_) #[true, false, false, false, false, false, false, false] rfl rfl (by kernel_rfl) (fun _ _ _ h => h) (Or.inl ⟨by rfl, ?_⟩) hHeld ?_ ?_
      rotate_left
      · intro w' hSw; obtain ⟨s0, s1, s2, s3, s4, s5, s6, s7, s8, s9, s10, s11, _⟩ := hSw; go_simp; try with_reducible rfl
      rotate_left
      · simp only [Act.put, List.setIfInBounds_toArray, List.set_cons_zero, List.set_cons_succ]; rfl
      refine take_ (i := 4) (N := some 24) (v := ?_) (a' := ?_) #[true, false, false, false, true, false, false, false] rfl rfl (by kernel_rfl) (fun _ _ _ h => h) (Or.inl ⟨by rfl, ?_⟩) hHeld ?_ ?_
      rotate_left
      · intro w' hSw; obtain ⟨s0, s1, s2, s3, s4, s5, s6, s7, s8, s9, s10, s11, _⟩ := hSw; go_simp; try with_reducible rfl
      rotate_left
      · simp only [Act.put, List.setIfInBounds_toArray, List.set_cons_zero, List.set_cons_succ]; rfl
      refine one_ (i := 1) (N := some 21) #[true, true, false, false, true, false, false, false] rfl rfl (by kernel_rfl) (by decide) (fun K hK => ?_)
      refine goes_ Try.func13 (by kernel_rfl) rfl #[.string ⟨#[98]⟩] (by rfl) rfl rfl (by (try simp only [List.map_toArray, List.map_cons, List.map_nil]); first | done | rfl) ?_
      refine (name_anyF (fun k => k ≠ w2.heap.size ∧ k ≠ w2.heap.size + 1) _ _).mono ?_
      rintro e w4 ⟨v4, rfl, r4, b4⟩
      refine ⟨_, rfl, ?_⟩
      refine hK.out _ _ (hHeld.below b4) (fun hHeld => ?_)
      clear hK K
      refine norm_ (a' := ?_) ?_ ?_
      rotate_left
      · show Act.put _ (some 21) _ = _; simp only [Act.put, List.setIfInBounds_toArray, List.set_cons_zero, List.set_cons_succ]; rfl
      refine one_ (i := 2) (N := some 22) #[true, true, true, false, true, false, false, false] rfl rfl (by kernel_rfl) (by decide) (fun K hK => ?_)
      refine goes_ Try.func12 (by kernel_rfl) rfl #[.agg #[.int .i64 (lf j).f0, .int .i64 (lf j).f1, .string (lf j).f2, .string (lf j).f3, .slice A (lf j).f4.length c, .int .i64 (lf j).f5], v4] (by rfl) rfl rfl (by (try simp only [List.map_toArray, List.map_cons, List.map_nil]); first | done | rfl) ?_
      refine (two_anyF (fun k => k ≠ w2.heap.size ∧ k ≠ w2.heap.size + 1) (lf j) (nm ⟨#[98]⟩) _ _ _ hHeld.two.new hHeld.two.fst r4).mono ?_
      rintro e w5 ⟨v5, rfl, r5, b5⟩
      refine ⟨_, rfl, ?_⟩
      refine hK.out _ _ (hHeld.below b5) (fun hHeld => ?_)
      clear hK K
      refine norm_ (a' := ?_) ?_ ?_
      rotate_left
      · show Act.put _ (some 22) _ = _; simp only [Act.put, List.setIfInBounds_toArray, List.set_cons_zero, List.set_cons_succ]; rfl
      refine one_ (i := 3) (N := some 23) #[true, true, true, true, true, false, false, false] rfl rfl (by kernel_rfl) (by decide) (fun K hK => ?_)
      refine goes_ Try.func13 (by kernel_rfl) rfl #[.string ⟨#[98]⟩] (by rfl) rfl rfl (by (try simp only [List.map_toArray, List.map_cons, List.map_nil]); first | done | rfl) ?_
      refine (name_anyF (fun k => k ≠ w2.heap.size ∧ k ≠ w2.heap.size + 1) _ _).mono ?_
      rintro e w6 ⟨v6, rfl, r6, b6⟩
      refine ⟨_, rfl, ?_⟩
      refine hK.out _ _ (hHeld.below b6) (fun hHeld => ?_)
      clear hK K
      refine norm_ (a' := ?_) ?_ ?_
      rotate_left
      · show Act.put _ (some 23) _ = _; simp only [Act.put, List.setIfInBounds_toArray, List.set_cons_zero, List.set_cons_succ]; rfl
      refine one_ (i := 5) (N := some 25) #[true, true, true, true, true, true, false, false] rfl rfl (by kernel_rfl) (by decide) (fun K hK => ?_)
      refine goes_ Try.func12 (by kernel_rfl) rfl #[v6, .agg #[.int .i64 (rt j).f0, .int .i64 (rt j).f1, .string (rt j).f2, .string (rt j).f3, .slice A' (rt j).f4.length c', .int .i64 (rt j).f5]] (by rfl) rfl rfl (by (try simp only [List.map_toArray, List.map_cons, List.map_nil]); first | done | rfl) ?_
      refine (two_anyF (fun k => k ≠ w2.heap.size ∧ k ≠ w2.heap.size + 1) (nm ⟨#[98]⟩) (rt j) _ _ _ hHeld.two.new r6 hHeld.two.snd).mono ?_
      rintro e w7 ⟨v7, rfl, r7, b7⟩
      refine ⟨_, rfl, ?_⟩
      refine hK.out _ _ (hHeld.below b7) (fun hHeld => ?_)
      clear hK K
      refine norm_ (a' := ?_) ?_ ?_
      rotate_left
      · show Act.put _ (some 25) _ = _; simp only [Act.put, List.setIfInBounds_toArray, List.set_cons_zero, List.set_cons_succ]; rfl
      have r8 := (r5.below b6).below b7
      clear r4 r5 r6 b4 b5 b6 b7 hT hT3
      have hT7 := hHeld.two
      obtain ⟨X, x, rfl, hl8, hF8⟩ := r8
      obtain ⟨Y, y, rfl, hl9, hF9⟩ := r7
      refine last_ (i := 6) (N := none) #[true, true, true, true, true, true, true, false] rfl rfl (by kernel_rfl) (by decide) (fun K hK => ?_)
      obtain ⟨z0, z1, z2, z3, z4, z5, y0, y1, y2, y3, y4, y5, hT8⟩ := hHeld
      have zf0 := blk_frozen hT7.1 0
      have zf1 := blk_frozen hT7.1 1
      have zf2 := blk_frozen hT7.1 2
      have zf3 := blk_frozen hT7.1 3
      have zf4 := blk_frozen hT7.1 4
      have zf5 := blk_frozen hT7.1 5
      rw [if_pos (by rfl)]
      go_simp
      refine hK.out _ _ ?_
      clear hK K
      refine last_ (i := 7) (N := none) #[true, true, true, true, true, true, true, true] rfl rfl (by kernel_rfl) (by decide) (fun K hK => ?_)
      clear z0 z1 z2 z3 z4 z5 zf0 zf1 zf2 zf3 zf4 zf5 hn4
      have yf0 := blk_frozen hT7.2.1 0
      have yf1 := blk_frozen hT7.2.1 1
      have yf2 := blk_frozen hT7.2.1 2
      have yf3 := blk_frozen hT7.2.1 3
      have yf4 := blk_frozen hT7.2.1 4
      have yf5 := blk_frozen hT7.2.1 5
      rw [if_pos (by rfl)]
      go_simp
      refine hK.out _ _ ?_
      clear hK K
      refine done_ (by kernel_rfl) ?_
      have hG := two_stored hT7 hl8 hF8 hl9 hF9
      go_wp2
      go_roundw
      case rel => exact ⟨j + 1, X, Y, x, y, by omega, by go_num, hG⟩
      case measure => simp [intOf]; omega
    · have hx : decide ((j : Int) < n) = false := decide_eq_false hlt
      have hjn : (j : Int) = n := by omega
      obtain ⟨i, rfl⟩ : ∃ i, j = i + 1 := ⟨j - 1, by omega⟩
      have hm : mn (n + 1) 128 = mn (((i + 1 : Nat) : Int) + 1) 128 := by rw [hjn]
      have hq : (if 128 < n + 1 then 128 else n + 1) = mn (((i + 1 : Nat) : Int) + 1) 128 := by rw [← hm]; rfl
      have hL := hT.fst.now
      have hR := hT.snd.now
      obtain ⟨k1, e1⟩ := nf_lf i
      obtain ⟨k2, e2⟩ := nf_rt (i + 1)
      have B := hT.2.2.2.2.2.2.1
      have H1 := Aside0.mk hm
      have H2 := Aside0.mk hq
      clear hm hq hjn
      go_wp2_with fail
      refine (need_any _ _ _ hL e1).mono ?_
      rintro e w3 ⟨rfl, b3⟩
      clear q0 q1 q2 q3 q4 q5 q6 q7 q8 q9 q10 q11
      obtain ⟨q0, q1, q2, q3, q4, q5, q6, q7, q8, q9, q10, q11, _⟩ := (hT.below b3).held
      go_wp2_with fail
      refine (need_any _ _ _ (hR.below b3) e2).mono ?_
      rintro e w4 ⟨rfl, b4⟩
      have w5 : wrap64 (((i + 1 : Nat) : Int) + 1) = ((i + 1 : Nat) : Int) + 1 := wrap_id _ (by omega) (by omega)
      go_wp2_with fail
      all_goals first | (refine (wakes_any _).mono ?_; rintro e w5 ⟨rfl, b5⟩; go_wp2; go_ret; exact ⟨rfl, below_more (below_more (below_more B b3) b4) b5⟩) | skip
      · exfalso
        have hz : ¬ mn ((i : Int) + 1 + 1) 128 = 128 := by assumption
        apply hz
        unfold mn
        split <;> omega
      · exfalso
        have hz : ¬ mn ((i : Int) + 1 + 1) 128 = n + 1 := by assumption
        apply hz
        unfold mn
        split <;> omega

set_option maxHeartbeats 1000000 in
set_option maxRecDepth 100000 in
theorem rows_out (n : Int) (h : n < 1 ∨ 200 < n) (w : World) : Calls Try.prog 5 #[.int .i64 n] w fun e w' => e = .returned (.bool true) ∧ Below w.heap.size w w' := by
  by_cases h1 : n < 1
  · go_enter Try.func5, Try.ntmps5
    go_wp2_with (first | (go_at_call 7; refine (wakes_any _).mono ?_; rintro e w5 ⟨rfl, b5⟩))
    go_ret
    exact ⟨rfl, b5⟩
  · have h2 : 200 < n := by omega
    go_enter Try.func5, Try.ntmps5
    go_wp2_with (first | (go_at_call 7; refine (wakes_any _).mono ?_; rintro e w5 ⟨rfl, b5⟩))
    go_ret
    exact ⟨rfl, b5⟩

theorem rows_all (n : Int) (w : World) : Calls Try.prog 5 #[.int .i64 n] w fun e w' => e = .returned (.bool true) ∧ Below w.heap.size w w' := by
  by_cases h : n < 1 ∨ 200 < n
  · exact rows_out n h w
  · exact rows_in n (by omega) (by omega) w

end Go.Proofs.Ythhefcdbakcdfaa.PNeedRows
