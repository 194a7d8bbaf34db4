import Derived.Test.YtgnbemgeiloegaaMTgM
namespace Go.Proofs.Ytgnbemgeiloegaa.PTypesGoods
open Go.RowKit Go.Proofs.YtgnbemgeiloegaaW.PrintWords Go.Proofs.YtgnbemgeiloegaaW.PrintLast Go.Proofs.YtgnbemgeiloegaaW.PrintMore
attribute [local go_sem] max2_int min2_int max_two min_two max_three min_three max_four min_four
set_option linter.unusedVariables false
set_option linter.unusedSimpArgs false
def types_Basic.l0 : Nat → List (S40) → Int → Option ((List (S40)))
 | 0, _, _ => none
 | k + 1, x1, x2 => if x2 ≤ 6 then (if x1.length < 1099511627776 then (types_Basic.l0 k (x1 ++ [(⟨x2, (⟨#[]⟩ : ByteArray), (⟨#[]⟩ : ByteArray), 0, 0, 0, ([] : List (S42)), ([] : List (S47)), 0, 0⟩ : S40)]) (wrap64 (x2 + 1))) else (none)) else (some x1)
def types_Basic.f (k : Nat)  : Option ((List (S40))) := types_Basic.l0 k ([] : List (S40)) 0
theorem types_Basic.mono_l : ∀ k, (∀ y0 y1, LeO (types_Basic.l0 k y0 y1) (types_Basic.l0 (k + 1) y0 y1))
 | 0 => fun _ _ r h => by simp [types_Basic.l0] at h
 | k + 1 => by
  have ih0 := types_Basic.mono_l k
  ·
   intro y0 y1
   unfold types_Basic.l0
   repeat' first
   | (with_reducible exact ih0 _ _)
   | (with_reducible exact LeO.refl _)
   | (with_reducible exact LeO.none _)
   | (with_reducible refine LeO.ite ?_ ?_)
   | (with_reducible refine LeO.bind ?_ (fun _ => ?_))
   | exact ih0 _ _
   | exact LeO.none _
   | refine LeO.ite ?_ ?_
   | refine LeO.bind ?_ (fun _ => ?_)
theorem types_Basic.mono : ∀ k, LeO (types_Basic.f k ) (types_Basic.f (k + 1) ) := by
 intro  k
 have ih0 := types_Basic.mono_l k
 unfold types_Basic.f
 repeat' first
  | (with_reducible exact ih0 _ _)
  | (with_reducible exact LeO.refl _)
  | (with_reducible exact LeO.none _)
  | (with_reducible refine LeO.ite ?_ ?_)
  | (with_reducible refine LeO.bind ?_ (fun _ => ?_))
  | exact ih0 _ _
  | exact LeO.none _
  | refine LeO.ite ?_ ?_
  | refine LeO.bind ?_ (fun _ => ?_)
set_option maxHeartbeats 8000000 in
set_option maxRecDepth 100000 in
theorem types_Basic.calls (k : Nat)  (r : List (S40)) (w : World) (h : types_Basic.f k  = some r) :
 Calls Try.prog 26 #[] w fun e w' => ∃ v0_ : Value, e = .returned (v0_) ∧ Kd.S k40 40 w' w.heap.size (fun _ => True) v0_ r ∧ Below w.heap.size w w' := by
 have hu40 := Try.underlying40
 have HB := Aside0.mk (Below.refl w.heap.size w)
 have H : (types_Basic.l0 k ([] : List (S40)) 0) = some r := h
 clear h
 have H' := Aside0.mk H
 clear H
 go_enter Try.func26, Try.ntmps26
 go_wp2
 go_loopg [1, 2] k (fun kq v1 v2 w' => ∃ (x1_1 : List (S40)) (x2_1 : Int), v2 = .int .i64 x2_1 ∧ Aside0 (types_Basic.l0 kq x1_1 x2_1 = some r) ∧ Aside0 (kq ≤ k) ∧ Aside0 (Kd.S k40 40 w' w.heap.size (fun _ => True) v1 x1_1) ∧ Aside0 (Below w.heap.size w w'))
 case atStart => exact ⟨(([] : List (S40))), (0), (by first | rfl | (simp; done) | (simp [*]; done)), H', ⟨Nat.le_refl _⟩, ⟨by first | exact Kd.S_nil _ _ _ _ _ | exact Kd.N_nil _ _ _ _ _ | exact Kd.V_nil _ _ _ _ _ | exact Kd.Q_nil _ _ _ _ _ | exact Kd.R_nil _ _ _ _ _⟩, ⟨by repeat (first | (with_reducible first | exact HB.out | apply below_alloc | apply pw_below_drewN | apply below_drew1) | exact HB.out)⟩⟩
 case round =>
  clear H'
  obtain ⟨x1_1, x2_1, rfl, HA, HK1, HO_1, HB⟩ := hrel
  cases gk with
  | zero => exact absurd HA.out (by simp [types_Basic.l0])
  | succ k1 =>
   have H := HA.out
   clear HA
   simp only [types_Basic.l0] at H
   by_cases c1 : x2_1 ≤ 6
   ·
    rw [if_pos c1] at H
    have c1b0 : decide (x2_1 ≤ 6) = true := decide_eq_true c1
    clear c1
    by_cases c2 : x1_1.length < 1099511627776
    ·
     rw [if_pos c2] at H
     have LMc2 := Aside0.mk c2
     clear c2
     obtain ⟨y230, hy230⟩ : ∃ y_ : List (S40), y_ = (x1_1 ++ [(⟨x2_1, (⟨#[]⟩ : ByteArray), (⟨#[]⟩ : ByteArray), 0, 0, 0, ([] : List (S42)), ([] : List (S47)), 0, 0⟩ : S40)]) := ⟨_, rfl⟩
     replace H : (types_Basic.l0 k1 y230 (wrap64 (x2_1 + 1))) = some r := by first | (rw [hy230]; with_reducible exact H) | (have H2_ := (Option.bind_some _ _).symm.trans H; rw [hy230]; with_reducible exact H2_) | (have H2_ := (Option.bind_some _ _).symm.trans H; with_reducible exact H2_) | with_reducible exact H | (rw [hy230]; exact H) | exact H
     have Ny230 := Aside0.mk hy230
     clear hy230
     have H' := Aside0.mk H
     clear H
     go_wp2_with (first | ((with_reducible refine gate_builtin (b := .append) (xs := #[.tmp 7, .tmp 10]) rfl ?_); at_builtin; refine Kd.S_append k40 (w0 := w) w.heap.size rfl (.tmp 7) (.tmp 10) 22 40 (.agg #[(.int .i64 0), (.string ⟨#[]⟩), (.string ⟨#[]⟩), (.int .i64 0), (.int .i64 0), (.int .i64 0), (.slice none 0 0), (.slice none 0 0), (.int .i64 0), (.int .i64 0)]) 128 rfl Try.underlying22 info40 rfl (by decide) (by omega) u1 x1_1 (⟨x2_1, (⟨#[]⟩ : ByteArray), (⟨#[]⟩ : ByteArray), 0, 0, 0, ([] : List (S42)), ([] : List (S47)), 0, 0⟩ : S40) [.int .i64 x2_1, .string (⟨#[]⟩ : ByteArray), .string (⟨#[]⟩ : ByteArray), .int .i64 0, .int .i64 0, .int .i64 0, .slice none 0 0, .slice none 0 0, .int .i64 0, .int .i64 0] (fun _ => True) (fun _ => False) rfl rfl ?aP (fun k_ hk_ => hk_.elim) ?aF ?aO ?aB ?aS ?aL ?_; (case aP => exact k40_mkM _ _ _ (⟨x2_1, (⟨#[]⟩ : ByteArray), (⟨#[]⟩ : ByteArray), 0, 0, 0, ([] : List (S42)), ([] : List (S47)), 0, 0⟩ : S40) (Kd.R_nil _ _ _ _ _) (Kd.R_nil _ _ _ _ _)); (case aB => exact (by repeat (first | (with_reducible first | exact HB.out | apply below_alloc | apply pw_below_drewN | apply below_drew1) | exact HB.out))); (case aF => exact (fun _ _ => trivial)); (case aO => exact (by (with_reducible repeat (first | apply Kd.S_alloc | apply Kd.S_drewN | apply Kd.S_drew)); exact Kd.S_mono HO_1.out (fun k_ hk => ⟨trivial, fun e_ => e_⟩))); (case aS => exact (below_size (by repeat (first | (with_reducible first | exact HB.out | apply below_alloc | apply pw_below_drewN | apply below_drew1) | exact HB.out)))); (case aL => have := LMc2.out; omega); intro v231 w3 ho hb hg hat; rw [← Ny230.out] at ho; have n0_ := Aside0.mk (hb); have n1_ := Aside0.mk (ho); clear HB; clear HO_1; have HB := n0_; have HO232 := n1_; clear n0_ n1_; clear ho hb hg hat))
     go_roundg k1
     case measure => have := HK1.out; omega
     case rel => exact ⟨(y230), (wrap64 (x2_1 + 1)), (by first | rfl | (simp; done) | (simp [*]; done)), H', ⟨by have := HK1.out; omega⟩, ⟨by (with_reducible repeat (first | apply Kd.S_alloc | apply Kd.S_drewN | apply Kd.S_drew)); exact HO232.out⟩, ⟨by repeat (first | (with_reducible first | exact HB.out | apply below_alloc | apply pw_below_drewN | apply below_drew1) | exact HB.out)⟩⟩
    ·
     rw [if_neg c2] at H
     exact absurd H (by simp)
   ·
    rw [if_neg c1] at H
    have c1b0 : decide (x2_1 ≤ 6) = false := decide_eq_false c1
    clear c1
    obtain rfl := Option.some.inj H
    go_wp2
    go_ret
    exact ⟨_, by first | rfl | (simp [errW_none, errW_some] <;> rfl) | (simp [*, errW_none, errW_some] <;> rfl), by (with_reducible repeat (first | apply Kd.S_alloc | apply Kd.S_drewN | apply Kd.S_drew)); exact HO_1.out, by repeat (first | (with_reducible first | exact HB.out | apply below_alloc | apply pw_below_drewN | apply below_drew1) | exact HB.out)⟩
mutual
def tables_Level.j0 : Nat → List (S40) → Int → Option (Int)
 | 0, _, _ => none
 | k + 1, x0, x1 => tables_Level.l0 k x0 x1 0
def tables_Level.l0 : Nat → List (S40) → Int → Int → Option (Int)
 | 0, _, _, _ => none
 | k + 1, x0, x1, x5 => if 0 ≤ x1 then (if x1 < (x0.length : Int) then (if ((rd_T40 x0 x1).f0) = 9 then (if ((rd_T40 x0 x1).f5) = 0 then (some x5) else (tables_Level.l0 k x0 ((rd_T40 x0 x1).f5) (wrap64 (x5 + 1)))) else (some x5)) else (none)) else (none)
end
def tables_Level.f (k : Nat) (l0 : List (S40)) (a1 : Int) : Option (Int) := if 0 ≤ a1 then (if a1 < (l0.length : Int) then (if ((rd_T40 l0 a1).f0) = 10 then (tables_Level.j0 k l0 ((rd_T40 l0 a1).f4)) else (tables_Level.j0 k l0 a1)) else (none)) else (none)
theorem tables_Level.mono_l : ∀ k, (∀ y0 y1, LeO (tables_Level.j0 k y0 y1) (tables_Level.j0 (k + 1) y0 y1)) ∧ (∀ y0 y1 y2, LeO (tables_Level.l0 k y0 y1 y2) (tables_Level.l0 (k + 1) y0 y1 y2))
 | 0 => ⟨fun _ _ r h => by simp [tables_Level.j0] at h, fun _ _ _ r h => by simp [tables_Level.l0] at h⟩
 | k + 1 => by
  obtain ⟨ih0, ih1⟩ := tables_Level.mono_l k
  refine ⟨?_, ?_⟩
  ·
   intro y0 y1
   unfold tables_Level.j0
   repeat' first
   | (with_reducible exact ih0 _ _)
   | (with_reducible exact ih1 _ _ _)
   | (with_reducible exact LeO.refl _)
   | (with_reducible exact LeO.none _)
   | (with_reducible refine LeO.ite ?_ ?_)
   | (with_reducible refine LeO.bind ?_ (fun _ => ?_))
   | exact ih0 _ _
   | exact ih1 _ _ _
   | exact LeO.none _
   | refine LeO.ite ?_ ?_
   | refine LeO.bind ?_ (fun _ => ?_)
  ·
   intro y0 y1 y2
   unfold tables_Level.l0
   repeat' first
   | (with_reducible exact ih0 _ _)
   | (with_reducible exact ih1 _ _ _)
   | (with_reducible exact LeO.refl _)
   | (with_reducible exact LeO.none _)
   | (with_reducible refine LeO.ite ?_ ?_)
   | (with_reducible refine LeO.bind ?_ (fun _ => ?_))
   | exact ih0 _ _
   | exact ih1 _ _ _
   | exact LeO.none _
   | refine LeO.ite ?_ ?_
   | refine LeO.bind ?_ (fun _ => ?_)
theorem tables_Level.mono : ∀ a0 a1 k, LeO (tables_Level.f k a0 a1) (tables_Level.f (k + 1) a0 a1) := by
 intro a0 a1 k
 obtain ⟨ih0, ih1⟩ := tables_Level.mono_l k
 unfold tables_Level.f
 repeat' first
  | (with_reducible exact ih0 _ _)
  | (with_reducible exact ih1 _ _ _)
  | (with_reducible exact LeO.refl _)
  | (with_reducible exact LeO.none _)
  | (with_reducible refine LeO.ite ?_ ?_)
  | (with_reducible refine LeO.bind ?_ (fun _ => ?_))
  | exact ih0 _ _
  | exact ih1 _ _ _
  | exact LeO.none _
  | refine LeO.ite ?_ ?_
  | refine LeO.bind ?_ (fun _ => ?_)
set_option maxHeartbeats 8000000 in
set_option maxRecDepth 100000 in
theorem tables_Level.calls (k : Nat) (A0 : Option Addr) (c0 : Nat) (l0 : List (S40)) (a1 : Int) (r : Int) (w : World) (hr0 : Kd.C k40 w A0 l0.length l0) (hc0 : l0.length ≤ c0) (h : tables_Level.f k l0 a1 = some r) :
 Calls Try.prog 50 #[.slice A0 l0.length c0, .int .i64 a1] w fun e w' => e = .returned (.int .i64 r) ∧ Drawn0 w w' := by
 have HR0 := Aside0.mk hr0
 have HC0 := Aside0.mk hc0
 clear hr0 hc0
 have H : (if 0 ≤ a1 then (if a1 < (l0.length : Int) then (if ((rd_T40 l0 a1).f0) = 10 then (tables_Level.j0 k l0 ((rd_T40 l0 a1).f4)) else (tables_Level.j0 k l0 a1)) else (none)) else (none)) = some r := h
 clear h
 by_cases c3 : 0 ≤ a1
 ·
  rw [if_pos c3] at H
  have c3b0 : decide (0 ≤ a1) = true := decide_eq_true c3
  clear c3
  by_cases c4 : a1 < (l0.length : Int)
  ·
   rw [if_pos c4] at H
   have c4b0 : decide (a1 < (l0.length : Int)) = true := decide_eq_true c4
   clear c4
   have HC5 := Aside0.mk H
   clear H
   have p250 : 0 ≤ (a1 : Int) := of_decide_eq_true (by first | (with_reducible assumption) | assumption)
   have q250 : a1 < (l0.length : Int) := of_decide_eq_true (by first | (with_reducible assumption) | assumption)
   obtain ⟨ad250, A250_6, c250_6, A250_7, c250_7, e250, hx250_0, hx250_1, hx250_2, hx250_3, hx250_4, hx250_5, hx250_6, hx250_7, hx250_8, hx250_9, hl250_6, hi250_6, hl250_7, hi250_7⟩ := at_T40 HR0.out a1 p250 q250
   cases e250
   have HR250_6 := Aside0.mk hi250_6
   have HC250_6 := Aside0.mk hl250_6
   clear hi250_6 hl250_6
   have HR250_7 := Aside0.mk hi250_7
   have HC250_7 := Aside0.mk hl250_7
   clear hi250_7 hl250_7
   replace p250 := eq_true p250
   replace q250 := eq_true q250
   go_enter Try.func50, Try.ntmps50
   go_upto_if 11 with (fail)
   go_cut [1] (fun v1 wc => ∃ (kq : Nat) (x1_4 : Int), v1 = .int .i64 x1_4 ∧ Aside0 (tables_Level.j0 kq l0 x1_4 = some r) ∧ Aside0 (kq ≤ k) ∧ Drawn0 w wc)
   case first =>
    have H := HC5.out
    clear HC5
    by_cases c6 : ((rd_T40 l0 a1).f0) = 10
    ·
     rw [if_pos c6] at H
     have c6b0 : (((rd_T40 l0 a1).f0) == 10) = true := beq_iff_eq.mpr c6
     have c6b1 : (((rd_T40 l0 a1).f0) != 10) = false := bne_eq_false_iff_eq.mpr c6
     clear c6
     (first | rw [c6b0] | (simp only [i64_w, i32_w]; rw [c6b0]) | skip)
     have H' := Aside0.mk H
     clear H
     have p251 : 0 ≤ (a1 : Int) := of_decide_eq_true (by first | (with_reducible assumption) | assumption)
     have q251 : a1 < (l0.length : Int) := of_decide_eq_true (by first | (with_reducible assumption) | assumption)
     obtain ⟨ad251, A251_6, c251_6, A251_7, c251_7, e251, hx251_0, hx251_1, hx251_2, hx251_3, hx251_4, hx251_5, hx251_6, hx251_7, hx251_8, hx251_9, hl251_6, hi251_6, hl251_7, hi251_7⟩ := at_T40 HR0.out a1 p251 q251
     obtain rfl : ad250 = ad251 := (by injection e251)
     have HR251_6 := Aside0.mk hi251_6
     have HC251_6 := Aside0.mk hl251_6
     clear hi251_6 hl251_6
     have HR251_7 := Aside0.mk hi251_7
     have HC251_7 := Aside0.mk hl251_7
     clear hi251_7 hl251_7
     replace p251 := eq_true p251
     replace q251 := eq_true q251
     go_wp2
     go_meet
     case rel => exact ⟨_, ((rd_T40 l0 a1).f4), (by first | rfl | (simp; done) | (simp [*]; done)), H', ⟨by first | omega | exact Nat.le_refl _⟩, by repeat (first | exact Drawn0.refl _ | apply Drawn0.step)⟩
    ·
     rw [if_neg c6] at H
     have c6b0 : (((rd_T40 l0 a1).f0) == 10) = false := beq_eq_false_iff_ne.mpr c6
     have c6b1 : (((rd_T40 l0 a1).f0) != 10) = true := bne_iff_ne.mpr c6
     (first | rw [c6b0] | (simp only [i64_w, i32_w]; rw [c6b0]) | skip)
     have H' := Aside0.mk H
     clear H
     go_wp2
     go_meet
     case rel => exact ⟨_, (a1), (by first | rfl | (simp; done) | (simp [*]; done)), H', ⟨by first | omega | exact Nat.le_refl _⟩, by repeat (first | exact Drawn0.refl _ | apply Drawn0.step)⟩
   case rest =>
    clear HC5
    try clear c2
    try clear p2
    try clear q2
    try clear hx2
    try clear c3
    try clear c3b0
    try clear c4
    try clear c4b0
    try clear c5
    try clear c6
    try clear c6b0
    try clear c6b1
    try clear hx250_0
    try clear hx250_1
    try clear hx250_2
    try clear hx250_3
    try clear hx250_4
    try clear hx250_5
    try clear hx250_6
    try clear hx250_7
    try clear hx250_8
    try clear hx250_9
    try clear hx251_0
    try clear hx251_1
    try clear hx251_2
    try clear hx251_3
    try clear hx251_4
    try clear hx251_5
    try clear hx251_6
    try clear hx251_7
    try clear hx251_8
    try clear hx251_9
    try clear p250
    try clear p251
    try clear q250
    try clear q251
    obtain ⟨kq, x1_4, rfl, HA, HJ4, ⟨mc4, rfl⟩⟩ := hcut
    cases kq with
    | zero => exact absurd HA.out (by simp [tables_Level.j0])
    | succ kj4 =>
     have H := HA.out
     clear HA
     simp only [tables_Level.j0] at H
     have H' := Aside0.mk H
     clear H
     go_wp2
     go_loopg [1, 5] kj4 (fun kq v1 v5 w' => ∃ (x1_2 : Int) (x5_2 : Int), v1 = .int .i64 x1_2 ∧ v5 = .int .i64 x5_2 ∧ Aside0 (tables_Level.l0 kq l0 x1_2 x5_2 = some r) ∧ Aside0 (kq ≤ kj4) ∧ Drawn0 w w')
     case atStart => exact ⟨(x1_4), (0), (by first | rfl | (simp; done) | (simp [*]; done)), (by first | rfl | (simp; done) | (simp [*]; done)), H', ⟨Nat.le_refl _⟩, by repeat (first | exact Drawn0.refl _ | apply Drawn0.step)⟩
     case round =>
      clear H'
      try clear c2
      try clear p2
      try clear q2
      try clear hx2
      try clear c3
      try clear c3b0
      try clear c4
      try clear c4b0
      try clear c5
      try clear c6
      try clear c6b0
      try clear c6b1
      try clear hx250_0
      try clear hx250_1
      try clear hx250_2
      try clear hx250_3
      try clear hx250_4
      try clear hx250_5
      try clear hx250_6
      try clear hx250_7
      try clear hx250_8
      try clear hx250_9
      try clear hx251_0
      try clear hx251_1
      try clear hx251_2
      try clear hx251_3
      try clear hx251_4
      try clear hx251_5
      try clear hx251_6
      try clear hx251_7
      try clear hx251_8
      try clear hx251_9
      try clear p2
      try clear p250
      try clear p251
      try clear q2
      try clear q250
      try clear q251
      obtain ⟨x1_2, x5_2, rfl, rfl, HA, HK2, ⟨m2, rfl⟩⟩ := hrel
      cases gk with
      | zero => exact absurd HA.out (by simp [tables_Level.l0])
      | succ k2 =>
       have H := HA.out
       clear HA
       simp only [tables_Level.l0] at H
       by_cases c7 : 0 ≤ x1_2
       ·
        rw [if_pos c7] at H
        have c7b0 : decide (0 ≤ x1_2) = true := decide_eq_true c7
        clear c7
        by_cases c8 : x1_2 < (l0.length : Int)
        ·
         rw [if_pos c8] at H
         have c8b0 : decide (x1_2 < (l0.length : Int)) = true := decide_eq_true c8
         clear c8
         by_cases c9 : ((rd_T40 l0 x1_2).f0) = 9
         ·
          rw [if_pos c9] at H
          have c9b0 : (((rd_T40 l0 x1_2).f0) == 9) = true := beq_iff_eq.mpr c9
          have c9b1 : (((rd_T40 l0 x1_2).f0) != 9) = false := bne_eq_false_iff_eq.mpr c9
          clear c9
          by_cases c10 : ((rd_T40 l0 x1_2).f5) = 0
          ·
           rw [if_pos c10] at H
           have c10b0 : (((rd_T40 l0 x1_2).f5) == 0) = true := beq_iff_eq.mpr c10
           have c10b1 : (((rd_T40 l0 x1_2).f5) != 0) = false := bne_eq_false_iff_eq.mpr c10
           clear c10
           obtain rfl := Option.some.inj H
           have p252 : 0 ≤ (x1_2 : Int) := of_decide_eq_true (by first | (with_reducible assumption) | assumption)
           have q252 : x1_2 < (l0.length : Int) := of_decide_eq_true (by first | (with_reducible assumption) | assumption)
           obtain ⟨ad252, A252_6, c252_6, A252_7, c252_7, e252, hx252_0, hx252_1, hx252_2, hx252_3, hx252_4, hx252_5, hx252_6, hx252_7, hx252_8, hx252_9, hl252_6, hi252_6, hl252_7, hi252_7⟩ := at_T40 HR0.out x1_2 p252 q252
           obtain rfl : ad250 = ad252 := (by injection e252)
           have HR252_6 := Aside0.mk hi252_6
           have HC252_6 := Aside0.mk hl252_6
           clear hi252_6 hl252_6
           have HR252_7 := Aside0.mk hi252_7
           have HC252_7 := Aside0.mk hl252_7
           clear hi252_7 hl252_7
           replace p252 := eq_true p252
           replace q252 := eq_true q252
           have p253 : 0 ≤ (x1_2 : Int) := of_decide_eq_true (by first | (with_reducible assumption) | assumption)
           have q253 : x1_2 < (l0.length : Int) := of_decide_eq_true (by first | (with_reducible assumption) | assumption)
           obtain ⟨ad253, A253_6, c253_6, A253_7, c253_7, e253, hx253_0, hx253_1, hx253_2, hx253_3, hx253_4, hx253_5, hx253_6, hx253_7, hx253_8, hx253_9, hl253_6, hi253_6, hl253_7, hi253_7⟩ := at_T40 HR0.out x1_2 p253 q253
           obtain rfl : ad250 = ad253 := (by injection e253)
           have HR253_6 := Aside0.mk hi253_6
           have HC253_6 := Aside0.mk hl253_6
           clear hi253_6 hl253_6
           have HR253_7 := Aside0.mk hi253_7
           have HC253_7 := Aside0.mk hl253_7
           clear hi253_7 hl253_7
           replace p253 := eq_true p253
           replace q253 := eq_true q253
           have ea_ := Option.some.inj (hx252_6.symm.trans hx253_6)
           injection ea_ with ea_ en_ ec_
           subst ea_
           subst ec_
           clear en_
           have ea_ := Option.some.inj (hx252_7.symm.trans hx253_7)
           injection ea_ with ea_ en_ ec_
           subst ea_
           subst ec_
           clear en_
           go_wp2
           go_ret
           exact ⟨by first | rfl | (simp; done) | (simp [*]; done), by repeat (first | exact Drawn0.refl _ | apply Drawn0.step)⟩
          ·
           rw [if_neg c10] at H
           have c10b0 : (((rd_T40 l0 x1_2).f5) == 0) = false := beq_eq_false_iff_ne.mpr c10
           have c10b1 : (((rd_T40 l0 x1_2).f5) != 0) = true := bne_iff_ne.mpr c10
           have H' := Aside0.mk H
           clear H
           have p252 : 0 ≤ (x1_2 : Int) := of_decide_eq_true (by first | (with_reducible assumption) | assumption)
           have q252 : x1_2 < (l0.length : Int) := of_decide_eq_true (by first | (with_reducible assumption) | assumption)
           obtain ⟨ad252, A252_6, c252_6, A252_7, c252_7, e252, hx252_0, hx252_1, hx252_2, hx252_3, hx252_4, hx252_5, hx252_6, hx252_7, hx252_8, hx252_9, hl252_6, hi252_6, hl252_7, hi252_7⟩ := at_T40 HR0.out x1_2 p252 q252
           obtain rfl : ad250 = ad252 := (by injection e252)
           have HR252_6 := Aside0.mk hi252_6
           have HC252_6 := Aside0.mk hl252_6
           clear hi252_6 hl252_6
           have HR252_7 := Aside0.mk hi252_7
           have HC252_7 := Aside0.mk hl252_7
           clear hi252_7 hl252_7
           replace p252 := eq_true p252
           replace q252 := eq_true q252
           have p253 : 0 ≤ (x1_2 : Int) := of_decide_eq_true (by first | (with_reducible assumption) | assumption)
           have q253 : x1_2 < (l0.length : Int) := of_decide_eq_true (by first | (with_reducible assumption) | assumption)
           obtain ⟨ad253, A253_6, c253_6, A253_7, c253_7, e253, hx253_0, hx253_1, hx253_2, hx253_3, hx253_4, hx253_5, hx253_6, hx253_7, hx253_8, hx253_9, hl253_6, hi253_6, hl253_7, hi253_7⟩ := at_T40 HR0.out x1_2 p253 q253
           obtain rfl : ad250 = ad253 := (by injection e253)
           have HR253_6 := Aside0.mk hi253_6
           have HC253_6 := Aside0.mk hl253_6
           clear hi253_6 hl253_6
           have HR253_7 := Aside0.mk hi253_7
           have HC253_7 := Aside0.mk hl253_7
           clear hi253_7 hl253_7
           replace p253 := eq_true p253
           replace q253 := eq_true q253
           have ea_ := Option.some.inj (hx252_6.symm.trans hx253_6)
           injection ea_ with ea_ en_ ec_
           subst ea_
           subst ec_
           clear en_
           have ea_ := Option.some.inj (hx252_7.symm.trans hx253_7)
           injection ea_ with ea_ en_ ec_
           subst ea_
           subst ec_
           clear en_
           have p254 : 0 ≤ (x1_2 : Int) := of_decide_eq_true (by first | (with_reducible assumption) | assumption)
           have q254 : x1_2 < (l0.length : Int) := of_decide_eq_true (by first | (with_reducible assumption) | assumption)
           obtain ⟨ad254, A254_6, c254_6, A254_7, c254_7, e254, hx254_0, hx254_1, hx254_2, hx254_3, hx254_4, hx254_5, hx254_6, hx254_7, hx254_8, hx254_9, hl254_6, hi254_6, hl254_7, hi254_7⟩ := at_T40 HR0.out x1_2 p254 q254
           obtain rfl : ad250 = ad254 := (by injection e254)
           have HR254_6 := Aside0.mk hi254_6
           have HC254_6 := Aside0.mk hl254_6
           clear hi254_6 hl254_6
           have HR254_7 := Aside0.mk hi254_7
           have HC254_7 := Aside0.mk hl254_7
           clear hi254_7 hl254_7
           replace p254 := eq_true p254
           replace q254 := eq_true q254
           have ea_ := Option.some.inj (hx252_6.symm.trans hx254_6)
           injection ea_ with ea_ en_ ec_
           subst ea_
           subst ec_
           clear en_
           have ea_ := Option.some.inj (hx252_7.symm.trans hx254_7)
           injection ea_ with ea_ en_ ec_
           subst ea_
           subst ec_
           clear en_
           go_wp2
           go_roundg k2
           case measure => have := HJ4.out; have := HK2.out; omega
           case rel => exact ⟨((rd_T40 l0 x1_2).f5), (wrap64 (x5_2 + 1)), (by first | rfl | (simp; done) | (simp [*]; done)), (by first | rfl | (simp; done) | (simp [*]; done)), H', ⟨by have := HJ4.out; have := HK2.out; omega⟩, by repeat (first | exact Drawn0.refl _ | apply Drawn0.step)⟩
         ·
          rw [if_neg c9] at H
          have c9b0 : (((rd_T40 l0 x1_2).f0) == 9) = false := beq_eq_false_iff_ne.mpr c9
          have c9b1 : (((rd_T40 l0 x1_2).f0) != 9) = true := bne_iff_ne.mpr c9
          obtain rfl := Option.some.inj H
          have p252 : 0 ≤ (x1_2 : Int) := of_decide_eq_true (by first | (with_reducible assumption) | assumption)
          have q252 : x1_2 < (l0.length : Int) := of_decide_eq_true (by first | (with_reducible assumption) | assumption)
          obtain ⟨ad252, A252_6, c252_6, A252_7, c252_7, e252, hx252_0, hx252_1, hx252_2, hx252_3, hx252_4, hx252_5, hx252_6, hx252_7, hx252_8, hx252_9, hl252_6, hi252_6, hl252_7, hi252_7⟩ := at_T40 HR0.out x1_2 p252 q252
          obtain rfl : ad250 = ad252 := (by injection e252)
          have HR252_6 := Aside0.mk hi252_6
          have HC252_6 := Aside0.mk hl252_6
          clear hi252_6 hl252_6
          have HR252_7 := Aside0.mk hi252_7
          have HC252_7 := Aside0.mk hl252_7
          clear hi252_7 hl252_7
          replace p252 := eq_true p252
          replace q252 := eq_true q252
          go_wp2
          go_ret
          exact ⟨by first | rfl | (simp; done) | (simp [*]; done), by repeat (first | exact Drawn0.refl _ | apply Drawn0.step)⟩
        ·
         rw [if_neg c8] at H
         exact absurd H (by simp)
       ·
        rw [if_neg c7] at H
        exact absurd H (by simp)
  ·
   rw [if_neg c4] at H
   exact absurd H (by simp)
 ·
  rw [if_neg c3] at H
  exact absurd H (by simp)
end Go.Proofs.Ytgnbemgeiloegaa.PTypesGoods
