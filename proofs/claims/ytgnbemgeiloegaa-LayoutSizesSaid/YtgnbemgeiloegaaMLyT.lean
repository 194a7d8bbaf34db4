import Derived.Test.YtgnbemgeiloegaaMTgM
import Derived.Test.YtgnbemgeiloegaaMEW
import Derived.Test.YtgnbemgeiloegaaMEPTypesGoodsx3
import Derived.Test.YtgnbemgeiloegaaMETgOpn
namespace Go.Proofs.Ytgnbemgeiloegaa.PTypesGoods
open Go.RowKit Go.Proofs.YtgnbemgeiloegaaW.PrintWords Go.Proofs.YtgnbemgeiloegaaW.PrintLast Go.Proofs.YtgnbemgeiloegaaW.PrintMore
attribute [local go_sem] max2_int min2_int max_two min_two max_three min_three max_four min_four
set_option linter.unusedVariables false
set_option linter.unusedSimpArgs false
def tables_up.f (a0 : Int) : Option (Int) := some (wrap64 (((wrap64 (a0 + 3)) / 4) * 4))
set_option maxHeartbeats 8000000 in
set_option maxRecDepth 100000 in
theorem tables_up.calls (a0 : Int) (r : Int) (w : World) (h : tables_up.f a0 = some r) :
 Calls Try.prog 53 #[.int .i64 a0] w fun e w' => e = .returned (.int .i64 r) ∧ Drawn0 w w' := by
 have H : (some (wrap64 (((wrap64 (a0 + 3)) / 4) * 4))) = some r := h
 clear h
 obtain rfl := Option.some.inj H
 go_enter Try.func53, Try.ntmps53
 go_wp2
 go_ret
 exact ⟨by first | rfl | (simp; done) | (simp [*]; done), by repeat (first | exact Drawn0.refl _ | apply Drawn0.step)⟩
def tables_cut.f (a0 : Int) : Option (Int) := some (mn a0 32769)
set_option maxHeartbeats 8000000 in
set_option maxRecDepth 100000 in
theorem tables_cut.calls (a0 : Int) (r : Int) (w : World) (h : tables_cut.f a0 = some r) :
 Calls Try.prog 54 #[.int .i64 a0] w fun e w' => e = .returned (.int .i64 r) ∧ Below w.heap.size w w' := by
 have HB := Aside0.mk (Below.refl w.heap.size w)
 have H : (some (mn a0 32769)) = some r := h
 clear h
 obtain ⟨ji2, hji2⟩ : ∃ j_ : Int, (mn a0 32769) = j_ := ⟨_, rfl⟩
 replace H : (some ji2) = some r := by first | (rw [hji2] at H; exact H) | (simp only [hji2] at H ⊢; exact H)
 (try (have hji2h : ji2 ≤ 32769 := by (rw [← hji2]; unfold mn; (repeat' split) <;> omega)))
 (try (have hji2g : ji2 ≤ 64 := by omega))
 have hji2_ : (if 32769 < a0 then 32769 else a0) = ji2 := hji2
 obtain rfl := Option.some.inj H
 go_enter Try.func54, Try.ntmps54
 go_wp2
 go_ret
 exact ⟨by first | rfl | (simp [errW_none, errW_some] <;> rfl) | (simp only [← hji2]; first | rfl | (simp [errW_none, errW_some] <;> rfl)) | (simp [*, errW_none, errW_some] <;> rfl), by repeat (first | (with_reducible first | exact HB.out | apply below_alloc | apply pw_below_drewN | apply below_drew1) | exact HB.out)⟩
def spinetkeep_Same.l0 : Nat → List Int → List Int → Int → Option (Bool)
 | 0, _, _, _ => none
 | k + 1, x0, x1, x5 => if x5 < (x0.length : Int) then (if 0 ≤ x5 then (if x5 < (x1.length : Int) then (if (rd x0 x5) = (rd x1 x5) then (spinetkeep_Same.l0 k x0 x1 (wrap64 (x5 + 1))) else (some false)) else (none)) else (none)) else (some true)
def spinetkeep_Same.f (k : Nat) (l0 : List Int) (l1 : List Int) : Option (Bool) := if (l0.length : Int) = (l1.length : Int) then (spinetkeep_Same.l0 k l0 l1 0) else (some false)
theorem spinetkeep_Same.mono_l : ∀ k, (∀ y0 y1 y2, LeO (spinetkeep_Same.l0 k y0 y1 y2) (spinetkeep_Same.l0 (k + 1) y0 y1 y2))
 | 0 => fun _ _ _ r h => by simp [spinetkeep_Same.l0] at h
 | k + 1 => by
  have ih0 := spinetkeep_Same.mono_l k
  ·
   intro y0 y1 y2
   unfold spinetkeep_Same.l0
   repeat' first
   | (with_reducible exact ih0 _ _ _)
   | (with_reducible exact LeO.refl _)
   | (with_reducible exact LeO.none _)
   | (with_reducible refine LeO.ite ?_ ?_)
   | (with_reducible refine LeO.bind ?_ (fun _ => ?_))
   | exact ih0 _ _ _
   | exact LeO.none _
   | refine LeO.ite ?_ ?_
   | refine LeO.bind ?_ (fun _ => ?_)
theorem spinetkeep_Same.mono : ∀ a0 a1 k, LeO (spinetkeep_Same.f k a0 a1) (spinetkeep_Same.f (k + 1) a0 a1) := by
 intro a0 a1 k
 have ih0 := spinetkeep_Same.mono_l k
 unfold spinetkeep_Same.f
 repeat' first
  | (with_reducible exact ih0 _ _ _)
  | (with_reducible exact LeO.refl _)
  | (with_reducible exact LeO.none _)
  | (with_reducible refine LeO.ite ?_ ?_)
  | (with_reducible refine LeO.bind ?_ (fun _ => ?_))
  | exact ih0 _ _ _
  | exact LeO.none _
  | refine LeO.ite ?_ ?_
  | refine LeO.bind ?_ (fun _ => ?_)
set_option maxHeartbeats 8000000 in
set_option maxRecDepth 100000 in
theorem spinetkeep_Same.calls (k : Nat) (A0 : Option Addr) (c0 : Nat) (l0 : List Int) (A1 : Option Addr) (c1 : Nat) (l1 : List Int) (r : Bool) (w : World) (hr0 : Kd.C (Kd.int .i64) w A0 l0.length l0) (hc0 : l0.length ≤ c0) (hr1 : Kd.C (Kd.int .i64) w A1 l1.length l1) (hc1 : l1.length ≤ c1) (h : spinetkeep_Same.f k l0 l1 = some r) :
 Calls Try.prog 22 #[.slice A0 l0.length c0, .slice A1 l1.length c1] w fun e w' => e = .returned (.bool r) ∧ Drawn0 w w' := by
 have HR0 := Aside0.mk hr0
 have HC0 := Aside0.mk hc0
 clear hr0 hc0
 have HR1 := Aside0.mk hr1
 have HC1 := Aside0.mk hc1
 clear hr1 hc1
 have H : (if (l0.length : Int) = (l1.length : Int) then (spinetkeep_Same.l0 k l0 l1 0) else (some false)) = some r := h
 clear h
 by_cases c3 : (l0.length : Int) = (l1.length : Int)
 ·
  rw [if_pos c3] at H
  have c3b0 : ((l0.length : Int) == (l1.length : Int)) = true := beq_iff_eq.mpr c3
  have c3b1 : ((l0.length : Int) != (l1.length : Int)) = false := bne_eq_false_iff_eq.mpr c3
  have c3b2 : (l0.length == l1.length) = true := by first | simpa using c3 | (simp at c3 ⊢; omega)
  clear c3
  have H' := Aside0.mk H
  clear H
  go_enter Try.func22, Try.ntmps22
  go_wp2
  repeat (go_quiet (fail); try go_wp2)
  go_loopg [5] k (fun kq v5 w' => ∃ (x5_1 : Int), v5 = .int .i64 x5_1 ∧ Aside0 (spinetkeep_Same.l0 kq l0 l1 x5_1 = some r) ∧ Aside0 (kq ≤ k) ∧ Drawn0 w w')
  case atStart => exact ⟨(0), (by first | rfl | (simp; done) | (simp [*]; done)), H', ⟨Nat.le_refl _⟩, by repeat (first | exact Drawn0.refl _ | apply Drawn0.step)⟩
  case round =>
   clear H'
   try clear c1
   try clear c2
   try clear p2
   try clear c3
   try clear c3b0
   try clear c3b1
   try clear c3b2
   obtain ⟨x5_1, rfl, HA, HK1, ⟨m1, rfl⟩⟩ := hrel
   cases gk with
   | zero => exact absurd HA.out (by simp [spinetkeep_Same.l0])
   | succ k1 =>
    have H := HA.out
    clear HA
    simp only [spinetkeep_Same.l0] at H
    by_cases c4 : x5_1 < (l0.length : Int)
    ·
     rw [if_pos c4] at H
     have c4b0 : decide (x5_1 < (l0.length : Int)) = true := decide_eq_true c4
     clear c4
     by_cases c5 : 0 ≤ x5_1
     ·
      rw [if_pos c5] at H
      have c5b0 : decide (0 ≤ x5_1) = true := decide_eq_true c5
      clear c5
      by_cases c6 : x5_1 < (l1.length : Int)
      ·
       rw [if_pos c6] at H
       have c6b0 : decide (x5_1 < (l1.length : Int)) = true := decide_eq_true c6
       clear c6
       by_cases c7 : (rd l0 x5_1) = (rd l1 x5_1)
       ·
        rw [if_pos c7] at H
        have c7b0 : ((rd l0 x5_1) == (rd l1 x5_1)) = true := beq_iff_eq.mpr c7
        have c7b1 : ((rd l0 x5_1) != (rd l1 x5_1)) = false := bne_eq_false_iff_eq.mpr c7
        clear c7
        have H' := Aside0.mk H
        clear H
        have p107 : 0 ≤ (x5_1 : Int) := of_decide_eq_true (by first | (with_reducible assumption) | assumption)
        have q107 : x5_1 < (l0.length : Int) := of_decide_eq_true (by first | (with_reducible assumption) | assumption)
        obtain ⟨ad107, e107, hx107_0⟩ := Kd.at_int HR0.out x5_1 p107 q107
        cases e107
        replace p107 := eq_true p107
        replace q107 := eq_true q107
        have p108 : 0 ≤ (x5_1 : Int) := of_decide_eq_true (by first | (with_reducible assumption) | assumption)
        have q108 : x5_1 < (l1.length : Int) := of_decide_eq_true (by first | (with_reducible assumption) | assumption)
        obtain ⟨ad108, e108, hx108_0⟩ := Kd.at_int HR1.out x5_1 p108 q108
        cases e108
        replace p108 := eq_true p108
        replace q108 := eq_true q108
        go_wp2
        repeat (go_quiet (fail); try go_wp2)
        go_roundg k1
        case measure => have := HK1.out; omega
        case rel => exact ⟨(wrap64 (x5_1 + 1)), (by first | rfl | (simp; done) | (simp [*]; done)), H', ⟨by have := HK1.out; omega⟩, by repeat (first | exact Drawn0.refl _ | apply Drawn0.step)⟩
       ·
        rw [if_neg c7] at H
        have c7b0 : ((rd l0 x5_1) == (rd l1 x5_1)) = false := beq_eq_false_iff_ne.mpr c7
        have c7b1 : ((rd l0 x5_1) != (rd l1 x5_1)) = true := bne_iff_ne.mpr c7
        obtain rfl := Option.some.inj H
        have p107 : 0 ≤ (x5_1 : Int) := of_decide_eq_true (by first | (with_reducible assumption) | assumption)
        have q107 : x5_1 < (l0.length : Int) := of_decide_eq_true (by first | (with_reducible assumption) | assumption)
        obtain ⟨ad107, e107, hx107_0⟩ := Kd.at_int HR0.out x5_1 p107 q107
        cases e107
        replace p107 := eq_true p107
        replace q107 := eq_true q107
        have p108 : 0 ≤ (x5_1 : Int) := of_decide_eq_true (by first | (with_reducible assumption) | assumption)
        have q108 : x5_1 < (l1.length : Int) := of_decide_eq_true (by first | (with_reducible assumption) | assumption)
        obtain ⟨ad108, e108, hx108_0⟩ := Kd.at_int HR1.out x5_1 p108 q108
        cases e108
        replace p108 := eq_true p108
        replace q108 := eq_true q108
        go_wp2
        repeat (go_quiet (fail); try go_wp2)
        go_ret
        exact ⟨by first | rfl | (simp; done) | (simp [*]; done), by repeat (first | exact Drawn0.refl _ | apply Drawn0.step)⟩
      ·
       rw [if_neg c6] at H
       exact absurd H (by simp)
     ·
      rw [if_neg c5] at H
      exact absurd H (by simp)
    ·
     rw [if_neg c4] at H
     have c4b0 : decide (x5_1 < (l0.length : Int)) = false := decide_eq_false c4
     clear c4
     obtain rfl := Option.some.inj H
     go_wp2
     repeat (go_quiet (fail); try go_wp2)
     go_ret
     exact ⟨by first | rfl | (simp; done) | (simp [*]; done), by repeat (first | exact Drawn0.refl _ | apply Drawn0.step)⟩
 ·
  rw [if_neg c3] at H
  have c3b0 : ((l0.length : Int) == (l1.length : Int)) = false := beq_eq_false_iff_ne.mpr c3
  have c3b1 : ((l0.length : Int) != (l1.length : Int)) = true := bne_iff_ne.mpr c3
  have c3b2 : (l0.length == l1.length) = false := by first | simpa using c3 | (simp at c3 ⊢; omega)
  obtain rfl := Option.some.inj H
  go_enter Try.func22, Try.ntmps22
  go_wp2
  repeat (go_quiet (fail); try go_wp2)
  go_ret
  exact ⟨by first | rfl | (simp; done) | (simp [*]; done), by repeat (first | exact Drawn0.refl _ | apply Drawn0.step)⟩
def spinetref14_up.f (a0 : Int) : Option (Int) := some (wrap64 ((wrap64 (Int.tdiv (wrap64 (a0 + 3)) 4)) * 4))
set_option maxHeartbeats 8000000 in
set_option maxRecDepth 100000 in
theorem spinetref14_up.calls (a0 : Int) (r : Int) (w : World) (h : spinetref14_up.f a0 = some r) :
 Calls Try.prog 42 #[.int .i64 a0] w fun e w' => e = .returned (.int .i64 r) ∧ Drawn0 w w' := by
 have H : (some (wrap64 ((wrap64 (Int.tdiv (wrap64 (a0 + 3)) 4)) * 4))) = some r := h
 clear h
 obtain rfl := Option.some.inj H
 go_enter Try.func42, Try.ntmps42
 go_wp2
 go_ret
 exact ⟨by first | rfl | (simp; done) | (simp [*]; done), by repeat (first | exact Drawn0.refl _ | apply Drawn0.step)⟩
def spinetref14_fields.l0 : Nat → List Int → Int → Int → ByteArray → ByteArray → Int → Int → Int → List (S42) → List (S47) → Int → Int → Option (List Int)
 | 0, _, _, _, _, _, _, _, _, _, _, _, _ => none
 | k + 1, x3, x4, x192000, x192001, x192002, x192003, x192004, x192005, x192006, x192007, x192008, x192009 => if x4 < (x192006.length : Int) then (if 0 ≤ x4 then (if x3.length < 17592186044416 then (spinetref14_fields.l0 k (x3 ++ [(rd_T42 x192006 x4).f2]) (wrap64 (x4 + 1)) x192000 x192001 x192002 x192003 x192004 x192005 x192006 x192007 x192008 x192009) else (none)) else (none)) else (some x3)
def spinetref14_fields.f (k : Nat) (a0_0 : Int) (a0_1 : ByteArray) (a0_2 : ByteArray) (a0_3 : Int) (a0_4 : Int) (a0_5 : Int) (l0_6 : List (S42)) (l0_7 : List (S47)) (a0_8 : Int) (a0_9 : Int) : Option (List Int) := spinetref14_fields.l0 k ([] : List Int) 0 a0_0 a0_1 a0_2 a0_3 a0_4 a0_5 l0_6 l0_7 a0_8 a0_9
set_option maxHeartbeats 8000000 in
set_option maxRecDepth 100000 in
theorem spinetref14_fields.calls (k : Nat) (a0_0 : Int) (a0_1 : ByteArray) (a0_2 : ByteArray) (a0_3 : Int) (a0_4 : Int) (a0_5 : Int) (A0_6 : Option Addr) (c0_6 : Nat) (l0_6 : List (S42)) (A0_7 : Option Addr) (c0_7 : Nat) (l0_7 : List (S47)) (a0_8 : Int) (a0_9 : Int) (r : List Int) (w : World) (hr0_6 : Kd.C k42 w A0_6 l0_6.length l0_6) (hc0_6 : l0_6.length ≤ c0_6) (hr0_7 : Kd.C k47 w A0_7 l0_7.length l0_7) (hc0_7 : l0_7.length ≤ c0_7) (h : spinetref14_fields.f k a0_0 a0_1 a0_2 a0_3 a0_4 a0_5 l0_6 l0_7 a0_8 a0_9 = some r) :
 Calls Try.prog 40 #[.agg #[.int .i64 a0_0, .string a0_1, .string a0_2, .int .i64 a0_3, .int .i64 a0_4, .int .i64 a0_5, .slice A0_6 l0_6.length c0_6, .slice A0_7 l0_7.length c0_7, .int .i64 a0_8, .int .i64 a0_9]] w fun e w' => ∃ v0_ : Value, e = .returned (v0_) ∧ Kd.R (Kd.int .i64) 3 w' w.heap.size (fun _ => True) v0_ r ∧ Below w.heap.size w w' := by
 have hu40 := Try.underlying40
 have HR0_6 := Aside0.mk hr0_6
 have HC0_6 := Aside0.mk hc0_6
 clear hr0_6 hc0_6
 have HR0_7 := Aside0.mk hr0_7
 have HC0_7 := Aside0.mk hc0_7
 clear hr0_7 hc0_7
 have HB := Aside0.mk (Below.refl w.heap.size w)
 have H : (spinetref14_fields.l0 k ([] : List Int) 0 a0_0 a0_1 a0_2 a0_3 a0_4 a0_5 l0_6 l0_7 a0_8 a0_9) = some r := h
 clear h
 have H' := Aside0.mk H
 clear H
 go_enter Try.func40, Try.ntmps40
 go_wp2_with (first | ((with_reducible refine gate_dst (N := 1) rfl ?_); refine box_event ?hg (N := 1) ?hd (cs := #[.int .i64 a0_0, .string a0_1, .string a0_2, .int .i64 a0_3, .int .i64 a0_4, .int .i64 a0_5, .slice A0_6 l0_6.length c0_6, .slice A0_7 l0_7.length c0_7, .int .i64 a0_8, .int .i64 a0_9]) (t := 40) ?hr ?_; (case hd => rfl); (case hg => rfl); (case hr => first | (go_simp; done) | (go_simp; rfl)); intro gb191 hg w2 hbox hb; have n0_ := Aside0.mk (below_step (by repeat (first | (with_reducible first | exact HB.out | apply below_alloc | apply pw_below_drewN | apply below_drew1) | exact HB.out)) hb); have n1_ := Aside0.mk (hbox); have n2_ := Aside0.mk ((by rw [hg]; exact (below_size (by repeat (first | (with_reducible first | exact HB.out | apply below_alloc | apply pw_below_drewN | apply below_drew1) | exact HB.out))) : w.heap.size ≤ gb191)); have n3_ := Aside0.mk ((by rw [hg]; exact (below_size (by repeat (first | (with_reducible first | exact HB.out | apply below_alloc | apply pw_below_drewN | apply below_drew1) | exact HB.out))) : w.heap.size ≤ gb191)); clear HB; have HB := n0_; have BK191 := n1_; have GW191 := n2_; have GE191 := n3_; clear n0_ n1_ n2_ n3_; clear hb hbox hg))
 go_loopg [3, 4] k (fun kq v3 v4 w' => ∃ (x3_1 : List Int) (x4_1 : Int), v4 = .int .i64 x4_1 ∧ Aside0 (spinetref14_fields.l0 kq x3_1 x4_1 a0_0 a0_1 a0_2 a0_3 a0_4 a0_5 l0_6 l0_7 a0_8 a0_9 = some r) ∧ Aside0 (kq ≤ k) ∧ Aside0 (Kd.R (Kd.int .i64) 3 w' w.heap.size (fun _ => True) v3 x3_1) ∧ Aside0 (w'.heap[gb191]? = some (.cells #[.int .i64 a0_0, .string a0_1, .string a0_2, .int .i64 a0_3, .int .i64 a0_4, .int .i64 a0_5, (.slice A0_6 l0_6.length c0_6), (.slice A0_7 l0_7.length c0_7), .int .i64 a0_8, .int .i64 a0_9] 40 (0, 0))) ∧ Aside0 (Below w.heap.size w w'))
 case atStart => exact ⟨(([] : List Int)), (0), (by first | rfl | (simp; done) | (simp [*]; done)), H', ⟨Nat.le_refl _⟩, ⟨by first | exact Kd.R_nil _ _ _ _ _ | exact Kd.N_nil _ _ _ _ _ | exact Kd.V_nil _ _ _ _ _ | exact Kd.Q_nil _ _ _ _ _ | exact Kd.S_nil _ _ _ _ _⟩, ⟨by (with_reducible repeat (first | refine blk_drewN ?_ _ | refine blk_drew ?_ | refine blk_alloc ?_ _)); exact BK191.out⟩, ⟨by repeat (first | (with_reducible first | exact HB.out | apply below_alloc | apply pw_below_drewN | apply below_drew1 | refine below_set ?_ GE191.out) | exact HB.out)⟩⟩
 case round =>
  clear H'
  try clear p2
  obtain ⟨x3_1, x4_1, rfl, HA, HK1, HO_3, BK191, HB⟩ := hrel
  cases gk with
  | zero => exact absurd HA.out (by simp [spinetref14_fields.l0])
  | succ k1 =>
   have H := HA.out
   clear HA
   simp only [spinetref14_fields.l0] at H
   by_cases c3 : x4_1 < (l0_6.length : Int)
   ·
    rw [if_pos c3] at H
    have c3b0 : decide (x4_1 < (l0_6.length : Int)) = true := decide_eq_true c3
    clear c3
    by_cases c4 : 0 ≤ x4_1
    ·
     rw [if_pos c4] at H
     have c4b0 : decide (0 ≤ x4_1) = true := decide_eq_true c4
     clear c4
     by_cases c5 : x3_1.length < 17592186044416
     ·
      rw [if_pos c5] at H
      have LMc5 := Aside0.mk c5
      clear c5
      obtain ⟨y193, hy193⟩ : ∃ y_ : List Int, y_ = (x3_1 ++ [(rd_T42 l0_6 x4_1).f2]) := ⟨_, rfl⟩
      replace H : (spinetref14_fields.l0 k1 y193 (wrap64 (x4_1 + 1)) a0_0 a0_1 a0_2 a0_3 a0_4 a0_5 l0_6 l0_7 a0_8 a0_9) = some r := by first | (rw [hy193]; with_reducible exact H) | (have H2_ := (Option.bind_some _ _).symm.trans H; rw [hy193]; with_reducible exact H2_) | (have H2_ := (Option.bind_some _ _).symm.trans H; with_reducible exact H2_) | with_reducible exact H | (rw [hy193]; exact H) | exact H
      have Ny193 := Aside0.mk hy193
      clear hy193
      have H' := Aside0.mk H
      clear H
      have hcz6_0 : wr.cell? ⟨gb191, 0, none⟩ = some (.int .i64 a0_0) := (blk_cell BK191.out 0).trans rfl
      have hcz6_1 : wr.cell? ⟨gb191, 1, none⟩ = some (.string a0_1) := (blk_cell BK191.out 1).trans rfl
      have hcz6_2 : wr.cell? ⟨gb191, 2, none⟩ = some (.string a0_2) := (blk_cell BK191.out 2).trans rfl
      have hcz6_3 : wr.cell? ⟨gb191, 3, none⟩ = some (.int .i64 a0_3) := (blk_cell BK191.out 3).trans rfl
      have hcz6_4 : wr.cell? ⟨gb191, 4, none⟩ = some (.int .i64 a0_4) := (blk_cell BK191.out 4).trans rfl
      have hcz6_5 : wr.cell? ⟨gb191, 5, none⟩ = some (.int .i64 a0_5) := (blk_cell BK191.out 5).trans rfl
      have hcz6_6 : wr.cell? ⟨gb191, 6, none⟩ = some (.slice A0_6 l0_6.length c0_6) := (blk_cell BK191.out 6).trans rfl
      have hcz6_7 : wr.cell? ⟨gb191, 7, none⟩ = some (.slice A0_7 l0_7.length c0_7) := (blk_cell BK191.out 7).trans rfl
      have hcz6_8 : wr.cell? ⟨gb191, 8, none⟩ = some (.int .i64 a0_8) := (blk_cell BK191.out 8).trans rfl
      have hcz6_9 : wr.cell? ⟨gb191, 9, none⟩ = some (.int .i64 a0_9) := (blk_cell BK191.out 9).trans rfl
      have hfz6_0 := blk_frozen BK191.out 0
      have hfz6_1 := blk_frozen BK191.out 1
      have hfz6_2 := blk_frozen BK191.out 2
      have hfz6_3 := blk_frozen BK191.out 3
      have hfz6_4 := blk_frozen BK191.out 4
      have hfz6_5 := blk_frozen BK191.out 5
      have hfz6_6 := blk_frozen BK191.out 6
      have hfz6_7 := blk_frozen BK191.out 7
      have hfz6_8 := blk_frozen BK191.out 8
      have hfz6_9 := blk_frozen BK191.out 9
      have p192 : 0 ≤ (x4_1 : Int) := of_decide_eq_true (by first | (with_reducible assumption) | assumption)
      have q192 : x4_1 < (l0_6.length : Int) := of_decide_eq_true (by first | (with_reducible assumption) | assumption)
      obtain ⟨ad192, e192, hx192_0, hx192_1, hx192_2⟩ := at_T42 HR0_6.out x4_1 p192 q192
      cases e192
      replace hx192_0 := (HB.out.cell (World.block_lt_of_cell? w _ hx192_0)).trans hx192_0
      replace hx192_1 := (HB.out.cell (World.block_lt_of_cell? w _ hx192_1)).trans hx192_1
      replace hx192_2 := (HB.out.cell (World.block_lt_of_cell? w _ hx192_2)).trans hx192_2
      replace p192 := eq_true p192
      replace q192 := eq_true q192
      go_wp2_with (first | ((with_reducible refine gate_builtin (b := .append) (xs := #[.tmp 12, .tmp 19]) rfl ?_); at_builtin; refine Kd.R_append (Kd.int .i64) (w0 := w) w.heap.size rfl (.tmp 12) (.tmp 19) 32 3 (.int .i64 0) 8 rfl Try.underlying32 info3 rfl (by decide) (by omega) u3 x3_1 ((rd_T42 l0_6 x4_1).f2) [.int .i64 ((rd_T42 l0_6 x4_1).f2)] (fun _ => True) (fun _ => False) rfl rfl ?aP (fun _ hk => hk.elim) ?aF ?aO ?aB ?aS ?aL ?_; (case aP => exact rfl); (case aB => exact (by repeat (first | (with_reducible first | exact HB.out | apply below_alloc | apply pw_below_drewN | apply below_drew1 | refine below_set ?_ GE191.out) | exact HB.out))); (case aF => exact (fun _ _ => trivial)); (case aO => exact (by (with_reducible repeat (first | apply Kd.R_alloc | apply Kd.R_drewN | apply Kd.R_drew)); exact HO_3.out)); (case aS => exact (below_size (by repeat (first | (with_reducible first | exact HB.out | apply below_alloc | apply pw_below_drewN | apply below_drew1 | refine below_set ?_ GE191.out) | exact HB.out)))); (case aL => have := LMc5.out; omega); intro v194 w7 ho hb hg hat; rw [← Ny193.out] at ho; have n0_ := Aside0.mk (blk_grown (g := gb191) (o := .cells #[.int .i64 a0_0, .string a0_1, .string a0_2, .int .i64 a0_3, .int .i64 a0_4, .int .i64 a0_5, .slice (some ad192) l0_6.length c0_6, .slice A0_7 l0_7.length c0_7, .int .i64 a0_8, .int .i64 a0_9] 40 (0, 0)) (by (with_reducible repeat (first | refine blk_drewN ?_ _ | refine blk_drew ?_ | refine blk_alloc ?_ _)); exact BK191.out) hg (Kd.R_ne HO_3.out BK191.out (by decide))); have n1_ := Aside0.mk (hb); have n2_ := Aside0.mk (ho); clear BK191; clear HB; clear HO_3; have BK191 := n0_; have HB := n1_; have HO195 := n2_; clear n0_ n1_ n2_; clear ho hb hg hat))
      go_roundg k1
      case measure => have := HK1.out; omega
      case rel => exact ⟨(y193), (wrap64 (x4_1 + 1)), (by first | rfl | (simp; done) | (simp [*]; done)), H', ⟨by have := HK1.out; omega⟩, ⟨by (with_reducible repeat (first | apply Kd.R_alloc | apply Kd.R_drewN | apply Kd.R_drew)); exact HO195.out⟩, ⟨by (with_reducible repeat (first | refine blk_drewN ?_ _ | refine blk_drew ?_ | refine blk_alloc ?_ _)); exact BK191.out⟩, ⟨by repeat (first | (with_reducible first | exact HB.out | apply below_alloc | apply pw_below_drewN | apply below_drew1 | refine below_set ?_ GE191.out) | exact HB.out)⟩⟩
     ·
      rw [if_neg c5] at H
      exact absurd H (by simp)
    ·
     rw [if_neg c4] at H
     exact absurd H (by simp)
   ·
    rw [if_neg c3] at H
    have c3b0 : decide (x4_1 < (l0_6.length : Int)) = false := decide_eq_false c3
    clear c3
    obtain rfl := Option.some.inj H
    have hcz8_0 : wr.cell? ⟨gb191, 0, none⟩ = some (.int .i64 a0_0) := (blk_cell BK191.out 0).trans rfl
    have hcz8_1 : wr.cell? ⟨gb191, 1, none⟩ = some (.string a0_1) := (blk_cell BK191.out 1).trans rfl
    have hcz8_2 : wr.cell? ⟨gb191, 2, none⟩ = some (.string a0_2) := (blk_cell BK191.out 2).trans rfl
    have hcz8_3 : wr.cell? ⟨gb191, 3, none⟩ = some (.int .i64 a0_3) := (blk_cell BK191.out 3).trans rfl
    have hcz8_4 : wr.cell? ⟨gb191, 4, none⟩ = some (.int .i64 a0_4) := (blk_cell BK191.out 4).trans rfl
    have hcz8_5 : wr.cell? ⟨gb191, 5, none⟩ = some (.int .i64 a0_5) := (blk_cell BK191.out 5).trans rfl
    have hcz8_6 : wr.cell? ⟨gb191, 6, none⟩ = some (.slice A0_6 l0_6.length c0_6) := (blk_cell BK191.out 6).trans rfl
    have hcz8_7 : wr.cell? ⟨gb191, 7, none⟩ = some (.slice A0_7 l0_7.length c0_7) := (blk_cell BK191.out 7).trans rfl
    have hcz8_8 : wr.cell? ⟨gb191, 8, none⟩ = some (.int .i64 a0_8) := (blk_cell BK191.out 8).trans rfl
    have hcz8_9 : wr.cell? ⟨gb191, 9, none⟩ = some (.int .i64 a0_9) := (blk_cell BK191.out 9).trans rfl
    have hfz8_0 := blk_frozen BK191.out 0
    have hfz8_1 := blk_frozen BK191.out 1
    have hfz8_2 := blk_frozen BK191.out 2
    have hfz8_3 := blk_frozen BK191.out 3
    have hfz8_4 := blk_frozen BK191.out 4
    have hfz8_5 := blk_frozen BK191.out 5
    have hfz8_6 := blk_frozen BK191.out 6
    have hfz8_7 := blk_frozen BK191.out 7
    have hfz8_8 := blk_frozen BK191.out 8
    have hfz8_9 := blk_frozen BK191.out 9
    go_wp2
    go_ret
    exact ⟨_, by first | rfl | (simp [errW_none, errW_some] <;> rfl) | (simp [*, errW_none, errW_some] <;> rfl), by (with_reducible repeat (first | apply Kd.R_alloc | apply Kd.R_drewN | apply Kd.R_drew)); exact HO_3.out, by repeat (first | (with_reducible first | exact HB.out | apply below_alloc | apply pw_below_drewN | apply below_drew1 | refine below_set ?_ GE191.out) | exact HB.out)⟩
end Go.Proofs.Ytgnbemgeiloegaa.PTypesGoods
