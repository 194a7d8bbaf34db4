import Derived.Test.YtgnbemgeiloegaaMTgM
namespace Go.Proofs.Ytgnbemgeiloegaa.TgEnds
open Go.Proofs.Ytgnbemgeiloegaa.PTypesGoods
open Go.RowKit Go.Proofs.YtgnbemgeiloegaaW.PrintWords Go.Proofs.YtgnbemgeiloegaaW.PrintLast Go.Proofs.YtgnbemgeiloegaaW.PrintMore
attribute [local go_sem] max2_int min2_int max_two min_two max_three min_three max_four min_four
set_option linter.unusedVariables false
set_option linter.unusedSimpArgs false
mutual
def tables_ends.j2 : Nat → List (S40) → Int → List Int → List Int → Option (Bool × List Int)
 | 0, _, _, _, _ => none
 | k + 1, x0, x1, x2, x7 => tables_ends.l1 k x0 x1 x2 x7 (x7.length : Int) 0
def tables_ends.l1 : Nat → List (S40) → Int → List Int → List Int → Int → Int → Option (Bool × List Int)
 | 0, _, _, _, _, _, _ => none
 | k + 1, x0, x1, x2, x68, x69, x70 => if x70 < x69 then (if 0 ≤ x70 then (if x70 < (x68.length : Int) then ((tables_ends.f k x0 (rd x68 x70) x2).bind fun bt227 => (if bt227.1 = true then (tables_ends.l1 k x0 x1 bt227.2 x68 x69 (wrap64 (x70 + 1))) else (some (false, bt227.2)))) else (none)) else (none)) else (if 0 ≤ x1 then (if x1 < (x2.length : Int) then (some (true, (x2.set (x1 : Int).toNat 2))) else (none)) else (none))
def tables_ends.j0 : Nat → List (S40) → Int → List Int → List Int → Int → Bool → Option (Bool × List Int)
 | 0, _, _, _, _, _, _ => none
 | k + 1, x0, x1, x2, x7, x30, x31 => if x31 = true then (if 0 ≤ x1 then (if x1 < (x0.length : Int) then (if x7.length < 17592186044416 then (tables_ends.j2 k x0 x1 x2 (x7 ++ [(rd_T40 x0 x1).f4])) else (none)) else (none)) else (none)) else (if x30 = 9 then (if 0 ≤ x1 then (if x1 < (x0.length : Int) then (if x7.length < 17592186044416 then (tables_ends.l0 k x0 x1 x2 (x7 ++ [(rd_T40 x0 x1).f5]) ((rd_T40 x0 x1).f6) (((rd_T40 x0 x1).f6).length : Int) 0) else (none)) else (none)) else (none)) else (tables_ends.j2 k x0 x1 x2 x7))
def tables_ends.l0 : Nat → List (S40) → Int → List Int → List Int → List (S42) → Int → Int → Option (Bool × List Int)
 | 0, _, _, _, _, _, _, _ => none
 | k + 1, x0, x1, x2, x7, x56, x57, x58 => if x58 < x57 then (if 0 ≤ x58 then (if x58 < (x56.length : Int) then (if x7.length < 17592186044416 then (tables_ends.l0 k x0 x1 x2 (x7 ++ [(rd_T42 x56 x58).f2]) x56 x57 (wrap64 (x58 + 1))) else (none)) else (none)) else (none)) else (tables_ends.j2 k x0 x1 x2 x7)
def tables_ends.f : Nat → List (S40) → Int → List Int → Option (Bool × List Int)
 | 0, _, _, _ => none
 | k + 1, l0, a1, l2 => if 0 ≤ a1 then (if a1 < (l2.length : Int) then (if (rd l2 a1) > 0 then (some (((rd l2 a1) == 2), l2)) else ((some (l2.set (a1 : Int).toNat 1 : List Int)).bind fun y207 => ((some (([] : List Int) : List Int)).bind fun y208 => (if a1 < (l0.length : Int) then (if ((rd_T40 l0 a1).f0) = 7 then (tables_ends.j0 k l0 a1 y207 y208 ((rd_T40 l0 a1).f0) (((rd_T40 l0 a1).f0) == 7)) else (tables_ends.j0 k l0 a1 y207 y208 ((rd_T40 l0 a1).f0) (((rd_T40 l0 a1).f0) == 8))) else (none))))) else (none)) else (none)
end
set_option maxHeartbeats 8000000 in
set_option maxRecDepth 100000 in
theorem tables_ends.calls (k : Nat) : ∀ (A0 : Option Addr) (c0 : Nat) (l0 : List (S40)) (a1 : Int) (P2_ : Nat → Prop) (u9000_ : Value) (l2 : List Int) (r1 : Bool) (r2 : List Int) (w0 w : World) (hB : Below w0.heap.size w0 w) (hr0 : ∀ W_, Kept w W_ (fun k_ => P2_ k_) → Kd.C k40 W_ A0 l0.length l0) (hc0 : l0.length ≤ c0) (hC0 : Kd.C k40 w0 A0 l0.length l0) (ho2 : Kd.R (Kd.int .i64) 3 w w0.heap.size P2_ u9000_ l2) (h : tables_ends.f k l0 a1 l2 = some (r1, r2)),
 Calls Try.prog 61 #[.slice A0 l0.length c0, .int .i64 a1, u9000_] w fun e w' => e = .returned (.bool r1) ∧ Kd.R (Kd.int .i64) 3 w' w0.heap.size (fun k_ => (P2_ k_ ∨ w.heap.size ≤ k_)) u9000_ r2 ∧ Below w0.heap.size w0 w' ∧ Kept w w' (fun k_ => P2_ k_) := by
 induction k using Nat.strongRecOn with
 | _ k ih =>
 intro A0 c0 l0 a1 P2_ u9000_ l2 r1 r2 w0 w hB hr0 hc0 hC0 ho2 h
 cases k with
 | zero => exact absurd h (by simp [tables_ends.f])
 | succ k =>
 simp only [tables_ends.f] at h
 have hu42 := Try.underlying42
 have HR0 := Aside0.mk hr0
 have HC0 := Aside0.mk hc0
 have HQ0 := Aside0.mk hC0
 clear hC0
 clear hr0 hc0
 have HO2 := Aside0.mk (show Kd.R (Kd.int .i64) 3 w w0.heap.size (fun k_ => (P2_ k_ ∨ w.heap.size ≤ k_)) u9000_ l2 from Kd.R_mono ho2 (fun k_ hk => (.inl hk)))
 have HK := Aside0.mk (Kept.refl w (fun k_ => P2_ k_))
 have HW0 := Aside0.mk hB.size
 have HB := Aside0.mk hB
 clear hB
 have H : (if 0 ≤ a1 then (if a1 < (l2.length : Int) then (if (rd l2 a1) > 0 then (some (((rd l2 a1) == 2), l2)) else ((some (l2.set (a1 : Int).toNat 1 : List Int)).bind fun y207 => ((some (([] : List Int) : List Int)).bind fun y208 => (if a1 < (l0.length : Int) then (if ((rd_T40 l0 a1).f0) = 7 then (tables_ends.j0 k l0 a1 y207 y208 ((rd_T40 l0 a1).f0) (((rd_T40 l0 a1).f0) == 7)) else (tables_ends.j0 k l0 a1 y207 y208 ((rd_T40 l0 a1).f0) (((rd_T40 l0 a1).f0) == 8))) else (none))))) else (none)) else (none)) = some (r1, r2) := h
 clear h
 by_cases c4 : 0 ≤ a1
 ·
  rw [if_pos c4] at H
  have c4b0 : decide (0 ≤ a1) = true := decide_eq_true c4
  clear c4
  by_cases c5 : a1 < (l2.length : Int)
  ·
   rw [if_pos c5] at H
   have c5b0 : decide (a1 < (l2.length : Int)) = true := decide_eq_true c5
   clear c5
   by_cases c6 : (rd l2 a1) > 0
   ·
    rw [if_pos c6] at H
    have c6b0 : decide (0 < (rd l2 a1)) = true := decide_eq_true c6
    clear c6
    simp only [Option.some.injEq, Prod.mk.injEq] at H
    obtain ⟨rfl, rfl⟩ := H
    obtain ⟨Ao7, co7, eo7⟩ := Kd.R_slice HO2.out
    subst eo7
    have p205 : 0 ≤ (a1 : Int) := of_decide_eq_true (by first | (with_reducible assumption) | assumption)
    have q205 : a1 < (l2.length : Int) := of_decide_eq_true (by first | (with_reducible assumption) | assumption)
    obtain ⟨ad205, e205, hx205_0⟩ := Kd.at_int (Kd.R_reads' HO2.out).2.2 a1 p205 q205
    cases e205
    replace p205 := eq_true p205
    replace q205 := eq_true q205
    have p206 : 0 ≤ (a1 : Int) := of_decide_eq_true (by first | (with_reducible assumption) | assumption)
    have q206 : a1 < (l2.length : Int) := of_decide_eq_true (by first | (with_reducible assumption) | assumption)
    obtain ⟨ad206, e206, hx206_0⟩ := Kd.at_int (Kd.R_reads' HO2.out).2.2 a1 p206 q206
    obtain rfl : ad205 = ad206 := (by injection e206)
    replace p206 := eq_true p206
    replace q206 := eq_true q206
    go_enter Try.func61, Try.ntmps61
    go_wp2
    go_ret
    exact ⟨by first | rfl | (simp [errW_none, errW_some] <;> rfl) | (simp [*, errW_none, errW_some] <;> rfl), by (with_reducible repeat (first | apply Kd.R_alloc | apply Kd.R_drewN | apply Kd.R_drew)); exact HO2.out, by repeat (first | (with_reducible first | exact HB.out | apply below_alloc | apply pw_below_drewN | apply below_drew1) | exact HB.out), by repeat (first | (with_reducible first | exact HK.out | apply Kept.alloc | apply Kept.drewN | apply Kept.drew) | exact HK.out)⟩
   ·
    rw [if_neg c6] at H
    have c6b0 : decide (0 < (rd l2 a1)) = false := decide_eq_false c6
    clear c6
    obtain ⟨y207, hy207⟩ : ∃ y_ : List Int, y_ = (l2.set (a1 : Int).toNat 1) := ⟨_, rfl⟩
    replace H : ((some (([] : List Int) : List Int)).bind fun y208 => (if a1 < (l0.length : Int) then (if ((rd_T40 l0 a1).f0) = 7 then (tables_ends.j0 k l0 a1 y207 y208 ((rd_T40 l0 a1).f0) (((rd_T40 l0 a1).f0) == 7)) else (tables_ends.j0 k l0 a1 y207 y208 ((rd_T40 l0 a1).f0) (((rd_T40 l0 a1).f0) == 8))) else (none))) = some (r1, r2) := by first | (rw [hy207]; with_reducible exact H) | (have H2_ := (Option.bind_some _ _).symm.trans H; rw [hy207]; with_reducible exact H2_) | (have H2_ := (Option.bind_some _ _).symm.trans H; with_reducible exact H2_) | with_reducible exact H | (rw [hy207]; exact H) | exact H
    have Ny207 := Aside0.mk hy207
    clear hy207
    obtain ⟨y208, hy208⟩ : ∃ y_ : List Int, y_ = (([] : List Int)) := ⟨_, rfl⟩
    replace H : (if a1 < (l0.length : Int) then (if ((rd_T40 l0 a1).f0) = 7 then (tables_ends.j0 k l0 a1 y207 y208 ((rd_T40 l0 a1).f0) (((rd_T40 l0 a1).f0) == 7)) else (tables_ends.j0 k l0 a1 y207 y208 ((rd_T40 l0 a1).f0) (((rd_T40 l0 a1).f0) == 8))) else (none)) = some (r1, r2) := by first | (rw [hy208]; with_reducible exact H) | (have H2_ := (Option.bind_some _ _).symm.trans H; rw [hy208]; with_reducible exact H2_) | (have H2_ := (Option.bind_some _ _).symm.trans H; with_reducible exact H2_) | with_reducible exact H | (rw [hy208]; exact H) | exact H
    have Ny208 := Aside0.mk hy208
    clear hy208
    by_cases c9 : a1 < (l0.length : Int)
    ·
     rw [if_pos c9] at H
     have c9b0 : decide (a1 < (l0.length : Int)) = true := decide_eq_true c9
     clear c9
     have HC10 := Aside0.mk H
     clear H
     obtain ⟨Ao11, co11, eo11⟩ := Kd.R_slice HO2.out
     subst eo11
     have p205 : 0 ≤ (a1 : Int) := of_decide_eq_true (by first | (with_reducible assumption) | assumption)
     have q205 : a1 < (l2.length : Int) := of_decide_eq_true (by first | (with_reducible assumption) | assumption)
     obtain ⟨ad205, e205, hx205_0⟩ := Kd.at_int (Kd.R_reads' HO2.out).2.2 a1 p205 q205
     cases e205
     replace p205 := eq_true p205
     replace q205 := eq_true q205
     have p8 : 0 ≤ (a1 : Int) := of_decide_eq_true (by first | (with_reducible assumption) | assumption)
     have q8 : (a1 : Int) < ((l2.length : Int) : Int) := of_decide_eq_true (by first | (with_reducible assumption) | assumption)
     obtain ⟨go8, co8, eo8, gb8, gl8, cl8, HG8⟩ := Kd.R_form HO2.out (by omega)
     (first | cases eo8 | (injection eo8 with ea_ en_ ec_; (first | subst ea_ | (injection ea_ with ea_; subst ea_)); subst ec_; clear en_))
     have GB8 := Aside0.mk gb8
     have GG8 := Aside0.mk HG8
     clear gb8 gl8 HG8
     have HMgo8 := Aside0.mk (show (P2_ go8 ∨ w.heap.size ≤ go8) from (HO2.out.1 _ rfl))
     (first | simp only [add_plain] at hx205_0 | skip)
     (first | simp only [add_plain] at hx206_0 | skip)
     obtain ⟨hx8_0, hf8_0⟩ := Kd.R_celln 0 HO2.out (a1 : Int) p8 q8
     replace p8 := eq_true p8
     replace q8 := eq_true q8
     have HP12 := Kd.R_putg HO2.out (a1 : Int) 1
     go_enter Try.func61, Try.ntmps61
     go_upto_block 0 with (first | ((with_reducible refine gate_store (t := 3) (p := 24) rfl ?_); refine store_event (t := 3) (p := 24) (v := ?vo_w13) (w1 := (w.setCell ⟨go8, (a1 : Int).toNat, none⟩ (.int .i64 1))) ?hg ?ho ?hn ?hr ?_; (case ho => rfl); (case hg => rfl); (case hn => rfl); (case hr => first | (go_simp; done) | (go_simp; rfl)); intro w13 hw; have hg : w.grownBy w13 (some go8) := (by rw [hw]; exact HP12.2); have hp_ : Kd.R (Kd.int .i64) 3 w13 w0.heap.size (fun k_ => (P2_ k_ ∨ w.heap.size ≤ k_)) (.slice (some ⟨go8, 0, none⟩) l2.length co11) y207 := (by rw [hw, Ny207.out]; exact HP12.1); clear HP12; have n0_ := Aside0.mk (hp_); have n1_ := Aside0.mk ((by rw [hw]; exact below_set (HB.out) GB8.out : Below w0.heap.size w0 w13)); have n2_ := Aside0.mk (Kept.of_grown (S := (fun k_ => P2_ k_)) hg (by repeat (first | (with_reducible first | exact HK.out | apply Kept.alloc | apply Kept.drewN | apply Kept.drew) | exact HK.out)) (fun k_ e_ => (HO2.out.1 k_ e_))); clear HO2; clear HB; clear HK; have HO2 := n0_; have HB := n1_; have HK := n2_; clear n0_ n1_ n2_; clear hg hw hp_) | ((with_reducible refine gate_dst (N := 25) rfl ?_); refine Kd.R_lit (Kd.int .i64) _ 3 ?hg (N := 25) ?hd (xs := ([] : List Int)) (inner := []) (ok := fun _ => True) (okp := fun _ => True) ?hr ?hp (fun _ hk => hk) trivial (Below.refl _ _) (Nat.le_refl _) (by simp) ?_; (case hd => rfl); (case hg => rfl); (case hr => first | (go_simp; done) | (go_simp; rfl)); (case hp => exact (Reps.none _ _)); intro v209 w14 ho15 hb hg_ hnew_; clear hg_ hnew_; (first | rw [← Ny208.out] at ho15 | (simp only [Int.reduceToNat] at ho15; rw [← Ny208.out] at ho15)); have n0_ := Aside0.mk (Kd.R_elder' (by (with_reducible repeat (first | apply Kd.R_alloc | apply Kd.R_drewN | apply Kd.R_drew)); exact HO2.out) (Kd.R_base ho15) hb); have n1_ := Aside0.mk (Kd.R_lower (Kd.R_new' (Kd.R_newM (M := fun k_ => (P2_ k_ ∨ w.heap.size ≤ k_)) ho15 (by first | exact HK.out.1 | exact (show Kept w _ (fun k_ => P2_ k_) from by repeat (first | (with_reducible first | exact HK.out | apply Kept.alloc | apply Kept.drewN | apply Kept.drew) | exact HK.out)).1) (fun k_ h_ => .inr h_)) (Kd.R_lt (by (with_reducible repeat (first | apply Kd.R_alloc | apply Kd.R_drewN | apply Kd.R_drew)); exact HO2.out))) (below_size (by repeat (first | (with_reducible first | exact HB.out | apply below_alloc | apply pw_below_drewN | apply below_drew1) | exact HB.out)))); have n2_ := Aside0.mk (Kept.below (S := (fun k_ => P2_ k_)) (by repeat (first | (with_reducible first | exact HK.out | apply Kept.alloc | apply Kept.drewN | apply Kept.drew) | exact HK.out)) hb); have n3_ := Aside0.mk (below_step (by repeat (first | (with_reducible first | exact HB.out | apply below_alloc | apply pw_below_drewN | apply below_drew1) | exact HB.out)) hb); clear HO2; clear HK; clear HB; have HO2 := n0_; have HO210 := n1_; have HK := n2_; have HB := n3_; clear n0_ n1_ n2_ n3_; clear hb ho15; have p211 : 0 ≤ (a1 : Int) := of_decide_eq_true (by first | (with_reducible assumption) | assumption); have q211 : a1 < (l0.length : Int) := of_decide_eq_true (by first | (with_reducible assumption) | assumption); obtain ⟨ad211, A211_6, c211_6, A211_7, c211_7, e211, hx211_0, hx211_1, hx211_2, hx211_3, hx211_4, hx211_5, hx211_6, hx211_7, hx211_8, hx211_9, hl211_6, hi211_6, hl211_7, hi211_7⟩ := at_T40 (Kd.C_kept_now HR0.out HK.out) a1 p211 q211; cases e211; have HR211_6 := Aside0.mk hi211_6; have HC211_6 := Aside0.mk hl211_6; clear hi211_6 hl211_6; have HR211_7 := Aside0.mk hi211_7; have HC211_7 := Aside0.mk hl211_7; clear hi211_7 hl211_7; replace p211 := eq_true p211; replace q211 := eq_true q211))
     (try simp only [Act.put, List.setIfInBounds_toArray, List.set_cons_zero, List.set_cons_succ])
     go_cut [7] (fun v7 wc => ∃ (kq : Nat) (x7_9 : List Int), Aside0 (tables_ends.j2 kq l0 a1 y207 x7_9 = some (r1, r2)) ∧ Aside0 (kq ≤ k) ∧ Aside0 (Kd.R (Kd.int .i64) 3 wc w0.heap.size (fun k_ => (P2_ k_ ∨ w.heap.size ≤ k_) ∧ some k_ ≠ (v7 : Value).ownBlock) (.slice (some ⟨go8, 0, none⟩) l2.length co11) y207) ∧ Aside0 (Kd.R (Kd.int .i64) 3 wc w0.heap.size (fun k_ => (P2_ k_ ∨ w.heap.size ≤ k_) ∧ some k_ ≠ ((.slice (some ⟨go8, 0, none⟩) l2.length co11) : Value).ownBlock) v7 x7_9) ∧ Aside0 (Kept w wc (fun k_ => P2_ k_)) ∧ Aside0 (Below w0.heap.size w0 wc))
     case first =>
      have H := HC10.out
      clear HC10
      have HC16 := Aside0.mk H
      clear H
      go_upto_if 31 with (fail)
      go_cut [31] (fun v31 wc => ∃ (kq : Nat) (x31_15 : Bool), v31 = .bool x31_15 ∧ Aside0 (tables_ends.j0 kq l0 a1 y207 y208 ((rd_T40 l0 a1).f0) x31_15 = some (r1, r2)) ∧ Aside0 (kq ≤ k) ∧ Aside0 (Kd.R (Kd.int .i64) 3 wc w0.heap.size (fun k_ => (P2_ k_ ∨ w.heap.size ≤ k_) ∧ some k_ ≠ (v209 : Value).ownBlock) (.slice (some ⟨go8, 0, none⟩) l2.length co11) y207) ∧ Aside0 (Kd.R (Kd.int .i64) 3 wc w0.heap.size (fun k_ => (P2_ k_ ∨ w.heap.size ≤ k_) ∧ some k_ ≠ ((.slice (some ⟨go8, 0, none⟩) l2.length co11) : Value).ownBlock) v209 y208) ∧ Aside0 (Kd.C k42 wc A211_6 ((rd_T40 l0 a1).f6).length ((rd_T40 l0 a1).f6)) ∧ Aside0 (Kd.C k47 wc A211_7 ((rd_T40 l0 a1).f7).length ((rd_T40 l0 a1).f7)) ∧ Aside0 (Kept w wc (fun k_ => P2_ k_)) ∧ Aside0 (Below w0.heap.size w0 wc))
      case first =>
       have H := HC16.out
       clear HC16
       by_cases c17 : ((rd_T40 l0 a1).f0) = 7
       ·
        rw [if_pos c17] at H
        have c17b0 : (((rd_T40 l0 a1).f0) == 7) = true := beq_iff_eq.mpr c17
        have c17b1 : (((rd_T40 l0 a1).f0) != 7) = false := bne_eq_false_iff_eq.mpr c17
        clear c17
        (first | rw [c17b0] | (simp only [i64_w, i32_w]; rw [c17b0]) | skip)
        have H' := Aside0.mk H
        clear H
        go_wp2
        go_meet
        case rel => exact ⟨_, ((((rd_T40 l0 a1).f0) == 7)), (by first | rfl | (simp; done) | (simp [*]; done)), H', ⟨by first | omega | exact Nat.le_refl _⟩, ⟨by (with_reducible repeat (first | apply Kd.R_alloc | apply Kd.R_drewN | apply Kd.R_drew)); exact HO2.out⟩, ⟨by (with_reducible repeat (first | apply Kd.R_alloc | apply Kd.R_drewN | apply Kd.R_drew)); exact Kd.R_mono HO210.out (fun _ hk => ⟨hk.1.1, hk.2⟩)⟩, ⟨by repeat (first | (with_reducible exact HR211_6.out) | (with_reducible refine Kd.C_alloc ?_ _) | (with_reducible refine Kd.C_drewN ?_ _) | (with_reducible refine Kd.C_drew ?_) | exact HR211_6.out)⟩, ⟨by repeat (first | (with_reducible exact HR211_7.out) | (with_reducible refine Kd.C_alloc ?_ _) | (with_reducible refine Kd.C_drewN ?_ _) | (with_reducible refine Kd.C_drew ?_) | exact HR211_7.out)⟩, ⟨by repeat (first | (with_reducible first | exact HK.out | apply Kept.alloc | apply Kept.drewN | apply Kept.drew) | exact HK.out)⟩, ⟨by repeat (first | (with_reducible first | exact HB.out | apply below_alloc | apply pw_below_drewN | apply below_drew1) | exact HB.out)⟩⟩
       ·
        rw [if_neg c17] at H
        have c17b0 : (((rd_T40 l0 a1).f0) == 7) = false := beq_eq_false_iff_ne.mpr c17
        have c17b1 : (((rd_T40 l0 a1).f0) != 7) = true := bne_iff_ne.mpr c17
        (first | rw [c17b0] | (simp only [i64_w, i32_w]; rw [c17b0]) | skip)
        have H' := Aside0.mk H
        clear H
        go_wp2
        go_meet
        case rel => exact ⟨_, ((((rd_T40 l0 a1).f0) == 8)), (by first | rfl | (simp; done) | (simp [*]; done)), H', ⟨by first | omega | exact Nat.le_refl _⟩, ⟨by (with_reducible repeat (first | apply Kd.R_alloc | apply Kd.R_drewN | apply Kd.R_drew)); exact HO2.out⟩, ⟨by (with_reducible repeat (first | apply Kd.R_alloc | apply Kd.R_drewN | apply Kd.R_drew)); exact Kd.R_mono HO210.out (fun _ hk => ⟨hk.1.1, hk.2⟩)⟩, ⟨by repeat (first | (with_reducible exact HR211_6.out) | (with_reducible refine Kd.C_alloc ?_ _) | (with_reducible refine Kd.C_drewN ?_ _) | (with_reducible refine Kd.C_drew ?_) | exact HR211_6.out)⟩, ⟨by repeat (first | (with_reducible exact HR211_7.out) | (with_reducible refine Kd.C_alloc ?_ _) | (with_reducible refine Kd.C_drewN ?_ _) | (with_reducible refine Kd.C_drew ?_) | exact HR211_7.out)⟩, ⟨by repeat (first | (with_reducible first | exact HK.out | apply Kept.alloc | apply Kept.drewN | apply Kept.drew) | exact HK.out)⟩, ⟨by repeat (first | (with_reducible first | exact HB.out | apply below_alloc | apply pw_below_drewN | apply below_drew1) | exact HB.out)⟩⟩
      case rest =>
       clear HC16
       try clear c1
       try clear c2
       try clear p2
       try clear q2
       try clear hx2
       try clear c4
       try clear c4b0
       try clear c5
       try clear c5b0
       try clear c6
       try clear c6b0
       try clear p8
       try clear q8
       try clear hx8
       try clear hf8
       try clear c9
       try clear c9b0
       try clear c17
       try clear c17b0
       try clear c17b1
       try clear hx205_0
       try clear hx206_0
       try clear hx211_0
       try clear hx211_1
       try clear hx211_2
       try clear hx211_3
       try clear hx211_4
       try clear hx211_5
       try clear hx211_6
       try clear hx211_7
       try clear hx211_8
       try clear hx211_9
       try clear hx8_0
       try clear p205
       try clear p206
       try clear p211
       try clear p8
       try clear q205
       try clear q206
       try clear q211
       try clear q8
       obtain ⟨kq, x31_15, rfl, HA, HJ15, HO_2, HO_7, HR211_6, HR211_7, HK, HB⟩ := hcut
       have hl2_15 := (Kd.R_reads' HO_2.out).1
       rw [hl2_15] at HO_2
       (try simp only [hl2_15])
       (try simp only [hl2_15] at HO_7)
       cases kq with
       | zero => exact absurd HA.out (by simp [tables_ends.j0])
       | succ kj15 =>
        have H := HA.out
        clear HA
        simp only [tables_ends.j0] at H
        by_cases c18 : x31_15 = true
        ·
         subst c18
         have H1 : (if 0 ≤ a1 then (if a1 < (l0.length : Int) then (if y208.length < 17592186044416 then (tables_ends.j2 kj15 l0 a1 y207 (y208 ++ [(rd_T40 l0 a1).f4])) else (none)) else (none)) else (none)) = some (r1, r2) := by rw [if_pos rfl] at H; exact H
         clear H
         have H := H1
         clear H1
         by_cases c19 : 0 ≤ a1
         ·
          rw [if_pos c19] at H
          have c19b0 : decide (0 ≤ a1) = true := decide_eq_true c19
          clear c19
          by_cases c20 : a1 < (l0.length : Int)
          ·
           rw [if_pos c20] at H
           have c20b0 : decide (a1 < (l0.length : Int)) = true := decide_eq_true c20
           clear c20
           by_cases c21 : y208.length < 17592186044416
           ·
            rw [if_pos c21] at H
            have LMc21 := Aside0.mk c21
            clear c21
            obtain ⟨y213, hy213⟩ : ∃ y_ : List Int, y_ = (y208 ++ [(rd_T40 l0 a1).f4]) := ⟨_, rfl⟩
            replace H : (tables_ends.j2 kj15 l0 a1 y207 y213) = some (r1, r2) := by first | (rw [hy213]; with_reducible exact H) | (have H2_ := (Option.bind_some _ _).symm.trans H; rw [hy213]; with_reducible exact H2_) | (have H2_ := (Option.bind_some _ _).symm.trans H; with_reducible exact H2_) | with_reducible exact H | (rw [hy213]; exact H) | exact H
            have Ny213 := Aside0.mk hy213
            clear hy213
            have H' := Aside0.mk H
            clear H
            have p212 : 0 ≤ (a1 : Int) := of_decide_eq_true (by first | (with_reducible assumption) | assumption)
            have q212 : a1 < (l0.length : Int) := of_decide_eq_true (by first | (with_reducible assumption) | assumption)
            obtain ⟨ad212, A212_6, c212_6, A212_7, c212_7, e212, hx212_0, hx212_1, hx212_2, hx212_3, hx212_4, hx212_5, hx212_6, hx212_7, hx212_8, hx212_9, hl212_6, hi212_6, hl212_7, hi212_7⟩ := at_T40 (Kd.C_kept_now HR0.out HK.out) a1 p212 q212
            obtain rfl : ad211 = ad212 := (by injection e212)
            have HR212_6 := Aside0.mk hi212_6
            have HC212_6 := Aside0.mk hl212_6
            clear hi212_6 hl212_6
            have HR212_7 := Aside0.mk hi212_7
            have HC212_7 := Aside0.mk hl212_7
            clear hi212_7 hl212_7
            replace p212 := eq_true p212
            replace q212 := eq_true q212
            go_wp2_with (first | ((with_reducible refine gate_builtin (b := .append) (xs := #[.tmp 34, .tmp 40]) rfl ?_); at_builtin; refine Kd.R_append (Kd.int .i64) (w0 := w0) w0.heap.size rfl (.tmp 34) (.tmp 40) 32 3 (.int .i64 0) 8 rfl Try.underlying32 info3 rfl (by decide) (by omega) v209 y208 ((rd_T40 l0 a1).f4) [.int .i64 ((rd_T40 l0 a1).f4)] (fun k_ => (P2_ k_ ∨ w.heap.size ≤ k_) ∧ some k_ ≠ (.slice (some ⟨go8, 0, none⟩) y207.length co11 : Value).ownBlock) (fun _ => False) rfl rfl ?aP (fun _ hk => hk.elim) ?aF ?aO ?aB ?aS ?aL ?_; (case aP => exact rfl); (case aB => exact (by repeat (first | (with_reducible first | exact HB.out | apply below_alloc | apply pw_below_drewN | apply below_drew1) | exact HB.out))); (case aF => exact (fun k_ hk => ⟨(.inr (Nat.le_trans (by first | exact HK.out.1 | exact (show Kept w _ (fun k_ => P2_ k_) from by repeat (first | (with_reducible first | exact HK.out | apply Kept.alloc | apply Kept.drewN | apply Kept.drew) | exact HK.out)).1) hk)), Kd.fresh' (Kd.R_lt (by (with_reducible repeat (first | apply Kd.R_alloc | apply Kd.R_drewN | apply Kd.R_drew)); exact HO_2.out)) k_ hk⟩)); (case aO => exact (by (with_reducible repeat (first | apply Kd.R_alloc | apply Kd.R_drewN | apply Kd.R_drew)); exact HO_7.out)); (case aS => exact (below_size (by repeat (first | (with_reducible first | exact HB.out | apply below_alloc | apply pw_below_drewN | apply below_drew1) | exact HB.out)))); (case aL => have := LMc21.out; omega); intro v214 w22 ho hb hg hat; rw [← Ny213.out] at ho; have n0_ := Aside0.mk (Kd.R_after (ok := (fun k_ => (P2_ k_ ∨ w.heap.size ≤ k_))) (by (with_reducible repeat (first | apply Kd.R_alloc | apply Kd.R_drewN | apply Kd.R_drew)); exact HO_2.out) hg hat); have n1_ := Aside0.mk (hb); have n2_ := Aside0.mk (Kept.of_grown (S := (fun k_ => P2_ k_)) hg (by repeat (first | (with_reducible first | exact HK.out | apply Kept.alloc | apply Kept.drewN | apply Kept.drew) | exact HK.out)) (fun k_ e_ => (HO_7.out.1 k_ e_).1)); have n3_ := Aside0.mk (ho); clear HO_2; clear HB; clear HK; clear HO_7; have HO_2 := n0_; have HB := n1_; have HK := n2_; have HO215 := n3_; clear n0_ n1_ n2_ n3_; clear ho hb hg hat))
            (try simp only [← hl2_15])
            go_meet
            case rel => exact ⟨_, (y213), H', ⟨by have := HJ15.out; first | omega | exact Nat.le_refl _⟩, ⟨by (try simp only [hl2_15]); (with_reducible repeat (first | apply Kd.R_alloc | apply Kd.R_drewN | apply Kd.R_drew)); exact HO_2.out⟩, ⟨by (try simp only [hl2_15]); (with_reducible repeat (first | apply Kd.R_alloc | apply Kd.R_drewN | apply Kd.R_drew)); exact HO215.out⟩, ⟨by repeat (first | (with_reducible first | exact HK.out | apply Kept.alloc | apply Kept.drewN | apply Kept.drew) | exact HK.out)⟩, ⟨by repeat (first | (with_reducible first | exact HB.out | apply below_alloc | apply pw_below_drewN | apply below_drew1) | exact HB.out)⟩⟩
           ·
            rw [if_neg c21] at H
            exact absurd H (by simp)
          ·
           rw [if_neg c20] at H
           exact absurd H (by simp)
         ·
          rw [if_neg c19] at H
          exact absurd H (by simp)
        ·
         replace c18 := Bool.eq_false_iff.mpr c18
         subst c18
         have H1 : (if ((rd_T40 l0 a1).f0) = 9 then (if 0 ≤ a1 then (if a1 < (l0.length : Int) then (if y208.length < 17592186044416 then (tables_ends.l0 kj15 l0 a1 y207 (y208 ++ [(rd_T40 l0 a1).f5]) ((rd_T40 l0 a1).f6) (((rd_T40 l0 a1).f6).length : Int) 0) else (none)) else (none)) else (none)) else (tables_ends.j2 kj15 l0 a1 y207 y208)) = some (r1, r2) := by rw [if_neg (show ¬ (false = true) by decide)] at H; exact H
         clear H
         have H := H1
         clear H1
         by_cases c23 : ((rd_T40 l0 a1).f0) = 9
         ·
          rw [if_pos c23] at H
          have c23b0 : (((rd_T40 l0 a1).f0) == 9) = true := beq_iff_eq.mpr c23
          have c23b1 : (((rd_T40 l0 a1).f0) != 9) = false := bne_eq_false_iff_eq.mpr c23
          clear c23
          by_cases c24 : 0 ≤ a1
          ·
           rw [if_pos c24] at H
           have c24b0 : decide (0 ≤ a1) = true := decide_eq_true c24
           clear c24
           by_cases c25 : a1 < (l0.length : Int)
           ·
            rw [if_pos c25] at H
            have c25b0 : decide (a1 < (l0.length : Int)) = true := decide_eq_true c25
            clear c25
            by_cases c26 : y208.length < 17592186044416
            ·
             rw [if_pos c26] at H
             have LMc26 := Aside0.mk c26
             clear c26
             obtain ⟨y217, hy217⟩ : ∃ y_ : List Int, y_ = (y208 ++ [(rd_T40 l0 a1).f5]) := ⟨_, rfl⟩
             replace H : (tables_ends.l0 kj15 l0 a1 y207 y217 ((rd_T40 l0 a1).f6) (((rd_T40 l0 a1).f6).length : Int) 0) = some (r1, r2) := by first | (rw [hy217]; with_reducible exact H) | (have H2_ := (Option.bind_some _ _).symm.trans H; rw [hy217]; with_reducible exact H2_) | (have H2_ := (Option.bind_some _ _).symm.trans H; with_reducible exact H2_) | with_reducible exact H | (rw [hy217]; exact H) | exact H
             have Ny217 := Aside0.mk hy217
             clear hy217
             have H' := Aside0.mk H
             clear H
             have p216 : 0 ≤ (a1 : Int) := of_decide_eq_true (by first | (with_reducible assumption) | assumption)
             have q216 : a1 < (l0.length : Int) := of_decide_eq_true (by first | (with_reducible assumption) | assumption)
             obtain ⟨ad216, A216_6, c216_6, A216_7, c216_7, e216, hx216_0, hx216_1, hx216_2, hx216_3, hx216_4, hx216_5, hx216_6, hx216_7, hx216_8, hx216_9, hl216_6, hi216_6, hl216_7, hi216_7⟩ := at_T40 (Kd.C_kept_now HR0.out HK.out) a1 p216 q216
             obtain rfl : ad211 = ad216 := (by injection e216)
             have HR216_6 := Aside0.mk hi216_6
             have HC216_6 := Aside0.mk hl216_6
             clear hi216_6 hl216_6
             have HR216_7 := Aside0.mk hi216_7
             have HC216_7 := Aside0.mk hl216_7
             clear hi216_7 hl216_7
             replace p216 := eq_true p216
             replace q216 := eq_true q216
             go_wp2_with (first | ((with_reducible refine gate_builtin (b := .append) (xs := #[.tmp 44, .tmp 50]) rfl ?_); at_builtin; refine Kd.R_append (Kd.int .i64) (w0 := w0) w0.heap.size rfl (.tmp 44) (.tmp 50) 32 3 (.int .i64 0) 8 rfl Try.underlying32 info3 rfl (by decide) (by omega) v209 y208 ((rd_T40 l0 a1).f5) [.int .i64 ((rd_T40 l0 a1).f5)] (fun k_ => (P2_ k_ ∨ w.heap.size ≤ k_) ∧ some k_ ≠ (.slice (some ⟨go8, 0, none⟩) y207.length co11 : Value).ownBlock) (fun _ => False) rfl rfl ?aP (fun _ hk => hk.elim) ?aF ?aO ?aB ?aS ?aL ?_; (case aP => exact rfl); (case aB => exact (by repeat (first | (with_reducible first | exact HB.out | apply below_alloc | apply pw_below_drewN | apply below_drew1) | exact HB.out))); (case aF => exact (fun k_ hk => ⟨(.inr (Nat.le_trans (by first | exact HK.out.1 | exact (show Kept w _ (fun k_ => P2_ k_) from by repeat (first | (with_reducible first | exact HK.out | apply Kept.alloc | apply Kept.drewN | apply Kept.drew) | exact HK.out)).1) hk)), Kd.fresh' (Kd.R_lt (by (with_reducible repeat (first | apply Kd.R_alloc | apply Kd.R_drewN | apply Kd.R_drew)); exact HO_2.out)) k_ hk⟩)); (case aO => exact (by (with_reducible repeat (first | apply Kd.R_alloc | apply Kd.R_drewN | apply Kd.R_drew)); exact HO_7.out)); (case aS => exact (below_size (by repeat (first | (with_reducible first | exact HB.out | apply below_alloc | apply pw_below_drewN | apply below_drew1) | exact HB.out)))); (case aL => have := LMc26.out; omega); intro v218 w27 ho hb hg hat; rw [← Ny217.out] at ho; have n0_ := Aside0.mk (Kd.R_after (ok := (fun k_ => (P2_ k_ ∨ w.heap.size ≤ k_))) (by (with_reducible repeat (first | apply Kd.R_alloc | apply Kd.R_drewN | apply Kd.R_drew)); exact HO_2.out) hg hat); have n1_ := Aside0.mk (hb); have n2_ := Aside0.mk (Kept.of_grown (S := (fun k_ => P2_ k_)) hg (by repeat (first | (with_reducible first | exact HK.out | apply Kept.alloc | apply Kept.drewN | apply Kept.drew) | exact HK.out)) (fun k_ e_ => (HO_7.out.1 k_ e_).1)); have n3_ := Aside0.mk (ho); clear HO_2; clear HB; clear HK; clear HO_7; have HO_2 := n0_; have HB := n1_; have HK := n2_; have HO219 := n3_; clear n0_ n1_ n2_ n3_; clear ho hb hg hat; have p220 : 0 ≤ (a1 : Int) := of_decide_eq_true (by first | (with_reducible assumption) | assumption); have q220 : a1 < (l0.length : Int) := of_decide_eq_true (by first | (with_reducible assumption) | assumption); obtain ⟨ad220, A220_6, c220_6, A220_7, c220_7, e220, hx220_0, hx220_1, hx220_2, hx220_3, hx220_4, hx220_5, hx220_6, hx220_7, hx220_8, hx220_9, hl220_6, hi220_6, hl220_7, hi220_7⟩ := at_T40 HQ0.out a1 p220 q220; obtain rfl : ad211 = ad220 := (by injection e220); replace hx220_0 := (HB.out.cell (World.block_lt_of_cell? _ _ hx220_0)).trans hx220_0; replace hx220_1 := (HB.out.cell (World.block_lt_of_cell? _ _ hx220_1)).trans hx220_1; replace hx220_2 := (HB.out.cell (World.block_lt_of_cell? _ _ hx220_2)).trans hx220_2; replace hx220_3 := (HB.out.cell (World.block_lt_of_cell? _ _ hx220_3)).trans hx220_3; replace hx220_4 := (HB.out.cell (World.block_lt_of_cell? _ _ hx220_4)).trans hx220_4; replace hx220_5 := (HB.out.cell (World.block_lt_of_cell? _ _ hx220_5)).trans hx220_5; replace hx220_6 := (HB.out.cell (World.block_lt_of_cell? _ _ hx220_6)).trans hx220_6; replace hx220_7 := (HB.out.cell (World.block_lt_of_cell? _ _ hx220_7)).trans hx220_7; replace hx220_8 := (HB.out.cell (World.block_lt_of_cell? _ _ hx220_8)).trans hx220_8; replace hx220_9 := (HB.out.cell (World.block_lt_of_cell? _ _ hx220_9)).trans hx220_9; have HR220_6 := Aside0.mk hi220_6; have HC220_6 := Aside0.mk hl220_6; clear hi220_6 hl220_6; have HR220_7 := Aside0.mk hi220_7; have HC220_7 := Aside0.mk hl220_7; clear hi220_7 hl220_7; replace p220 := eq_true p220; replace q220 := eq_true q220))
             go_loopg [7, 58] kj15 (fun kq v7 v58 w' => ∃ (x7_2 : List Int) (x58_2 : Int), v58 = .int .i64 x58_2 ∧ Aside0 (tables_ends.l0 kq l0 a1 y207 x7_2 ((rd_T40 l0 a1).f6) (((rd_T40 l0 a1).f6).length : Int) x58_2 = some (r1, r2)) ∧ Aside0 (kq ≤ kj15) ∧ Aside0 (Kd.R (Kd.int .i64) 3 w' w0.heap.size (fun k_ => (P2_ k_ ∨ w.heap.size ≤ k_) ∧ some k_ ≠ (v7 : Value).ownBlock) (.slice (some ⟨go8, 0, none⟩) y207.length co11) y207) ∧ Aside0 (Kd.R (Kd.int .i64) 3 w' w0.heap.size (fun k_ => (P2_ k_ ∨ w.heap.size ≤ k_) ∧ some k_ ≠ ((.slice (some ⟨go8, 0, none⟩) y207.length co11) : Value).ownBlock) v7 x7_2) ∧ Aside0 (Kept w w' (fun k_ => P2_ k_)) ∧ Aside0 (Below w0.heap.size w0 w'))
             case atStart => exact ⟨(y217), (0), (by first | rfl | (simp; done) | (simp [*]; done)), H', ⟨Nat.le_refl _⟩, ⟨by (try simp only [hl2_15]); (with_reducible repeat (first | apply Kd.R_alloc | apply Kd.R_drewN | apply Kd.R_drew)); exact HO_2.out⟩, ⟨by (try simp only [hl2_15]); (with_reducible repeat (first | apply Kd.R_alloc | apply Kd.R_drewN | apply Kd.R_drew)); exact HO219.out⟩, ⟨by repeat (first | (with_reducible first | exact HK.out | apply Kept.alloc | apply Kept.drewN | apply Kept.drew) | exact HK.out)⟩, ⟨by repeat (first | (with_reducible first | exact HB.out | apply below_alloc | apply pw_below_drewN | apply below_drew1) | exact HB.out)⟩⟩
             case round =>
              clear H'
              try clear c1
              try clear c2
              try clear p2
              try clear q2
              try clear hx2
              try clear c4
              try clear c4b0
              try clear c5
              try clear c5b0
              try clear c6
              try clear c6b0
              try clear p8
              try clear q8
              try clear hx8
              try clear hf8
              try clear c9
              try clear c9b0
              try clear c17
              try clear c17b0
              try clear c17b1
              try clear c18
              try clear c19
              try clear c19b0
              try clear c20
              try clear c20b0
              try clear p20
              try clear q20
              try clear hx20
              try clear c21
              try clear p21
              try clear q21
              try clear hx21
              try clear c22
              try clear p22
              try clear q22
              try clear hx22
              try clear c23
              try clear c23b0
              try clear c23b1
              try clear c24
              try clear c24b0
              try clear c25
              try clear c25b0
              try clear c26
              try clear hx205_0
              try clear hx206_0
              try clear hx211_0
              try clear hx211_1
              try clear hx211_2
              try clear hx211_3
              try clear hx211_4
              try clear hx211_5
              try clear hx211_6
              try clear hx211_7
              try clear hx211_8
              try clear hx211_9
              try clear hx212_0
              try clear hx212_1
              try clear hx212_2
              try clear hx212_3
              try clear hx212_4
              try clear hx212_5
              try clear hx212_6
              try clear hx212_7
              try clear hx212_8
              try clear hx212_9
              try clear hx216_0
              try clear hx216_1
              try clear hx216_2
              try clear hx216_3
              try clear hx216_4
              try clear hx216_5
              try clear hx216_6
              try clear hx216_7
              try clear hx216_8
              try clear hx216_9
              try clear hx220_0
              try clear hx220_1
              try clear hx220_2
              try clear hx220_3
              try clear hx220_4
              try clear hx220_5
              try clear hx220_6
              try clear hx220_7
              try clear hx220_8
              try clear hx220_9
              try clear hx8_0
              try clear p2
              try clear p205
              try clear p206
              try clear p211
              try clear p212
              try clear p216
              try clear p220
              try clear p8
              try clear q2
              try clear q205
              try clear q206
              try clear q211
              try clear q212
              try clear q216
              try clear q220
              try clear q8
              obtain ⟨x7_2, x58_2, rfl, HA, HK2, HO_2, HO_7, HK, HB⟩ := hrel
              cases gk with
              | zero => exact absurd HA.out (by simp [tables_ends.l0])
              | succ k2 =>
               have H := HA.out
               clear HA
               simp only [tables_ends.l0] at H
               by_cases c28 : x58_2 < (((rd_T40 l0 a1).f6).length : Int)
               ·
                rw [if_pos c28] at H
                have c28b0 : decide (x58_2 < (((rd_T40 l0 a1).f6).length : Int)) = true := decide_eq_true c28
                clear c28
                by_cases c29 : 0 ≤ x58_2
                ·
                 rw [if_pos c29] at H
                 have c29b0 : decide (0 ≤ x58_2) = true := decide_eq_true c29
                 clear c29
                 by_cases c30 : x58_2 < (((rd_T40 l0 a1).f6).length : Int)
                 ·
                  rw [if_pos c30] at H
                  have c30b0 : decide (x58_2 < (((rd_T40 l0 a1).f6).length : Int)) = true := decide_eq_true c30
                  clear c30
                  by_cases c31 : x7_2.length < 17592186044416
                  ·
                   rw [if_pos c31] at H
                   have LMc31 := Aside0.mk c31
                   clear c31
                   obtain ⟨y223, hy223⟩ : ∃ y_ : List Int, y_ = (x7_2 ++ [(rd_T42 ((rd_T40 l0 a1).f6) x58_2).f2]) := ⟨_, rfl⟩
                   replace H : (tables_ends.l0 k2 l0 a1 y207 y223 ((rd_T40 l0 a1).f6) (((rd_T40 l0 a1).f6).length : Int) (wrap64 (x58_2 + 1))) = some (r1, r2) := by first | (rw [hy223]; with_reducible exact H) | (have H2_ := (Option.bind_some _ _).symm.trans H; rw [hy223]; with_reducible exact H2_) | (have H2_ := (Option.bind_some _ _).symm.trans H; with_reducible exact H2_) | with_reducible exact H | (rw [hy223]; exact H) | exact H
                   have Ny223 := Aside0.mk hy223
                   clear hy223
                   have H' := Aside0.mk H
                   clear H
                   have p221 : 0 ≤ (x58_2 : Int) := of_decide_eq_true (by first | (with_reducible assumption) | assumption)
                   have q221 : x58_2 < (((rd_T40 l0 a1).f6).length : Int) := of_decide_eq_true (by first | (with_reducible assumption) | assumption)
                   obtain ⟨ad221, e221, hx221_0, hx221_1, hx221_2⟩ := at_T42 HR220_6.out x58_2 p221 q221
                   cases e221
                   replace hx221_0 := (HB.out.cell (World.block_lt_of_cell? _ _ hx221_0)).trans hx221_0
                   replace hx221_1 := (HB.out.cell (World.block_lt_of_cell? _ _ hx221_1)).trans hx221_1
                   replace hx221_2 := (HB.out.cell (World.block_lt_of_cell? _ _ hx221_2)).trans hx221_2
                   replace p221 := eq_true p221
                   replace q221 := eq_true q221
                   go_wp2_with (first | ((with_reducible refine gate_dst (N := 9) rfl ?_); refine box_event ?hg (N := 9) ?hd (cs := #[.string (⟨#[]⟩ : ByteArray), .bool false, .int .i64 0]) (t := 42) ?hr ?_; (case hd => rfl); (case hg => rfl); (case hr => first | (go_simp; done) | (go_simp; rfl)); intro gb222 hg w32 hbox hb; have n0_ := Aside0.mk (Kd.R_below (by (with_reducible repeat (first | apply Kd.R_alloc | apply Kd.R_drewN | apply Kd.R_drew)); exact HO_2.out) hb); have n1_ := Aside0.mk (Kd.R_below (by (with_reducible repeat (first | apply Kd.R_alloc | apply Kd.R_drewN | apply Kd.R_drew)); exact HO_7.out) hb); have n2_ := Aside0.mk (Kept.below (S := (fun k_ => P2_ k_)) (by repeat (first | (with_reducible first | exact HK.out | apply Kept.alloc | apply Kept.drewN | apply Kept.drew) | exact HK.out)) hb); have n3_ := Aside0.mk (below_step (by repeat (first | (with_reducible first | exact HB.out | apply below_alloc | apply pw_below_drewN | apply below_drew1) | exact HB.out)) hb); have n4_ := Aside0.mk (hbox); have n5_ := Aside0.mk ((by rw [hg]; exact (by first | exact HK.out.1 | exact (show Kept w _ (fun k_ => P2_ k_) from by repeat (first | (with_reducible first | exact HK.out | apply Kept.alloc | apply Kept.drewN | apply Kept.drew) | exact HK.out)).1) : w.heap.size ≤ gb222)); have n6_ := Aside0.mk ((by rw [hg]; exact (below_size (by repeat (first | (with_reducible first | exact HB.out | apply below_alloc | apply pw_below_drewN | apply below_drew1) | exact HB.out))) : w0.heap.size ≤ gb222)); clear HO_2; clear HO_7; clear HK; clear HB; have HO_2 := n0_; have HO_7 := n1_; have HK := n2_; have HB := n3_; have BK222 := n4_; have GW222 := n5_; have GE222 := n6_; clear n0_ n1_ n2_ n3_ n4_ n5_ n6_; clear hb hbox hg; have hcz33_0 : w32.cell? ⟨gb222, 0, none⟩ = some (.string (⟨#[]⟩ : ByteArray)) := (blk_cell BK222.out 0).trans rfl; have hcz33_1 : w32.cell? ⟨gb222, 1, none⟩ = some (.bool false) := (blk_cell BK222.out 1).trans rfl; have hcz33_2 : w32.cell? ⟨gb222, 2, none⟩ = some (.int .i64 0) := (blk_cell BK222.out 2).trans rfl; have hfz33_0 := blk_frozen BK222.out 0; have hfz33_1 := blk_frozen BK222.out 1; have hfz33_2 := blk_frozen BK222.out 2) | ((with_reducible refine gate_builtin (b := .append) (xs := #[.tmp 62, .tmp 65]) rfl ?_); at_builtin; refine Kd.R_append (Kd.int .i64) (w0 := w0) w0.heap.size rfl (.tmp 62) (.tmp 65) 32 3 (.int .i64 0) 8 rfl Try.underlying32 info3 rfl (by decide) (by omega) u7 x7_2 ((rd_T42 ((rd_T40 l0 a1).f6) x58_2).f2) [.int .i64 ((rd_T42 ((rd_T40 l0 a1).f6) x58_2).f2)] (fun k_ => (P2_ k_ ∨ w.heap.size ≤ k_) ∧ some k_ ≠ (.slice (some ⟨go8, 0, none⟩) y207.length co11 : Value).ownBlock) (fun _ => False) rfl (by first | (go_simp; done) | (go_simp; rfl)) ?aP (fun _ hk => hk.elim) ?aF ?aO ?aB ?aS ?aL ?_; (case aP => exact rfl); (case aB => exact (by repeat (first | (with_reducible first | exact HB.out | apply below_alloc | apply pw_below_drewN | apply below_drew1 | refine below_set ?_ GE222.out) | exact HB.out))); (case aF => exact (fun k_ hk => ⟨(.inr (Nat.le_trans (show Kept w _ (fun k_ => P2_ k_) from by repeat (first | (with_reducible first | exact HK.out | apply Kept.alloc | apply Kept.drewN | apply Kept.drew | refine Kept.setCell ?_ (.inr GW222.out) _) | exact HK.out)).1 hk)), Kd.fresh' (Kd.R_lt (by (with_reducible repeat (first | apply Kd.R_alloc | apply Kd.R_drewN | apply Kd.R_drew)); exact (Kd.R_mono (Kd.R_far (p := ⟨gb222, 2, none⟩) (Kd.R_far (p := ⟨gb222, 1, none⟩) (Kd.R_far (p := ⟨gb222, 0, none⟩) (Kd.R_types HO_2.out BK222.out (by decide)) (fun _ hk => hk.2) (.string ((rd_T42 ((rd_T40 l0 a1).f6) x58_2).f0))) (fun _ hk => hk.2) (.bool ((rd_T42 ((rd_T40 l0 a1).f6) x58_2).f1))) (fun _ hk => hk.2) (.int .i64 ((rd_T42 ((rd_T40 l0 a1).f6) x58_2).f2))) (fun _ h_ => h_.1)))) k_ hk⟩)); (case aO => exact (by (with_reducible repeat (first | apply Kd.R_alloc | apply Kd.R_drewN | apply Kd.R_drew)); exact Kd.R_mono (Kd.R_far (p := ⟨gb222, 2, none⟩) (Kd.R_far (p := ⟨gb222, 1, none⟩) (Kd.R_far (p := ⟨gb222, 0, none⟩) (Kd.R_types HO_7.out BK222.out (by decide)) (fun _ hk => hk.2) (.string ((rd_T42 ((rd_T40 l0 a1).f6) x58_2).f0))) (fun _ hk => hk.2) (.bool ((rd_T42 ((rd_T40 l0 a1).f6) x58_2).f1))) (fun _ hk => hk.2) (.int .i64 ((rd_T42 ((rd_T40 l0 a1).f6) x58_2).f2))) (fun _ hk => ⟨hk.1.1, hk.1.2⟩))); (case aS => exact (below_size (by repeat (first | (with_reducible first | exact HB.out | apply below_alloc | apply pw_below_drewN | apply below_drew1 | refine below_set ?_ GE222.out) | exact HB.out)))); (case aL => have := LMc31.out; omega); intro v224 w34 ho hb hg hat; rw [← Ny223.out] at ho; have n0_ := Aside0.mk (Kd.R_after (ok := (fun k_ => (P2_ k_ ∨ w.heap.size ≤ k_))) (by (with_reducible repeat (first | apply Kd.R_alloc | apply Kd.R_drewN | apply Kd.R_drew)); exact Kd.R_mono (Kd.R_far (p := ⟨gb222, 2, none⟩) (Kd.R_far (p := ⟨gb222, 1, none⟩) (Kd.R_far (p := ⟨gb222, 0, none⟩) (Kd.R_types HO_2.out BK222.out (by decide)) (fun _ hk => hk.2) (.string ((rd_T42 ((rd_T40 l0 a1).f6) x58_2).f0))) (fun _ hk => hk.2) (.bool ((rd_T42 ((rd_T40 l0 a1).f6) x58_2).f1))) (fun _ hk => hk.2) (.int .i64 ((rd_T42 ((rd_T40 l0 a1).f6) x58_2).f2))) (fun _ hk => ⟨hk.1.1, hk.1.2⟩)) hg hat); have n1_ := Aside0.mk (blk_grown (g := gb222) (o := .cells #[.string ((rd_T42 ((rd_T40 l0 a1).f6) x58_2).f0), .bool ((rd_T42 ((rd_T40 l0 a1).f6) x58_2).f1), .int .i64 ((rd_T42 ((rd_T40 l0 a1).f6) x58_2).f2)] 42 (0, 0)) (by (with_reducible repeat (first | refine blk_drewN ?_ _ | refine blk_drew ?_ | refine blk_alloc ?_ _)); refine blk_put (cs := #[.string ((rd_T42 ((rd_T40 l0 a1).f6) x58_2).f0), .bool ((rd_T42 ((rd_T40 l0 a1).f6) x58_2).f1), .int .i64 0]) ?_ 2 _ rfl; (with_reducible repeat (first | refine blk_drewN ?_ _ | refine blk_drew ?_ | refine blk_alloc ?_ _)); refine blk_put (cs := #[.string ((rd_T42 ((rd_T40 l0 a1).f6) x58_2).f0), .bool false, .int .i64 0]) ?_ 1 _ rfl; (with_reducible repeat (first | refine blk_drewN ?_ _ | refine blk_drew ?_ | refine blk_alloc ?_ _)); refine blk_put (cs := #[.string (⟨#[]⟩ : ByteArray), .bool false, .int .i64 0]) ?_ 0 _ rfl; (with_reducible repeat (first | refine blk_drewN ?_ _ | refine blk_drew ?_ | refine blk_alloc ?_ _)); exact BK222.out) hg (Kd.R_ne HO_7.out BK222.out (by decide))); have n2_ := Aside0.mk (hb); have n3_ := Aside0.mk (Kept.of_grown (S := (fun k_ => P2_ k_)) hg (by repeat (first | (with_reducible first | exact HK.out | apply Kept.alloc | apply Kept.drewN | apply Kept.drew | refine Kept.setCell ?_ (.inr GW222.out) _) | exact HK.out)) (fun k_ e_ => (HO_7.out.1 k_ e_).1)); have n4_ := Aside0.mk (ho); clear HO_2; clear BK222; clear HB; clear HK; clear HO_7; have HO_2 := n0_; have BK222 := n1_; have HB := n2_; have HK := n3_; have HO225 := n4_; clear n0_ n1_ n2_ n3_ n4_; clear ho hb hg hat))
                   go_roundg k2
                   case measure => have := HJ15.out; have := HK2.out; omega
                   case rel => exact ⟨(y223), (wrap64 (x58_2 + 1)), (by first | rfl | (simp; done) | (simp [*]; done)), H', ⟨by have := HJ15.out; have := HK2.out; omega⟩, ⟨by (try simp only [hl2_15]); (with_reducible repeat (first | apply Kd.R_alloc | apply Kd.R_drewN | apply Kd.R_drew)); exact HO_2.out⟩, ⟨by (try simp only [hl2_15]); (with_reducible repeat (first | apply Kd.R_alloc | apply Kd.R_drewN | apply Kd.R_drew)); exact HO225.out⟩, ⟨by repeat (first | (with_reducible first | exact HK.out | apply Kept.alloc | apply Kept.drewN | apply Kept.drew | refine Kept.setCell ?_ (.inr GW222.out) _) | exact HK.out)⟩, ⟨by repeat (first | (with_reducible first | exact HB.out | apply below_alloc | apply pw_below_drewN | apply below_drew1 | refine below_set ?_ GE222.out) | exact HB.out)⟩⟩
                  ·
                   rw [if_neg c31] at H
                   exact absurd H (by simp)
                 ·
                  rw [if_neg c30] at H
                  exact absurd H (by simp)
                ·
                 rw [if_neg c29] at H
                 exact absurd H (by simp)
               ·
                rw [if_neg c28] at H
                have c28b0 : decide (x58_2 < (((rd_T40 l0 a1).f6).length : Int)) = false := decide_eq_false c28
                clear c28
                have H' := Aside0.mk H
                clear H
                go_wp2
                (try simp only [← hl2_15])
                go_meet
                case rel => exact ⟨_, (x7_2), H', ⟨by have := HJ15.out; have := HK2.out; first | omega | exact Nat.le_refl _⟩, ⟨by (try simp only [hl2_15]); (with_reducible repeat (first | apply Kd.R_alloc | apply Kd.R_drewN | apply Kd.R_drew)); exact HO_2.out⟩, ⟨by (try simp only [hl2_15]); (with_reducible repeat (first | apply Kd.R_alloc | apply Kd.R_drewN | apply Kd.R_drew)); exact HO_7.out⟩, ⟨by repeat (first | (with_reducible first | exact HK.out | apply Kept.alloc | apply Kept.drewN | apply Kept.drew) | exact HK.out)⟩, ⟨by repeat (first | (with_reducible first | exact HB.out | apply below_alloc | apply pw_below_drewN | apply below_drew1) | exact HB.out)⟩⟩
            ·
             rw [if_neg c26] at H
             exact absurd H (by simp)
           ·
            rw [if_neg c25] at H
            exact absurd H (by simp)
          ·
           rw [if_neg c24] at H
           exact absurd H (by simp)
         ·
          rw [if_neg c23] at H
          have c23b0 : (((rd_T40 l0 a1).f0) == 9) = false := beq_eq_false_iff_ne.mpr c23
          have c23b1 : (((rd_T40 l0 a1).f0) != 9) = true := bne_iff_ne.mpr c23
          have H' := Aside0.mk H
          clear H
          go_wp2
          (try simp only [← hl2_15])
          go_meet
          case rel => exact ⟨_, (y208), H', ⟨by have := HJ15.out; first | omega | exact Nat.le_refl _⟩, ⟨by (try simp only [hl2_15]); (with_reducible repeat (first | apply Kd.R_alloc | apply Kd.R_drewN | apply Kd.R_drew)); exact HO_2.out⟩, ⟨by (try simp only [hl2_15]); (with_reducible repeat (first | apply Kd.R_alloc | apply Kd.R_drewN | apply Kd.R_drew)); exact HO_7.out⟩, ⟨by repeat (first | (with_reducible first | exact HK.out | apply Kept.alloc | apply Kept.drewN | apply Kept.drew) | exact HK.out)⟩, ⟨by repeat (first | (with_reducible first | exact HB.out | apply below_alloc | apply pw_below_drewN | apply below_drew1) | exact HB.out)⟩⟩
     case rest =>
      clear HC10
      try clear c1
      try clear c2
      try clear p2
      try clear q2
      try clear hx2
      try clear c3
      try clear c4
      try clear c4b0
      try clear c5
      try clear c5b0
      try clear c6
      try clear c6b0
      try clear p6
      try clear p8
      try clear q8
      try clear hx8
      try clear hf8
      try clear c9
      try clear c9b0
      try clear c17
      try clear c17b0
      try clear c17b1
      try clear c18
      try clear c19
      try clear c19b0
      try clear c20
      try clear c20b0
      try clear p20
      try clear q20
      try clear hx20
      try clear c21
      try clear p21
      try clear q21
      try clear hx21
      try clear c22
      try clear p22
      try clear q22
      try clear hx22
      try clear c23
      try clear c23b0
      try clear c23b1
      try clear c24
      try clear c24b0
      try clear c25
      try clear c25b0
      try clear c26
      try clear c28
      try clear c28b0
      try clear c29
      try clear c29b0
      try clear c30
      try clear c30b0
      try clear c31
      try clear hcz33_0
      try clear hcz33_1
      try clear hcz33_2
      try clear hfz33_0
      try clear hfz33_1
      try clear hfz33_2
      try clear hx205_0
      try clear hx206_0
      try clear hx211_0
      try clear hx211_1
      try clear hx211_2
      try clear hx211_3
      try clear hx211_4
      try clear hx211_5
      try clear hx211_6
      try clear hx211_7
      try clear hx211_8
      try clear hx211_9
      try clear hx212_0
      try clear hx212_1
      try clear hx212_2
      try clear hx212_3
      try clear hx212_4
      try clear hx212_5
      try clear hx212_6
      try clear hx212_7
      try clear hx212_8
      try clear hx212_9
      try clear hx216_0
      try clear hx216_1
      try clear hx216_2
      try clear hx216_3
      try clear hx216_4
      try clear hx216_5
      try clear hx216_6
      try clear hx216_7
      try clear hx216_8
      try clear hx216_9
      try clear hx220_0
      try clear hx220_1
      try clear hx220_2
      try clear hx220_3
      try clear hx220_4
      try clear hx220_5
      try clear hx220_6
      try clear hx220_7
      try clear hx220_8
      try clear hx220_9
      try clear hx221_0
      try clear hx221_1
      try clear hx221_2
      try clear hx8_0
      try clear p2
      try clear p20
      try clear p205
      try clear p206
      try clear p21
      try clear p211
      try clear p212
      try clear p216
      try clear p22
      try clear p220
      try clear p221
      try clear p8
      try clear q2
      try clear q20
      try clear q205
      try clear q206
      try clear q21
      try clear q211
      try clear q212
      try clear q216
      try clear q22
      try clear q220
      try clear q221
      try clear q8
      obtain ⟨kq, x7_9, HA, HJ9, HO_2, HO_7, HK, HB⟩ := hcut
      have hl2_9 := (Kd.R_reads' HO_2.out).1
      rw [hl2_9] at HO_2
      (try simp only [hl2_9])
      (try simp only [hl2_9] at HO_7)
      cases kq with
      | zero => exact absurd HA.out (by simp [tables_ends.j2])
      | succ kj9 =>
       have H := HA.out
       clear HA
       simp only [tables_ends.j2] at H
       have H' := Aside0.mk H
       clear H
       obtain ⟨Ao35, co35, eo35⟩ := Kd.R_slice HO_7.out
       subst eo35
       go_wp2
       go_loopg [70] kj9 (fun kq v70 w' => ∃ (x2_2 : List Int) (x70_2 : Int), v70 = .int .i64 x70_2 ∧ Aside0 (tables_ends.l1 kq l0 a1 x2_2 x7_9 (x7_9.length : Int) x70_2 = some (r1, r2)) ∧ Aside0 (kq ≤ kj9) ∧ Aside0 (Kd.R (Kd.int .i64) 3 w' w0.heap.size (fun k_ => (P2_ k_ ∨ w.heap.size ≤ k_) ∧ some k_ ≠ ((.slice Ao35 x7_9.length co35) : Value).ownBlock) (.slice (some ⟨go8, 0, none⟩) y207.length co11) x2_2) ∧ Aside0 (Kd.R (Kd.int .i64) 3 w' w0.heap.size (fun k_ => (P2_ k_ ∨ w.heap.size ≤ k_) ∧ some k_ ≠ ((.slice (some ⟨go8, 0, none⟩) y207.length co11) : Value).ownBlock) (.slice Ao35 x7_9.length co35) x7_9) ∧ Aside0 (Kept w w' (fun k_ => P2_ k_)) ∧ Aside0 (Below w0.heap.size w0 w'))
       case atStart => exact ⟨(y207), (0), (by first | rfl | (simp; done) | (simp [*]; done)), H', ⟨Nat.le_refl _⟩, ⟨by (try simp only [hl2_9]); (with_reducible repeat (first | apply Kd.R_alloc | apply Kd.R_drewN | apply Kd.R_drew)); exact HO_2.out⟩, ⟨by (try simp only [hl2_9]); (with_reducible repeat (first | apply Kd.R_alloc | apply Kd.R_drewN | apply Kd.R_drew)); exact HO_7.out⟩, ⟨by repeat (first | (with_reducible first | exact HK.out | apply Kept.alloc | apply Kept.drewN | apply Kept.drew) | exact HK.out)⟩, ⟨by repeat (first | (with_reducible first | exact HB.out | apply below_alloc | apply pw_below_drewN | apply below_drew1) | exact HB.out)⟩⟩
       case round =>
        clear H'
        try clear c1
        try clear c2
        try clear p2
        try clear q2
        try clear hx2
        try clear c3
        try clear c4
        try clear c4b0
        try clear c5
        try clear c5b0
        try clear c6
        try clear c6b0
        try clear p6
        try clear p8
        try clear q8
        try clear hx8
        try clear hf8
        try clear c9
        try clear c9b0
        try clear c17
        try clear c17b0
        try clear c17b1
        try clear c18
        try clear c19
        try clear c19b0
        try clear c20
        try clear c20b0
        try clear p20
        try clear q20
        try clear hx20
        try clear c21
        try clear p21
        try clear q21
        try clear hx21
        try clear c22
        try clear p22
        try clear q22
        try clear hx22
        try clear c23
        try clear c23b0
        try clear c23b1
        try clear c24
        try clear c24b0
        try clear c25
        try clear c25b0
        try clear c26
        try clear c28
        try clear c28b0
        try clear c29
        try clear c29b0
        try clear c30
        try clear c30b0
        try clear c31
        try clear hcz33_0
        try clear hcz33_1
        try clear hcz33_2
        try clear hfz33_0
        try clear hfz33_1
        try clear hfz33_2
        try clear hx205_0
        try clear hx206_0
        try clear hx211_0
        try clear hx211_1
        try clear hx211_2
        try clear hx211_3
        try clear hx211_4
        try clear hx211_5
        try clear hx211_6
        try clear hx211_7
        try clear hx211_8
        try clear hx211_9
        try clear hx212_0
        try clear hx212_1
        try clear hx212_2
        try clear hx212_3
        try clear hx212_4
        try clear hx212_5
        try clear hx212_6
        try clear hx212_7
        try clear hx212_8
        try clear hx212_9
        try clear hx216_0
        try clear hx216_1
        try clear hx216_2
        try clear hx216_3
        try clear hx216_4
        try clear hx216_5
        try clear hx216_6
        try clear hx216_7
        try clear hx216_8
        try clear hx216_9
        try clear hx220_0
        try clear hx220_1
        try clear hx220_2
        try clear hx220_3
        try clear hx220_4
        try clear hx220_5
        try clear hx220_6
        try clear hx220_7
        try clear hx220_8
        try clear hx220_9
        try clear hx221_0
        try clear hx221_1
        try clear hx221_2
        try clear hx8_0
        try clear p2
        try clear p20
        try clear p205
        try clear p206
        try clear p21
        try clear p211
        try clear p212
        try clear p216
        try clear p22
        try clear p220
        try clear p221
        try clear p6
        try clear p8
        try clear q2
        try clear q20
        try clear q205
        try clear q206
        try clear q21
        try clear q211
        try clear q212
        try clear q216
        try clear q22
        try clear q220
        try clear q221
        try clear q8
        obtain ⟨x2_2, x70_2, rfl, HA, HK2, HO_2, HO_68, HK, HB⟩ := hrel
        have hl2_2 := (Kd.R_reads' HO_2.out).1
        rw [hl2_2] at HO_2
        (try simp only [hl2_2])
        (try simp only [hl2_2] at HO_68)
        cases gk with
        | zero => exact absurd HA.out (by simp [tables_ends.l1])
        | succ k2 =>
         have H := HA.out
         clear HA
         simp only [tables_ends.l1] at H
         by_cases c36 : x70_2 < (x7_9.length : Int)
         ·
          rw [if_pos c36] at H
          have c36b0 : decide (x70_2 < (x7_9.length : Int)) = true := decide_eq_true c36
          clear c36
          by_cases c37 : 0 ≤ x70_2
          ·
           rw [if_pos c37] at H
           have c37b0 : decide (0 ≤ x70_2) = true := decide_eq_true c37
           clear c37
           by_cases c38 : x70_2 < (x7_9.length : Int)
           ·
            rw [if_pos c38] at H
            have c38b0 : decide (x70_2 < (x7_9.length : Int)) = true := decide_eq_true c38
            clear c38
            replace H := Option.bind_eq_some_iff.mp H
            obtain ⟨⟨t227, t228⟩, A390, H⟩ := H
            replace H : (if t227 = true then (tables_ends.l1 k2 l0 a1 t228 x7_9 (x7_9.length : Int) (wrap64 (x70_2 + 1))) else (some (false, t228))) = some (r1, r2) := H
            have A39 := Aside0.mk A390
            clear A390
            by_cases c40 : t227 = true
            ·
             subst c40
             have H1 : (tables_ends.l1 k2 l0 a1 t228 x7_9 (x7_9.length : Int) (wrap64 (x70_2 + 1))) = some (r1, r2) := by rw [if_pos rfl] at H; exact H
             clear H
             have H := H1
             clear H1
             have H' := Aside0.mk H
             clear H
             have p226 : 0 ≤ (x70_2 : Int) := of_decide_eq_true (by first | (with_reducible assumption) | assumption)
             have q226 : x70_2 < (x7_9.length : Int) := of_decide_eq_true (by first | (with_reducible assumption) | assumption)
             obtain ⟨ad226, e226, hx226_0⟩ := Kd.at_int (Kd.R_reads' HO_68.out).2.2 x70_2 p226 q226
             cases e226
             replace p226 := eq_true p226
             replace q226 := eq_true q226
             go_wp2_with (first | ((with_reducible refine gate_callee (f := 61) rfl ?_); refine goesL_ (some 77) rfl rfl Try.func61 (by kernel_rfl) rfl #[.slice (some ad211) l0.length c0, .int .i64 (rd x7_9 x70_2), .slice (some ⟨go8, 0, none⟩) x2_2.length co11] rfl (by (try simp only [List.map_toArray, List.map_cons, List.map_nil]); first | done | rfl | (simp only [List.length_drop, List.length_take]; rfl)) ?_; (with_reducible refine (ih k2 (by have := HJ9.out; have := HK2.out; omega) _ _ l0 (rd x7_9 x70_2) (fun k_ => some k_ = (.slice (some ⟨go8, 0, none⟩) x2_2.length co11 : Value).ownBlock) (.slice (some ⟨go8, 0, none⟩) x2_2.length co11) x2_2 true t228 w0 _ ?side1 ?side2 ?side3 HQ0.out ?side4 A39.out).mono ?_); (case side1 => repeat (first | (with_reducible first | exact HB.out | apply below_alloc | apply pw_below_drewN | apply below_drew1) | exact HB.out)); (case side2 => exact Kd.C_kept_call HR0.out (by repeat (first | (with_reducible first | exact HK.out | apply Kept.alloc | apply Kept.drewN | apply Kept.drew) | exact HK.out)) (fun k_ hs_ => (fun e_ => (HO_2.out.1 k_ e_.symm).1) hs_)); (case side3 => exact HC0.out); (case side4 => exact Kd.R_tight rfl HO_2.out); rintro e w41 ⟨rfl, hy0, hb, hkp⟩; refine ⟨_, rfl, ?_⟩; have n0_ := Aside0.mk (Kd.R_reok rfl hy0 (fun k_ e_ => HO_2.out.1 k_ e_)); have n1_ := Aside0.mk (Kd.R_mono (ok' := fun k_ => (P2_ k_ ∨ w.heap.size ≤ k_) ∧ some k_ ≠ (.slice (some ⟨go8, 0, none⟩) x2_2.length co11 : Value).ownBlock) (Kd.R_keptB (HO_68.out) hkp (fun k_ hk_ hs_ => (hk_.2) hs_)) (fun k_ hk_ => ⟨hk_.1.1, hk_.1.2⟩)); have n2_ := Aside0.mk (Kept.then_ (S := (fun k_ => P2_ k_)) (by repeat (first | (with_reducible first | exact HK.out | apply Kept.alloc | apply Kept.drewN | apply Kept.drew) | exact HK.out)) hkp (fun k_ hs_ => (fun e_ => (HO_2.out.1 k_ e_.symm).1) hs_)); have n3_ := Aside0.mk (hb); clear HO_2; clear HO_68; clear HK; clear HB; have HO_2 := n0_; have HO_68 := n1_; have HK := n2_; have HB := n3_; clear n0_ n1_ n2_ n3_; (try clear hb); (try clear hkp); (try clear hy0)))
             (try simp only [← hl2_2])
             go_roundg k2
             case measure => have := HJ9.out; have := HK2.out; omega
             case rel => exact ⟨(t228), (wrap64 (x70_2 + 1)), (by first | rfl | (simp; done) | (simp [*]; done)), H', ⟨by have := HJ9.out; have := HK2.out; omega⟩, ⟨by (try simp only [hl2_9]); (try simp only [hl2_2]); (with_reducible repeat (first | apply Kd.R_alloc | apply Kd.R_drewN | apply Kd.R_drew)); exact HO_2.out⟩, ⟨by (try simp only [hl2_9]); (try simp only [hl2_2]); (with_reducible repeat (first | apply Kd.R_alloc | apply Kd.R_drewN | apply Kd.R_drew)); exact HO_68.out⟩, ⟨by repeat (first | (with_reducible first | exact HK.out | apply Kept.alloc | apply Kept.drewN | apply Kept.drew) | exact HK.out)⟩, ⟨by repeat (first | (with_reducible first | exact HB.out | apply below_alloc | apply pw_below_drewN | apply below_drew1) | exact HB.out)⟩⟩
            ·
             replace c40 := Bool.eq_false_iff.mpr c40
             subst c40
             have H1 : (some (false, t228)) = some (r1, r2) := by rw [if_neg (show ¬ (false = true) by decide)] at H; exact H
             clear H
             have H := H1
             clear H1
             simp only [Option.some.injEq, Prod.mk.injEq] at H
             obtain ⟨rfl, rfl⟩ := H
             have p226 : 0 ≤ (x70_2 : Int) := of_decide_eq_true (by first | (with_reducible assumption) | assumption)
             have q226 : x70_2 < (x7_9.length : Int) := of_decide_eq_true (by first | (with_reducible assumption) | assumption)
             obtain ⟨ad226, e226, hx226_0⟩ := Kd.at_int (Kd.R_reads' HO_68.out).2.2 x70_2 p226 q226
             cases e226
             replace p226 := eq_true p226
             replace q226 := eq_true q226
             go_wp2_with (first | ((with_reducible refine gate_callee (f := 61) rfl ?_); refine goesL_ (some 77) rfl rfl Try.func61 (by kernel_rfl) rfl #[.slice (some ad211) l0.length c0, .int .i64 (rd x7_9 x70_2), .slice (some ⟨go8, 0, none⟩) x2_2.length co11] rfl (by (try simp only [List.map_toArray, List.map_cons, List.map_nil]); first | done | rfl | (simp only [List.length_drop, List.length_take]; rfl)) ?_; (with_reducible refine (ih k2 (by have := HJ9.out; have := HK2.out; omega) _ _ l0 (rd x7_9 x70_2) (fun k_ => some k_ = (.slice (some ⟨go8, 0, none⟩) x2_2.length co11 : Value).ownBlock) (.slice (some ⟨go8, 0, none⟩) x2_2.length co11) x2_2 false t228 w0 _ ?side1 ?side2 ?side3 HQ0.out ?side4 A39.out).mono ?_); (case side1 => repeat (first | (with_reducible first | exact HB.out | apply below_alloc | apply pw_below_drewN | apply below_drew1) | exact HB.out)); (case side2 => exact Kd.C_kept_call HR0.out (by repeat (first | (with_reducible first | exact HK.out | apply Kept.alloc | apply Kept.drewN | apply Kept.drew) | exact HK.out)) (fun k_ hs_ => (fun e_ => (HO_2.out.1 k_ e_.symm).1) hs_)); (case side3 => exact HC0.out); (case side4 => exact Kd.R_tight rfl HO_2.out); rintro e w42 ⟨rfl, hy0, hb, hkp⟩; refine ⟨_, rfl, ?_⟩; have n0_ := Aside0.mk (Kd.R_reok rfl hy0 (fun k_ e_ => HO_2.out.1 k_ e_)); have n1_ := Aside0.mk (Kd.R_mono (ok' := fun k_ => (P2_ k_ ∨ w.heap.size ≤ k_) ∧ some k_ ≠ (.slice (some ⟨go8, 0, none⟩) x2_2.length co11 : Value).ownBlock) (Kd.R_keptB (HO_68.out) hkp (fun k_ hk_ hs_ => (hk_.2) hs_)) (fun k_ hk_ => ⟨hk_.1.1, hk_.1.2⟩)); have n2_ := Aside0.mk (Kept.then_ (S := (fun k_ => P2_ k_)) (by repeat (first | (with_reducible first | exact HK.out | apply Kept.alloc | apply Kept.drewN | apply Kept.drew) | exact HK.out)) hkp (fun k_ hs_ => (fun e_ => (HO_2.out.1 k_ e_.symm).1) hs_)); have n3_ := Aside0.mk (hb); clear HO_2; clear HO_68; clear HK; clear HB; have HO_2 := n0_; have HO_68 := n1_; have HK := n2_; have HB := n3_; clear n0_ n1_ n2_ n3_; (try clear hb); (try clear hkp); (try clear hy0)))
             go_ret
             exact ⟨by first | rfl | (simp [errW_none, errW_some] <;> rfl) | (simp [*, errW_none, errW_some] <;> rfl), (by first | exact (by (with_reducible repeat (first | apply Kd.R_alloc | apply Kd.R_drewN | apply Kd.R_drew)); exact Kd.R_mono HO_2.out (fun _ hk => hk.1)) | (simp only [hl2_9, hl2_2]; exact (by (with_reducible repeat (first | apply Kd.R_alloc | apply Kd.R_drewN | apply Kd.R_drew)); exact Kd.R_mono HO_2.out (fun _ hk => hk.1)))), by repeat (first | (with_reducible first | exact HB.out | apply below_alloc | apply pw_below_drewN | apply below_drew1) | exact HB.out), by repeat (first | (with_reducible first | exact HK.out | apply Kept.alloc | apply Kept.drewN | apply Kept.drew) | exact HK.out)⟩
           ·
            rw [if_neg c38] at H
            exact absurd H (by simp)
          ·
           rw [if_neg c37] at H
           exact absurd H (by simp)
         ·
          rw [if_neg c36] at H
          have c36b0 : decide (x70_2 < (x7_9.length : Int)) = false := decide_eq_false c36
          clear c36
          by_cases c43 : 0 ≤ a1
          ·
           rw [if_pos c43] at H
           have c43b0 : decide (0 ≤ a1) = true := decide_eq_true c43
           clear c43
           by_cases c44 : a1 < (x2_2.length : Int)
           ·
            rw [if_pos c44] at H
            have c44b0 : decide (a1 < (x2_2.length : Int)) = true := decide_eq_true c44
            clear c44
            obtain ⟨y229, hy229⟩ : ∃ y_ : List Int, y_ = (x2_2.set (a1 : Int).toNat 2) := ⟨_, rfl⟩
            replace H : (some (true, y229)) = some (r1, r2) := by first | (rw [hy229]; with_reducible exact H) | (have H2_ := (Option.bind_some _ _).symm.trans H; rw [hy229]; with_reducible exact H2_) | (have H2_ := (Option.bind_some _ _).symm.trans H; with_reducible exact H2_) | with_reducible exact H | (rw [hy229]; exact H) | exact H
            have Ny229 := Aside0.mk hy229
            clear hy229
            simp only [Option.some.injEq, Prod.mk.injEq] at H
            obtain ⟨rfl, rfl⟩ := H
            have p45 : 0 ≤ (a1 : Int) := of_decide_eq_true (by first | (with_reducible assumption) | assumption)
            have q45 : (a1 : Int) < ((x2_2.length : Int) : Int) := of_decide_eq_true (by first | (with_reducible assumption) | assumption)
            obtain ⟨hx45_0, hf45_0⟩ := Kd.R_celln 0 HO_2.out (a1 : Int) p45 q45
            replace p45 := eq_true p45
            replace q45 := eq_true q45
            have HP46 := Kd.R_putg HO_2.out (a1 : Int) 2
            go_wp2_with (first | ((with_reducible refine gate_store (t := 3) (p := 82) rfl ?_); refine store_event (t := 3) (p := 82) (v := ?vo_w47) (w1 := (wr.setCell ⟨go8, (a1 : Int).toNat, none⟩ (.int .i64 2))) ?hg ?ho ?hn ?hr ?_; (case ho => rfl); (case hg => rfl); (case hn => rfl); (case hr => first | (go_simp; done) | (go_simp; rfl)); intro w47 hw; have hg : wr.grownBy w47 (some go8) := (by rw [hw]; exact HP46.2); have hp_ : Kd.R (Kd.int .i64) 3 w47 w0.heap.size (fun k_ => (P2_ k_ ∨ w.heap.size ≤ k_) ∧ some k_ ≠ (.slice Ao35 x7_9.length co35 : Value).ownBlock) (.slice (some ⟨go8, 0, none⟩) x2_2.length co11) y229 := (by rw [hw, Ny229.out]; exact HP46.1); clear HP46; have n0_ := Aside0.mk (hp_); have n1_ := Aside0.mk (Kd.R_after (v := (.slice (some ⟨go8, 0, none⟩) x2_2.length co11)) (v1 := (.slice (some ⟨go8, 0, none⟩) x2_2.length co11)) (ok := (fun k_ => (P2_ k_ ∨ w.heap.size ≤ k_))) (by (with_reducible repeat (first | apply Kd.R_alloc | apply Kd.R_drewN | apply Kd.R_drew)); exact HO_68.out) hg (.inl rfl)); have n2_ := Aside0.mk ((by rw [hw]; exact below_set (HB.out) GB8.out : Below w0.heap.size w0 w47)); have n3_ := Aside0.mk (Kept.of_grown (S := (fun k_ => P2_ k_)) hg (by repeat (first | (with_reducible first | exact HK.out | apply Kept.alloc | apply Kept.drewN | apply Kept.drew) | exact HK.out)) (fun k_ e_ => (HO_2.out.1 k_ e_).1)); clear HO_2; clear HO_68; clear HB; clear HK; have HO_2 := n0_; have HO_68 := n1_; have HB := n2_; have HK := n3_; clear n0_ n1_ n2_ n3_; clear hg hw hp_))
            go_ret
            exact ⟨by first | rfl | (simp [errW_none, errW_some] <;> rfl) | (simp [*, errW_none, errW_some] <;> rfl), (by first | exact (by (with_reducible repeat (first | apply Kd.R_alloc | apply Kd.R_drewN | apply Kd.R_drew)); exact Kd.R_mono HO_2.out (fun _ hk => hk.1)) | (simp only [hl2_9, hl2_2]; exact (by (with_reducible repeat (first | apply Kd.R_alloc | apply Kd.R_drewN | apply Kd.R_drew)); exact Kd.R_mono HO_2.out (fun _ hk => hk.1)))), by repeat (first | (with_reducible first | exact HB.out | apply below_alloc | apply pw_below_drewN | apply below_drew1) | exact HB.out), by repeat (first | (with_reducible first | exact HK.out | apply Kept.alloc | apply Kept.drewN | apply Kept.drew) | exact HK.out)⟩
           ·
            rw [if_neg c44] at H
            exact absurd H (by simp)
          ·
           rw [if_neg c43] at H
           exact absurd H (by simp)
    ·
     rw [if_neg c9] at H
     exact absurd H (by simp)
  ·
   rw [if_neg c5] at H
   exact absurd H (by simp)
 ·
  rw [if_neg c4] at H
  exact absurd H (by simp)
end Go.Proofs.Ytgnbemgeiloegaa.TgEnds
