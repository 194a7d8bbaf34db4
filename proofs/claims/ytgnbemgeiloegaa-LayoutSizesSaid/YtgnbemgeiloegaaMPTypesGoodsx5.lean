import Derived.Test.YtgnbemgeiloegaaMTgM
namespace Go.Proofs.Ytgnbemgeiloegaa.PTypesGoods
open Go.RowKit Go.Proofs.YtgnbemgeiloegaaW.PrintWords Go.Proofs.YtgnbemgeiloegaaW.PrintLast Go.Proofs.YtgnbemgeiloegaaW.PrintMore
attribute [local go_sem] max2_int min2_int max_two min_two max_three min_three max_four min_four
set_option linter.unusedVariables false
set_option linter.unusedSimpArgs false
mutual
def spinetref13_round.j3 : Nat → List (S40) → Int → List Int → List Int → Option (Bool × List Int)
 | 0, _, _, _, _ => none
 | k + 1, x0, x1, x2, x7 => spinetref13_round.l1 k x0 x1 x2 x7 0
def spinetref13_round.l1 : Nat → List (S40) → Int → List Int → List Int → Int → Option (Bool × List Int)
 | 0, _, _, _, _, _ => none
 | k + 1, x0, x1, x2, x7, x9 => if x9 < (x7.length : Int) then (if 0 ≤ x9 then ((spinetref13_round.f k x0 (rd x7 x9) x2).bind fun bt195 => (if bt195.1 = true then (some (true, bt195.2)) else (spinetref13_round.l1 k x0 x1 bt195.2 x7 (wrap64 (x9 + 1))))) else (none)) else (if 0 ≤ x1 then (if x1 < (x2.length : Int) then (some (false, (x2.set (x1 : Int).toNat 2))) else (none)) else (none))
def spinetref13_round.j0 : Nat → List (S40) → Int → List Int → List Int → Int → Bool → Option (Bool × List Int)
 | 0, _, _, _, _, _, _ => none
 | k + 1, x0, x1, x2, x7, x27, x28 => if x28 = true then (if 0 ≤ x1 then (if x1 < (x0.length : Int) then (spinetref13_round.j3 k x0 x1 x2 (([(rd_T40 x0 x1).f4] : List Int))) else (none)) else (none)) else (if x27 = 9 then (if 0 ≤ x1 then (if x1 < (x0.length : Int) then (if ((rd_T40 x0 x1).f5) = 0 then (spinetref13_round.j1 k x0 x1 x2 x7) else (spinetref13_round.j1 k x0 x1 x2 (([(rd_T40 x0 x1).f5] : List Int)))) else (none)) else (none)) else (spinetref13_round.j3 k x0 x1 x2 x7))
def spinetref13_round.j1 : Nat → List (S40) → Int → List Int → List Int → Option (Bool × List Int)
 | 0, _, _, _, _ => none
 | k + 1, x0, x1, x2, x7 => spinetref13_round.l0 k x0 x1 x2 x7 0
def spinetref13_round.l0 : Nat → List (S40) → Int → List Int → List Int → Int → Option (Bool × List Int)
 | 0, _, _, _, _, _ => none
 | k + 1, x0, x1, x2, x7, x8 => if 0 ≤ x1 then (if x1 < (x0.length : Int) then (if x8 < (((rd_T40 x0 x1).f6).length : Int) then (if 0 ≤ x8 then (if x7.length < 17592186044416 then (spinetref13_round.l0 k x0 x1 x2 (x7 ++ [(rd_T42 ((rd_T40 x0 x1).f6) x8).f2]) (wrap64 (x8 + 1))) else (none)) else (none)) else (spinetref13_round.j3 k x0 x1 x2 x7)) else (none)) else (none)
def spinetref13_round.f : Nat → List (S40) → Int → List Int → Option (Bool × List Int)
 | 0, _, _, _ => none
 | k + 1, l0, a1, l2 => if 0 ≤ a1 then (if a1 < (l2.length : Int) then (if (rd l2 a1) = 1 then (some (true, l2)) else (if (rd l2 a1) = 2 then (some (false, l2)) else ((some (l2.set (a1 : Int).toNat 1 : List Int)).bind fun y177 => (if a1 < (l0.length : Int) then (if ((rd_T40 l0 a1).f0) = 7 then (spinetref13_round.j0 k l0 a1 y177 ([] : List Int) ((rd_T40 l0 a1).f0) (((rd_T40 l0 a1).f0) == 7)) else (spinetref13_round.j0 k l0 a1 y177 ([] : List Int) ((rd_T40 l0 a1).f0) (((rd_T40 l0 a1).f0) == 8))) else (none))))) else (none)) else (none)
end
set_option maxHeartbeats 8000000 in
set_option maxRecDepth 100000 in
theorem spinetref13_round.calls (k : Nat) : ∀ (A0 : Option Addr) (c0 : Nat) (l0 : List (S40)) (a1 : Int) (P2_ : Nat → Prop) (u9000_ : Value) (l2 : List Int) (r1 : Bool) (r2 : List Int) (w0 w : World) (hB : Below w0.heap.size w0 w) (hr0 : ∀ W_, Kept w W_ (fun k_ => P2_ k_) → Kd.C k40 W_ A0 l0.length l0) (hc0 : l0.length ≤ c0) (ho2 : Kd.R (Kd.int .i64) 3 w w0.heap.size P2_ u9000_ l2) (h : spinetref13_round.f k l0 a1 l2 = some (r1, r2)),
 Calls Try.prog 44 #[.slice A0 l0.length c0, .int .i64 a1, u9000_] w fun e w' => e = .returned (.bool r1) ∧ Kd.R (Kd.int .i64) 3 w' w0.heap.size (fun k_ => (P2_ k_ ∨ w.heap.size ≤ k_)) u9000_ r2 ∧ Below w0.heap.size w0 w' ∧ Kept w w' (fun k_ => P2_ k_) := by
 induction k using Nat.strongRecOn with
 | _ k ih =>
 intro A0 c0 l0 a1 P2_ u9000_ l2 r1 r2 w0 w hB hr0 hc0 ho2 h
 cases k with
 | zero => exact absurd h (by simp [spinetref13_round.f])
 | succ k =>
 simp only [spinetref13_round.f] at h
 have HR0 := Aside0.mk hr0
 have HC0 := Aside0.mk hc0
 clear hr0 hc0
 have HO2 := Aside0.mk (show Kd.R (Kd.int .i64) 3 w w0.heap.size (fun k_ => (P2_ k_ ∨ w.heap.size ≤ k_)) u9000_ l2 from Kd.R_mono ho2 (fun k_ hk => (.inl hk)))
 have HK := Aside0.mk (Kept.refl w (fun k_ => P2_ k_))
 have HW0 := Aside0.mk hB.size
 have HB := Aside0.mk hB
 clear hB
 have H : (if 0 ≤ a1 then (if a1 < (l2.length : Int) then (if (rd l2 a1) = 1 then (some (true, l2)) else (if (rd l2 a1) = 2 then (some (false, l2)) else ((some (l2.set (a1 : Int).toNat 1 : List Int)).bind fun y177 => (if a1 < (l0.length : Int) then (if ((rd_T40 l0 a1).f0) = 7 then (spinetref13_round.j0 k l0 a1 y177 ([] : List Int) ((rd_T40 l0 a1).f0) (((rd_T40 l0 a1).f0) == 7)) else (spinetref13_round.j0 k l0 a1 y177 ([] : List Int) ((rd_T40 l0 a1).f0) (((rd_T40 l0 a1).f0) == 8))) else (none))))) else (none)) else (none)) = some (r1, r2) := h
 clear h
 by_cases c4 : 0 ≤ a1
 ·
  rw [if_pos c4] at H
  have c4b0 : decide (0 ≤ a1) = true := decide_eq_true c4
  clear c4
  by_cases c5 : a1 < (l2.length : Int)
  ·
   rw [if_pos c5] at H
   have c5b0 : decide (a1 < (l2.length : Int)) = true := decide_eq_true c5
   clear c5
   by_cases c6 : (rd l2 a1) = 1
   ·
    rw [if_pos c6] at H
    have c6b0 : ((rd l2 a1) == 1) = true := beq_iff_eq.mpr c6
    have c6b1 : ((rd l2 a1) != 1) = false := bne_eq_false_iff_eq.mpr c6
    clear c6
    simp only [Option.some.injEq, Prod.mk.injEq] at H
    obtain ⟨rfl, rfl⟩ := H
    obtain ⟨Ao7, co7, eo7⟩ := Kd.R_slice HO2.out
    subst eo7
    have p175 : 0 ≤ (a1 : Int) := of_decide_eq_true (by first | (with_reducible assumption) | assumption)
    have q175 : a1 < (l2.length : Int) := of_decide_eq_true (by first | (with_reducible assumption) | assumption)
    obtain ⟨ad175, e175, hx175_0⟩ := Kd.at_int (Kd.R_reads' HO2.out).2.2 a1 p175 q175
    cases e175
    replace p175 := eq_true p175
    replace q175 := eq_true q175
    go_enter Try.func44, Try.ntmps44
    go_wp2
    go_ret
    exact ⟨by first | rfl | (simp [errW_none, errW_some] <;> rfl) | (simp [*, errW_none, errW_some] <;> rfl), by (with_reducible repeat (first | apply Kd.R_alloc | apply Kd.R_drewN | apply Kd.R_drew)); exact HO2.out, by repeat (first | (with_reducible first | exact HB.out | apply below_alloc | apply pw_below_drewN | apply below_drew1) | exact HB.out), by repeat (first | (with_reducible first | exact HK.out | apply Kept.alloc | apply Kept.drewN | apply Kept.drew) | exact HK.out)⟩
   ·
    rw [if_neg c6] at H
    have c6b0 : ((rd l2 a1) == 1) = false := beq_eq_false_iff_ne.mpr c6
    have c6b1 : ((rd l2 a1) != 1) = true := bne_iff_ne.mpr c6
    by_cases c8 : (rd l2 a1) = 2
    ·
     rw [if_pos c8] at H
     have c8b0 : ((rd l2 a1) == 2) = true := beq_iff_eq.mpr c8
     have c8b1 : ((rd l2 a1) != 2) = false := bne_eq_false_iff_eq.mpr c8
     clear c8
     simp only [Option.some.injEq, Prod.mk.injEq] at H
     obtain ⟨rfl, rfl⟩ := H
     obtain ⟨Ao9, co9, eo9⟩ := Kd.R_slice HO2.out
     subst eo9
     have p175 : 0 ≤ (a1 : Int) := of_decide_eq_true (by first | (with_reducible assumption) | assumption)
     have q175 : a1 < (l2.length : Int) := of_decide_eq_true (by first | (with_reducible assumption) | assumption)
     obtain ⟨ad175, e175, hx175_0⟩ := Kd.at_int (Kd.R_reads' HO2.out).2.2 a1 p175 q175
     cases e175
     replace p175 := eq_true p175
     replace q175 := eq_true q175
     have p176 : 0 ≤ (a1 : Int) := of_decide_eq_true (by first | (with_reducible assumption) | assumption)
     have q176 : a1 < (l2.length : Int) := of_decide_eq_true (by first | (with_reducible assumption) | assumption)
     obtain ⟨ad176, e176, hx176_0⟩ := Kd.at_int (Kd.R_reads' HO2.out).2.2 a1 p176 q176
     obtain rfl : ad175 = ad176 := (by injection e176)
     replace p176 := eq_true p176
     replace q176 := eq_true q176
     go_enter Try.func44, Try.ntmps44
     go_wp2
     go_ret
     exact ⟨by first | rfl | (simp [errW_none, errW_some] <;> rfl) | (simp [*, errW_none, errW_some] <;> rfl), by (with_reducible repeat (first | apply Kd.R_alloc | apply Kd.R_drewN | apply Kd.R_drew)); exact HO2.out, by repeat (first | (with_reducible first | exact HB.out | apply below_alloc | apply pw_below_drewN | apply below_drew1) | exact HB.out), by repeat (first | (with_reducible first | exact HK.out | apply Kept.alloc | apply Kept.drewN | apply Kept.drew) | exact HK.out)⟩
    ·
     rw [if_neg c8] at H
     have c8b0 : ((rd l2 a1) == 2) = false := beq_eq_false_iff_ne.mpr c8
     have c8b1 : ((rd l2 a1) != 2) = true := bne_iff_ne.mpr c8
     obtain ⟨y177, hy177⟩ : ∃ y_ : List Int, y_ = (l2.set (a1 : Int).toNat 1) := ⟨_, rfl⟩
     replace H : (if a1 < (l0.length : Int) then (if ((rd_T40 l0 a1).f0) = 7 then (spinetref13_round.j0 k l0 a1 y177 ([] : List Int) ((rd_T40 l0 a1).f0) (((rd_T40 l0 a1).f0) == 7)) else (spinetref13_round.j0 k l0 a1 y177 ([] : List Int) ((rd_T40 l0 a1).f0) (((rd_T40 l0 a1).f0) == 8))) else (none)) = some (r1, r2) := by first | (rw [hy177]; with_reducible exact H) | (have H2_ := (Option.bind_some _ _).symm.trans H; rw [hy177]; with_reducible exact H2_) | (have H2_ := (Option.bind_some _ _).symm.trans H; with_reducible exact H2_) | with_reducible exact H | (rw [hy177]; exact H) | exact H
     have Ny177 := Aside0.mk hy177
     clear hy177
     by_cases c11 : a1 < (l0.length : Int)
     ·
      rw [if_pos c11] at H
      have c11b0 : decide (a1 < (l0.length : Int)) = true := decide_eq_true c11
      clear c11
      have HC12 := Aside0.mk H
      clear H
      obtain ⟨Ao13, co13, eo13⟩ := Kd.R_slice HO2.out
      subst eo13
      have p175 : 0 ≤ (a1 : Int) := of_decide_eq_true (by first | (with_reducible assumption) | assumption)
      have q175 : a1 < (l2.length : Int) := of_decide_eq_true (by first | (with_reducible assumption) | assumption)
      obtain ⟨ad175, e175, hx175_0⟩ := Kd.at_int (Kd.R_reads' HO2.out).2.2 a1 p175 q175
      cases e175
      replace p175 := eq_true p175
      replace q175 := eq_true q175
      have p176 : 0 ≤ (a1 : Int) := of_decide_eq_true (by first | (with_reducible assumption) | assumption)
      have q176 : a1 < (l2.length : Int) := of_decide_eq_true (by first | (with_reducible assumption) | assumption)
      obtain ⟨ad176, e176, hx176_0⟩ := Kd.at_int (Kd.R_reads' HO2.out).2.2 a1 p176 q176
      obtain rfl : ad175 = ad176 := (by injection e176)
      replace p176 := eq_true p176
      replace q176 := eq_true q176
      have p10 : 0 ≤ (a1 : Int) := of_decide_eq_true (by first | (with_reducible assumption) | assumption)
      have q10 : (a1 : Int) < ((l2.length : Int) : Int) := of_decide_eq_true (by first | (with_reducible assumption) | assumption)
      obtain ⟨go10, co10, eo10, gb10, gl10, cl10, HG10⟩ := Kd.R_form HO2.out (by omega)
      (first | cases eo10 | (injection eo10 with ea_ en_ ec_; (first | subst ea_ | (injection ea_ with ea_; subst ea_)); subst ec_; clear en_))
      have GB10 := Aside0.mk gb10
      have GG10 := Aside0.mk HG10
      clear gb10 gl10 HG10
      have HMgo10 := Aside0.mk (show (P2_ go10 ∨ w.heap.size ≤ go10) from (HO2.out.1 _ rfl))
      (first | simp only [add_plain] at hx175_0 | skip)
      (first | simp only [add_plain] at hx176_0 | skip)
      obtain ⟨hx10_0, hf10_0⟩ := Kd.R_celln 0 HO2.out (a1 : Int) p10 q10
      replace p10 := eq_true p10
      replace q10 := eq_true q10
      have HP14 := Kd.R_putg HO2.out (a1 : Int) 1
      go_enter Try.func44, Try.ntmps44
      go_upto_block 0 with (first | ((with_reducible refine gate_store (t := 3) (p := 22) rfl ?_); refine store_event (t := 3) (p := 22) (v := ?vo_w15) (w1 := (w.setCell ⟨go10, (a1 : Int).toNat, none⟩ (.int .i64 1))) ?hg ?ho ?hn ?hr ?_; (case ho => rfl); (case hg => rfl); (case hn => rfl); (case hr => first | (go_simp; done) | (go_simp; rfl)); intro w15 hw; have hg : w.grownBy w15 (some go10) := (by rw [hw]; exact HP14.2); have hp_ : Kd.R (Kd.int .i64) 3 w15 w0.heap.size (fun k_ => (P2_ k_ ∨ w.heap.size ≤ k_)) (.slice (some ⟨go10, 0, none⟩) l2.length co13) y177 := (by rw [hw, Ny177.out]; exact HP14.1); clear HP14; have n0_ := Aside0.mk (hp_); have n1_ := Aside0.mk ((by rw [hw]; exact below_set (HB.out) GB10.out : Below w0.heap.size w0 w15)); have n2_ := Aside0.mk (Kept.of_grown (S := (fun k_ => P2_ k_)) hg (by repeat (first | (with_reducible first | exact HK.out | apply Kept.alloc | apply Kept.drewN | apply Kept.drew) | exact HK.out)) (fun k_ e_ => (HO2.out.1 k_ e_))); clear HO2; clear HB; clear HK; have HO2 := n0_; have HB := n1_; have HK := n2_; clear n0_ n1_ n2_; clear hg hw hp_; have p178 : 0 ≤ (a1 : Int) := of_decide_eq_true (by first | (with_reducible assumption) | assumption); have q178 : a1 < (l0.length : Int) := of_decide_eq_true (by first | (with_reducible assumption) | assumption); obtain ⟨ad178, A178_6, c178_6, A178_7, c178_7, e178, hx178_0, hx178_1, hx178_2, hx178_3, hx178_4, hx178_5, hx178_6, hx178_7, hx178_8, hx178_9, hl178_6, hi178_6, hl178_7, hi178_7⟩ := at_T40 (Kd.C_kept_now HR0.out HK.out) a1 p178 q178; cases e178; have HR178_6 := Aside0.mk hi178_6; have HC178_6 := Aside0.mk hl178_6; clear hi178_6 hl178_6; have HR178_7 := Aside0.mk hi178_7; have HC178_7 := Aside0.mk hl178_7; clear hi178_7 hl178_7; replace p178 := eq_true p178; replace q178 := eq_true q178))
      (try simp only [Act.put, List.setIfInBounds_toArray, List.set_cons_zero, List.set_cons_succ])
      go_cut [7] (fun v7 wc => ∃ (kq : Nat) (x7_11 : List Int), Aside0 (spinetref13_round.j3 kq l0 a1 y177 x7_11 = some (r1, r2)) ∧ Aside0 (kq ≤ k) ∧ Aside0 (Kd.R (Kd.int .i64) 3 wc w0.heap.size (fun k_ => (P2_ k_ ∨ w.heap.size ≤ k_) ∧ some k_ ≠ (v7 : Value).ownBlock) (.slice (some ⟨go10, 0, none⟩) l2.length co13) y177) ∧ Aside0 (Kd.R (Kd.int .i64) 3 wc w0.heap.size (fun k_ => (P2_ k_ ∨ w.heap.size ≤ k_) ∧ some k_ ≠ ((.slice (some ⟨go10, 0, none⟩) l2.length co13) : Value).ownBlock) v7 x7_11) ∧ Aside0 (Kept w wc (fun k_ => P2_ k_)) ∧ Aside0 (Below w0.heap.size w0 wc))
      case first =>
       have H := HC12.out
       clear HC12
       have HC16 := Aside0.mk H
       clear H
       go_upto_if 28 with (fail)
       go_cut [28] (fun v28 wc => ∃ (kq : Nat) (x28_15 : Bool), v28 = .bool x28_15 ∧ Aside0 (spinetref13_round.j0 kq l0 a1 y177 ([] : List Int) ((rd_T40 l0 a1).f0) x28_15 = some (r1, r2)) ∧ Aside0 (kq ≤ k) ∧ Aside0 (Kd.R (Kd.int .i64) 3 wc w0.heap.size (fun k_ => (P2_ k_ ∨ w.heap.size ≤ k_) ∧ some k_ ≠ ((.slice none 0 0) : Value).ownBlock) (.slice (some ⟨go10, 0, none⟩) l2.length co13) y177) ∧ Aside0 (Kd.R (Kd.int .i64) 3 wc w0.heap.size (fun k_ => (P2_ k_ ∨ w.heap.size ≤ k_) ∧ some k_ ≠ ((.slice (some ⟨go10, 0, none⟩) l2.length co13) : Value).ownBlock) (.slice none 0 0) ([] : List Int)) ∧ Aside0 (Kd.C k42 wc A178_6 ((rd_T40 l0 a1).f6).length ((rd_T40 l0 a1).f6)) ∧ Aside0 (Kd.C k47 wc A178_7 ((rd_T40 l0 a1).f7).length ((rd_T40 l0 a1).f7)) ∧ Aside0 (Kept w wc (fun k_ => P2_ k_)) ∧ Aside0 (Below w0.heap.size w0 wc))
       case first =>
        have H := HC16.out
        clear HC16
        by_cases c17 : ((rd_T40 l0 a1).f0) = 7
        ·
         rw [if_pos c17] at H
         have c17b0 : (((rd_T40 l0 a1).f0) == 7) = true := beq_iff_eq.mpr c17
         have c17b1 : (((rd_T40 l0 a1).f0) != 7) = false := bne_eq_false_iff_eq.mpr c17
         clear c17
         (first | rw [c17b0] | (simp only [i64_w, i32_w]; rw [c17b0]) | skip)
         have H' := Aside0.mk H
         clear H
         go_wp2
         go_meet
         case rel => exact ⟨_, ((((rd_T40 l0 a1).f0) == 7)), (by first | rfl | (simp; done) | (simp [*]; done)), H', ⟨by first | omega | exact Nat.le_refl _⟩, ⟨by (with_reducible repeat (first | apply Kd.R_alloc | apply Kd.R_drewN | apply Kd.R_drew)); exact Kd.R_mono HO2.out (fun _ hk => ⟨hk, (by simp [Value.ownBlock])⟩)⟩, ⟨by first | exact Kd.R_nil _ _ _ _ _ | exact Kd.N_nil _ _ _ _ _ | exact Kd.V_nil _ _ _ _ _ | exact Kd.Q_nil _ _ _ _ _ | exact Kd.S_nil _ _ _ _ _⟩, ⟨by repeat (first | (with_reducible exact HR178_6.out) | (with_reducible refine Kd.C_alloc ?_ _) | (with_reducible refine Kd.C_drewN ?_ _) | (with_reducible refine Kd.C_drew ?_) | exact HR178_6.out)⟩, ⟨by repeat (first | (with_reducible exact HR178_7.out) | (with_reducible refine Kd.C_alloc ?_ _) | (with_reducible refine Kd.C_drewN ?_ _) | (with_reducible refine Kd.C_drew ?_) | exact HR178_7.out)⟩, ⟨by repeat (first | (with_reducible first | exact HK.out | apply Kept.alloc | apply Kept.drewN | apply Kept.drew) | exact HK.out)⟩, ⟨by repeat (first | (with_reducible first | exact HB.out | apply below_alloc | apply pw_below_drewN | apply below_drew1) | exact HB.out)⟩⟩
        ·
         rw [if_neg c17] at H
         have c17b0 : (((rd_T40 l0 a1).f0) == 7) = false := beq_eq_false_iff_ne.mpr c17
         have c17b1 : (((rd_T40 l0 a1).f0) != 7) = true := bne_iff_ne.mpr c17
         (first | rw [c17b0] | (simp only [i64_w, i32_w]; rw [c17b0]) | skip)
         have H' := Aside0.mk H
         clear H
         go_wp2
         go_meet
         case rel => exact ⟨_, ((((rd_T40 l0 a1).f0) == 8)), (by first | rfl | (simp; done) | (simp [*]; done)), H', ⟨by first | omega | exact Nat.le_refl _⟩, ⟨by (with_reducible repeat (first | apply Kd.R_alloc | apply Kd.R_drewN | apply Kd.R_drew)); exact Kd.R_mono HO2.out (fun _ hk => ⟨hk, (by simp [Value.ownBlock])⟩)⟩, ⟨by first | exact Kd.R_nil _ _ _ _ _ | exact Kd.N_nil _ _ _ _ _ | exact Kd.V_nil _ _ _ _ _ | exact Kd.Q_nil _ _ _ _ _ | exact Kd.S_nil _ _ _ _ _⟩, ⟨by repeat (first | (with_reducible exact HR178_6.out) | (with_reducible refine Kd.C_alloc ?_ _) | (with_reducible refine Kd.C_drewN ?_ _) | (with_reducible refine Kd.C_drew ?_) | exact HR178_6.out)⟩, ⟨by repeat (first | (with_reducible exact HR178_7.out) | (with_reducible refine Kd.C_alloc ?_ _) | (with_reducible refine Kd.C_drewN ?_ _) | (with_reducible refine Kd.C_drew ?_) | exact HR178_7.out)⟩, ⟨by repeat (first | (with_reducible first | exact HK.out | apply Kept.alloc | apply Kept.drewN | apply Kept.drew) | exact HK.out)⟩, ⟨by repeat (first | (with_reducible first | exact HB.out | apply below_alloc | apply pw_below_drewN | apply below_drew1) | exact HB.out)⟩⟩
       case rest =>
        clear HC16
        try clear c1
        try clear p1
        try clear q1
        try clear hx1
        try clear p2
        try clear c4
        try clear c4b0
        try clear c5
        try clear c5b0
        try clear c6
        try clear c6b0
        try clear c6b1
        try clear c8
        try clear c8b0
        try clear c8b1
        try clear p10
        try clear q10
        try clear hx10
        try clear hf10
        try clear c11
        try clear c11b0
        try clear c17
        try clear c17b0
        try clear c17b1
        try clear p17
        try clear q17
        try clear hx17
        try clear hx10_0
        try clear hx175_0
        try clear hx176_0
        try clear hx178_0
        try clear hx178_1
        try clear hx178_2
        try clear hx178_3
        try clear hx178_4
        try clear hx178_5
        try clear hx178_6
        try clear hx178_7
        try clear hx178_8
        try clear hx178_9
        try clear p10
        try clear p175
        try clear p176
        try clear p178
        try clear q10
        try clear q175
        try clear q176
        try clear q178
        obtain ⟨kq, x28_15, rfl, HA, HJ15, HO_2, HO_7, HR178_6, HR178_7, HK, HB⟩ := hcut
        have hl2_15 := (Kd.R_reads' HO_2.out).1
        rw [hl2_15] at HO_2
        (try simp only [hl2_15])
        (try simp only [hl2_15] at HO_7)
        cases kq with
        | zero => exact absurd HA.out (by simp [spinetref13_round.j0])
        | succ kj15 =>
         have H := HA.out
         clear HA
         simp only [spinetref13_round.j0] at H
         by_cases c18 : x28_15 = true
         ·
          subst c18
          have H1 : (if 0 ≤ a1 then (if a1 < (l0.length : Int) then (spinetref13_round.j3 kj15 l0 a1 y177 (([(rd_T40 l0 a1).f4] : List Int))) else (none)) else (none)) = some (r1, r2) := by rw [if_pos rfl] at H; exact H
          clear H
          have H := H1
          clear H1
          by_cases c19 : 0 ≤ a1
          ·
           rw [if_pos c19] at H
           have c19b0 : decide (0 ≤ a1) = true := decide_eq_true c19
           clear c19
           by_cases c20 : a1 < (l0.length : Int)
           ·
            rw [if_pos c20] at H
            have c20b0 : decide (a1 < (l0.length : Int)) = true := decide_eq_true c20
            clear c20
            obtain ⟨y180, hy180⟩ : ∃ y_ : List Int, y_ = (([(rd_T40 l0 a1).f4] : List Int)) := ⟨_, rfl⟩
            replace H : (spinetref13_round.j3 kj15 l0 a1 y177 y180) = some (r1, r2) := by first | (rw [hy180]; with_reducible exact H) | (have H2_ := (Option.bind_some _ _).symm.trans H; rw [hy180]; with_reducible exact H2_) | (have H2_ := (Option.bind_some _ _).symm.trans H; with_reducible exact H2_) | with_reducible exact H | (rw [hy180]; exact H) | exact H
            have Ny180 := Aside0.mk hy180
            clear hy180
            have H' := Aside0.mk H
            clear H
            have p179 : 0 ≤ (a1 : Int) := of_decide_eq_true (by first | (with_reducible assumption) | assumption)
            have q179 : a1 < (l0.length : Int) := of_decide_eq_true (by first | (with_reducible assumption) | assumption)
            obtain ⟨ad179, A179_6, c179_6, A179_7, c179_7, e179, hx179_0, hx179_1, hx179_2, hx179_3, hx179_4, hx179_5, hx179_6, hx179_7, hx179_8, hx179_9, hl179_6, hi179_6, hl179_7, hi179_7⟩ := at_T40 (Kd.C_kept_now HR0.out HK.out) a1 p179 q179
            obtain rfl : ad178 = ad179 := (by injection e179)
            have HR179_6 := Aside0.mk hi179_6
            have HC179_6 := Aside0.mk hl179_6
            clear hi179_6 hl179_6
            have HR179_7 := Aside0.mk hi179_7
            have HC179_7 := Aside0.mk hl179_7
            clear hi179_7 hl179_7
            replace p179 := eq_true p179
            replace q179 := eq_true q179
            go_wp2_with (first | ((with_reducible refine gate_dst (N := 36) rfl ?_); refine Kd.R_lit (Kd.int .i64) _ 3 ?hg (N := 36) ?hd (xs := ([(rd_T40 l0 a1).f4] : List Int)) (inner := [.int .i64 ((rd_T40 l0 a1).f4)]) (ok := fun _ => True) (okp := fun _ => True) ?hr ?hp (fun _ hk => hk) trivial (Below.refl _ _) (Nat.le_refl _) (by simp) ?_; (case hd => rfl); (case hg => rfl); (case hr => first | (go_simp; done) | (go_simp; rfl)); (case hp => exact (Reps.one (show Kd.M (Kd.int .i64) _ _ _ ((rd_T40 l0 a1).f4) [.int .i64 ((rd_T40 l0 a1).f4)] from rfl) (Reps.none _ _))); intro v181 w21 ho22 hb hg_ hnew_; clear hg_ hnew_; (first | rw [← Ny180.out] at ho22 | (simp only [Int.reduceToNat] at ho22; rw [← Ny180.out] at ho22)); have n0_ := Aside0.mk (Kd.R_elder' (by (with_reducible repeat (first | apply Kd.R_alloc | apply Kd.R_drewN | apply Kd.R_drew)); exact HO_2.out) (Kd.R_base ho22) hb); have n1_ := Aside0.mk (Kd.R_elder' (by (with_reducible repeat (first | apply Kd.R_alloc | apply Kd.R_drewN | apply Kd.R_drew)); exact HO_7.out) (Kd.R_base ho22) hb); have n2_ := Aside0.mk (Kd.R_lower (Kd.R_new' (Kd.R_new' (Kd.R_newM (M := fun k_ => (P2_ k_ ∨ w.heap.size ≤ k_)) ho22 (by first | exact HK.out.1 | exact (show Kept w _ (fun k_ => P2_ k_) from by repeat (first | (with_reducible first | exact HK.out | apply Kept.alloc | apply Kept.drewN | apply Kept.drew) | exact HK.out)).1) (fun k_ h_ => .inr h_)) (Kd.R_lt (by (with_reducible repeat (first | apply Kd.R_alloc | apply Kd.R_drewN | apply Kd.R_drew)); exact HO_2.out))) (Kd.R_lt (by (with_reducible repeat (first | apply Kd.R_alloc | apply Kd.R_drewN | apply Kd.R_drew)); exact HO_7.out))) (below_size (by repeat (first | (with_reducible first | exact HB.out | apply below_alloc | apply pw_below_drewN | apply below_drew1) | exact HB.out)))); have n3_ := Aside0.mk (Kd.C_below (by repeat (first | (with_reducible exact HR178_6.out) | (with_reducible refine Kd.C_alloc ?_ _) | (with_reducible refine Kd.C_drewN ?_ _) | (with_reducible refine Kd.C_drew ?_) | exact HR178_6.out)) hb); have n4_ := Aside0.mk (Kd.C_below (by repeat (first | (with_reducible exact HR178_7.out) | (with_reducible refine Kd.C_alloc ?_ _) | (with_reducible refine Kd.C_drewN ?_ _) | (with_reducible refine Kd.C_drew ?_) | exact HR178_7.out)) hb); have n5_ := Aside0.mk (Kd.C_below (by repeat (first | (with_reducible exact HR179_6.out) | (with_reducible refine Kd.C_alloc ?_ _) | (with_reducible refine Kd.C_drewN ?_ _) | (with_reducible refine Kd.C_drew ?_) | exact HR179_6.out)) hb); have n6_ := Aside0.mk (Kd.C_below (by repeat (first | (with_reducible exact HR179_7.out) | (with_reducible refine Kd.C_alloc ?_ _) | (with_reducible refine Kd.C_drewN ?_ _) | (with_reducible refine Kd.C_drew ?_) | exact HR179_7.out)) hb); have n7_ := Aside0.mk (Kept.below (S := (fun k_ => P2_ k_)) (by repeat (first | (with_reducible first | exact HK.out | apply Kept.alloc | apply Kept.drewN | apply Kept.drew) | exact HK.out)) hb); have n8_ := Aside0.mk (below_step (by repeat (first | (with_reducible first | exact HB.out | apply below_alloc | apply pw_below_drewN | apply below_drew1) | exact HB.out)) hb); clear HO_2; clear HO_7; clear HR178_6; clear HR178_7; clear HR179_6; clear HR179_7; clear HK; clear HB; have HO_2 := n0_; have HO_7 := n1_; have HO182 := n2_; have HR178_6 := n3_; have HR178_7 := n4_; have HR179_6 := n5_; have HR179_7 := n6_; have HK := n7_; have HB := n8_; clear n0_ n1_ n2_ n3_ n4_ n5_ n6_ n7_ n8_; clear hb ho22))
            (try simp only [← hl2_15])
            go_meet
            case rel => exact ⟨_, (y180), H', ⟨by have := HJ15.out; first | omega | exact Nat.le_refl _⟩, ⟨by (try simp only [hl2_15]); (with_reducible repeat (first | apply Kd.R_alloc | apply Kd.R_drewN | apply Kd.R_drew)); exact Kd.R_mono HO_2.out (fun _ hk => ⟨hk.1.1, hk.2⟩)⟩, ⟨by (try simp only [hl2_15]); (with_reducible repeat (first | apply Kd.R_alloc | apply Kd.R_drewN | apply Kd.R_drew)); exact Kd.R_mono HO182.out (fun _ hk => ⟨hk.1.1.1, hk.1.2⟩)⟩, ⟨by repeat (first | (with_reducible first | exact HK.out | apply Kept.alloc | apply Kept.drewN | apply Kept.drew) | exact HK.out)⟩, ⟨by repeat (first | (with_reducible first | exact HB.out | apply below_alloc | apply pw_below_drewN | apply below_drew1) | exact HB.out)⟩⟩
           ·
            rw [if_neg c20] at H
            exact absurd H (by simp)
          ·
           rw [if_neg c19] at H
           exact absurd H (by simp)
         ·
          replace c18 := Bool.eq_false_iff.mpr c18
          subst c18
          have H1 : (if ((rd_T40 l0 a1).f0) = 9 then (if 0 ≤ a1 then (if a1 < (l0.length : Int) then (if ((rd_T40 l0 a1).f5) = 0 then (spinetref13_round.j1 kj15 l0 a1 y177 ([] : List Int)) else (spinetref13_round.j1 kj15 l0 a1 y177 (([(rd_T40 l0 a1).f5] : List Int)))) else (none)) else (none)) else (spinetref13_round.j3 kj15 l0 a1 y177 ([] : List Int))) = some (r1, r2) := by rw [if_neg (show ¬ (false = true) by decide)] at H; exact H
          clear H
          have H := H1
          clear H1
          by_cases c23 : ((rd_T40 l0 a1).f0) = 9
          ·
           rw [if_pos c23] at H
           have c23b0 : (((rd_T40 l0 a1).f0) == 9) = true := beq_iff_eq.mpr c23
           have c23b1 : (((rd_T40 l0 a1).f0) != 9) = false := bne_eq_false_iff_eq.mpr c23
           clear c23
           by_cases c24 : 0 ≤ a1
           ·
            rw [if_pos c24] at H
            have c24b0 : decide (0 ≤ a1) = true := decide_eq_true c24
            clear c24
            by_cases c25 : a1 < (l0.length : Int)
            ·
             rw [if_pos c25] at H
             have c25b0 : decide (a1 < (l0.length : Int)) = true := decide_eq_true c25
             clear c25
             have HC26 := Aside0.mk H
             clear H
             have p183 : 0 ≤ (a1 : Int) := of_decide_eq_true (by first | (with_reducible assumption) | assumption)
             have q183 : a1 < (l0.length : Int) := of_decide_eq_true (by first | (with_reducible assumption) | assumption)
             obtain ⟨ad183, A183_6, c183_6, A183_7, c183_7, e183, hx183_0, hx183_1, hx183_2, hx183_3, hx183_4, hx183_5, hx183_6, hx183_7, hx183_8, hx183_9, hl183_6, hi183_6, hl183_7, hi183_7⟩ := at_T40 (Kd.C_kept_now HR0.out HK.out) a1 p183 q183
             obtain rfl : ad178 = ad183 := (by injection e183)
             have HR183_6 := Aside0.mk hi183_6
             have HC183_6 := Aside0.mk hl183_6
             clear hi183_6 hl183_6
             have HR183_7 := Aside0.mk hi183_7
             have HC183_7 := Aside0.mk hl183_7
             clear hi183_7 hl183_7
             replace p183 := eq_true p183
             replace q183 := eq_true q183
             go_upto_if 44 with (fail)
             go_cut [7] (fun v7 wc => ∃ (kq : Nat) (x7_25 : List Int), Aside0 (spinetref13_round.j1 kq l0 a1 y177 x7_25 = some (r1, r2)) ∧ Aside0 (kq ≤ kj15) ∧ Aside0 (Kd.R (Kd.int .i64) 3 wc w0.heap.size (fun k_ => (P2_ k_ ∨ w.heap.size ≤ k_) ∧ some k_ ≠ (v7 : Value).ownBlock) (.slice (some ⟨go10, 0, none⟩) y177.length co13) y177) ∧ Aside0 (Kd.R (Kd.int .i64) 3 wc w0.heap.size (fun k_ => (P2_ k_ ∨ w.heap.size ≤ k_) ∧ some k_ ≠ ((.slice (some ⟨go10, 0, none⟩) y177.length co13) : Value).ownBlock) v7 x7_25) ∧ Aside0 (Kd.C k42 wc A178_6 ((rd_T40 l0 a1).f6).length ((rd_T40 l0 a1).f6)) ∧ Aside0 (Kd.C k47 wc A178_7 ((rd_T40 l0 a1).f7).length ((rd_T40 l0 a1).f7)) ∧ Aside0 (Kd.C k42 wc A183_6 ((rd_T40 l0 a1).f6).length ((rd_T40 l0 a1).f6)) ∧ Aside0 (Kd.C k47 wc A183_7 ((rd_T40 l0 a1).f7).length ((rd_T40 l0 a1).f7)) ∧ Aside0 (Kept w wc (fun k_ => P2_ k_)) ∧ Aside0 (Below w0.heap.size w0 wc))
             case first =>
              have H := HC26.out
              clear HC26
              by_cases c27 : ((rd_T40 l0 a1).f5) = 0
              ·
               rw [if_pos c27] at H
               have c27b0 : (((rd_T40 l0 a1).f5) == 0) = true := beq_iff_eq.mpr c27
               have c27b1 : (((rd_T40 l0 a1).f5) != 0) = false := bne_eq_false_iff_eq.mpr c27
               clear c27
               (first | rw [c27b0] | (simp only [i64_w, i32_w]; rw [c27b0]) | skip)
               have H' := Aside0.mk H
               clear H
               go_wp2
               go_meet
               case rel => exact ⟨_, (([] : List Int)), H', ⟨by have := HJ15.out; first | omega | exact Nat.le_refl _⟩, ⟨by (try simp only [hl2_15]); (with_reducible repeat (first | apply Kd.R_alloc | apply Kd.R_drewN | apply Kd.R_drew)); exact HO_2.out⟩, ⟨by (try simp only [hl2_15]); (with_reducible repeat (first | apply Kd.R_alloc | apply Kd.R_drewN | apply Kd.R_drew)); exact HO_7.out⟩, ⟨by repeat (first | (with_reducible exact HR178_6.out) | (with_reducible refine Kd.C_alloc ?_ _) | (with_reducible refine Kd.C_drewN ?_ _) | (with_reducible refine Kd.C_drew ?_) | exact HR178_6.out)⟩, ⟨by repeat (first | (with_reducible exact HR178_7.out) | (with_reducible refine Kd.C_alloc ?_ _) | (with_reducible refine Kd.C_drewN ?_ _) | (with_reducible refine Kd.C_drew ?_) | exact HR178_7.out)⟩, ⟨by repeat (first | (with_reducible exact HR183_6.out) | (with_reducible refine Kd.C_alloc ?_ _) | (with_reducible refine Kd.C_drewN ?_ _) | (with_reducible refine Kd.C_drew ?_) | exact HR183_6.out)⟩, ⟨by repeat (first | (with_reducible exact HR183_7.out) | (with_reducible refine Kd.C_alloc ?_ _) | (with_reducible refine Kd.C_drewN ?_ _) | (with_reducible refine Kd.C_drew ?_) | exact HR183_7.out)⟩, ⟨by repeat (first | (with_reducible first | exact HK.out | apply Kept.alloc | apply Kept.drewN | apply Kept.drew) | exact HK.out)⟩, ⟨by repeat (first | (with_reducible first | exact HB.out | apply below_alloc | apply pw_below_drewN | apply below_drew1) | exact HB.out)⟩⟩
              ·
               rw [if_neg c27] at H
               have c27b0 : (((rd_T40 l0 a1).f5) == 0) = false := beq_eq_false_iff_ne.mpr c27
               have c27b1 : (((rd_T40 l0 a1).f5) != 0) = true := bne_iff_ne.mpr c27
               (first | rw [c27b0] | (simp only [i64_w, i32_w]; rw [c27b0]) | skip)
               obtain ⟨y185, hy185⟩ : ∃ y_ : List Int, y_ = (([(rd_T40 l0 a1).f5] : List Int)) := ⟨_, rfl⟩
               replace H : (spinetref13_round.j1 kj15 l0 a1 y177 y185) = some (r1, r2) := by first | (rw [hy185]; with_reducible exact H) | (have H2_ := (Option.bind_some _ _).symm.trans H; rw [hy185]; with_reducible exact H2_) | (have H2_ := (Option.bind_some _ _).symm.trans H; with_reducible exact H2_) | with_reducible exact H | (rw [hy185]; exact H) | exact H
               have Ny185 := Aside0.mk hy185
               clear hy185
               have H' := Aside0.mk H
               clear H
               have p184 : 0 ≤ (a1 : Int) := of_decide_eq_true (by first | (with_reducible assumption) | assumption)
               have q184 : a1 < (l0.length : Int) := of_decide_eq_true (by first | (with_reducible assumption) | assumption)
               obtain ⟨ad184, A184_6, c184_6, A184_7, c184_7, e184, hx184_0, hx184_1, hx184_2, hx184_3, hx184_4, hx184_5, hx184_6, hx184_7, hx184_8, hx184_9, hl184_6, hi184_6, hl184_7, hi184_7⟩ := at_T40 (Kd.C_kept_now HR0.out HK.out) a1 p184 q184
               obtain rfl : ad178 = ad184 := (by injection e184)
               have HR184_6 := Aside0.mk hi184_6
               have HC184_6 := Aside0.mk hl184_6
               clear hi184_6 hl184_6
               have HR184_7 := Aside0.mk hi184_7
               have HC184_7 := Aside0.mk hl184_7
               clear hi184_7 hl184_7
               replace p184 := eq_true p184
               replace q184 := eq_true q184
               go_wp2_with (first | ((with_reducible refine gate_dst (N := 50) rfl ?_); refine Kd.R_lit (Kd.int .i64) _ 3 ?hg (N := 50) ?hd (xs := ([(rd_T40 l0 a1).f5] : List Int)) (inner := [.int .i64 ((rd_T40 l0 a1).f5)]) (ok := fun _ => True) (okp := fun _ => True) ?hr ?hp (fun _ hk => hk) trivial (Below.refl _ _) (Nat.le_refl _) (by simp) ?_; (case hd => rfl); (case hg => rfl); (case hr => first | (go_simp; done) | (go_simp; rfl)); (case hp => exact (Reps.one (show Kd.M (Kd.int .i64) _ _ _ ((rd_T40 l0 a1).f5) [.int .i64 ((rd_T40 l0 a1).f5)] from rfl) (Reps.none _ _))); intro v186 w28 ho29 hb hg_ hnew_; clear hg_ hnew_; (first | rw [← Ny185.out] at ho29 | (simp only [Int.reduceToNat] at ho29; rw [← Ny185.out] at ho29)); have n0_ := Aside0.mk (Kd.R_elder' (by (with_reducible repeat (first | apply Kd.R_alloc | apply Kd.R_drewN | apply Kd.R_drew)); exact HO_2.out) (Kd.R_base ho29) hb); have n1_ := Aside0.mk (Kd.R_elder' (by (with_reducible repeat (first | apply Kd.R_alloc | apply Kd.R_drewN | apply Kd.R_drew)); exact HO_7.out) (Kd.R_base ho29) hb); have n2_ := Aside0.mk (Kd.R_lower (Kd.R_new' (Kd.R_new' (Kd.R_newM (M := fun k_ => (P2_ k_ ∨ w.heap.size ≤ k_)) ho29 (by first | exact HK.out.1 | exact (show Kept w _ (fun k_ => P2_ k_) from by repeat (first | (with_reducible first | exact HK.out | apply Kept.alloc | apply Kept.drewN | apply Kept.drew) | exact HK.out)).1) (fun k_ h_ => .inr h_)) (Kd.R_lt (by (with_reducible repeat (first | apply Kd.R_alloc | apply Kd.R_drewN | apply Kd.R_drew)); exact HO_2.out))) (Kd.R_lt (by (with_reducible repeat (first | apply Kd.R_alloc | apply Kd.R_drewN | apply Kd.R_drew)); exact HO_7.out))) (below_size (by repeat (first | (with_reducible first | exact HB.out | apply below_alloc | apply pw_below_drewN | apply below_drew1) | exact HB.out)))); have n3_ := Aside0.mk (Kd.C_below (by repeat (first | (with_reducible exact HR178_6.out) | (with_reducible refine Kd.C_alloc ?_ _) | (with_reducible refine Kd.C_drewN ?_ _) | (with_reducible refine Kd.C_drew ?_) | exact HR178_6.out)) hb); have n4_ := Aside0.mk (Kd.C_below (by repeat (first | (with_reducible exact HR178_7.out) | (with_reducible refine Kd.C_alloc ?_ _) | (with_reducible refine Kd.C_drewN ?_ _) | (with_reducible refine Kd.C_drew ?_) | exact HR178_7.out)) hb); have n5_ := Aside0.mk (Kd.C_below (by repeat (first | (with_reducible exact HR183_6.out) | (with_reducible refine Kd.C_alloc ?_ _) | (with_reducible refine Kd.C_drewN ?_ _) | (with_reducible refine Kd.C_drew ?_) | exact HR183_6.out)) hb); have n6_ := Aside0.mk (Kd.C_below (by repeat (first | (with_reducible exact HR183_7.out) | (with_reducible refine Kd.C_alloc ?_ _) | (with_reducible refine Kd.C_drewN ?_ _) | (with_reducible refine Kd.C_drew ?_) | exact HR183_7.out)) hb); have n7_ := Aside0.mk (Kd.C_below (by repeat (first | (with_reducible exact HR184_6.out) | (with_reducible refine Kd.C_alloc ?_ _) | (with_reducible refine Kd.C_drewN ?_ _) | (with_reducible refine Kd.C_drew ?_) | exact HR184_6.out)) hb); have n8_ := Aside0.mk (Kd.C_below (by repeat (first | (with_reducible exact HR184_7.out) | (with_reducible refine Kd.C_alloc ?_ _) | (with_reducible refine Kd.C_drewN ?_ _) | (with_reducible refine Kd.C_drew ?_) | exact HR184_7.out)) hb); have n9_ := Aside0.mk (Kept.below (S := (fun k_ => P2_ k_)) (by repeat (first | (with_reducible first | exact HK.out | apply Kept.alloc | apply Kept.drewN | apply Kept.drew) | exact HK.out)) hb); have n10_ := Aside0.mk (below_step (by repeat (first | (with_reducible first | exact HB.out | apply below_alloc | apply pw_below_drewN | apply below_drew1) | exact HB.out)) hb); clear HO_2; clear HO_7; clear HR178_6; clear HR178_7; clear HR183_6; clear HR183_7; clear HR184_6; clear HR184_7; clear HK; clear HB; have HO_2 := n0_; have HO_7 := n1_; have HO187 := n2_; have HR178_6 := n3_; have HR178_7 := n4_; have HR183_6 := n5_; have HR183_7 := n6_; have HR184_6 := n7_; have HR184_7 := n8_; have HK := n9_; have HB := n10_; clear n0_ n1_ n2_ n3_ n4_ n5_ n6_ n7_ n8_ n9_ n10_; clear hb ho29))
               go_meet
               case rel => exact ⟨_, (y185), H', ⟨by have := HJ15.out; first | omega | exact Nat.le_refl _⟩, ⟨by (try simp only [hl2_15]); (with_reducible repeat (first | apply Kd.R_alloc | apply Kd.R_drewN | apply Kd.R_drew)); exact Kd.R_mono HO_2.out (fun _ hk => ⟨hk.1.1, hk.2⟩)⟩, ⟨by (try simp only [hl2_15]); (with_reducible repeat (first | apply Kd.R_alloc | apply Kd.R_drewN | apply Kd.R_drew)); exact Kd.R_mono HO187.out (fun _ hk => ⟨hk.1.1.1, hk.1.2⟩)⟩, ⟨by repeat (first | (with_reducible exact HR178_6.out) | (with_reducible refine Kd.C_alloc ?_ _) | (with_reducible refine Kd.C_drewN ?_ _) | (with_reducible refine Kd.C_drew ?_) | exact HR178_6.out)⟩, ⟨by repeat (first | (with_reducible exact HR178_7.out) | (with_reducible refine Kd.C_alloc ?_ _) | (with_reducible refine Kd.C_drewN ?_ _) | (with_reducible refine Kd.C_drew ?_) | exact HR178_7.out)⟩, ⟨by repeat (first | (with_reducible exact HR183_6.out) | (with_reducible refine Kd.C_alloc ?_ _) | (with_reducible refine Kd.C_drewN ?_ _) | (with_reducible refine Kd.C_drew ?_) | exact HR183_6.out)⟩, ⟨by repeat (first | (with_reducible exact HR183_7.out) | (with_reducible refine Kd.C_alloc ?_ _) | (with_reducible refine Kd.C_drewN ?_ _) | (with_reducible refine Kd.C_drew ?_) | exact HR183_7.out)⟩, ⟨by repeat (first | (with_reducible first | exact HK.out | apply Kept.alloc | apply Kept.drewN | apply Kept.drew) | exact HK.out)⟩, ⟨by repeat (first | (with_reducible first | exact HB.out | apply below_alloc | apply pw_below_drewN | apply below_drew1) | exact HB.out)⟩⟩
             case rest =>
              clear HC26
              try clear c1
              try clear p1
              try clear q1
              try clear hx1
              try clear c2
              try clear p2
              try clear c4
              try clear c4b0
              try clear c5
              try clear c5b0
              try clear c6
              try clear c6b0
              try clear c6b1
              try clear c8
              try clear c8b0
              try clear c8b1
              try clear p10
              try clear q10
              try clear hx10
              try clear hf10
              try clear c11
              try clear c11b0
              try clear c17
              try clear c17b0
              try clear c17b1
              try clear p17
              try clear q17
              try clear hx17
              try clear c18
              try clear p18
              try clear q18
              try clear hx18
              try clear c19
              try clear c19b0
              try clear c20
              try clear c20b0
              try clear c23
              try clear c23b0
              try clear c23b1
              try clear c24
              try clear c24b0
              try clear c25
              try clear c25b0
              try clear c27
              try clear c27b0
              try clear c27b1
              try clear hx10_0
              try clear hx175_0
              try clear hx176_0
              try clear hx178_0
              try clear hx178_1
              try clear hx178_2
              try clear hx178_3
              try clear hx178_4
              try clear hx178_5
              try clear hx178_6
              try clear hx178_7
              try clear hx178_8
              try clear hx178_9
              try clear hx179_0
              try clear hx179_1
              try clear hx179_2
              try clear hx179_3
              try clear hx179_4
              try clear hx179_5
              try clear hx179_6
              try clear hx179_7
              try clear hx179_8
              try clear hx179_9
              try clear hx183_0
              try clear hx183_1
              try clear hx183_2
              try clear hx183_3
              try clear hx183_4
              try clear hx183_5
              try clear hx183_6
              try clear hx183_7
              try clear hx183_8
              try clear hx183_9
              try clear hx184_0
              try clear hx184_1
              try clear hx184_2
              try clear hx184_3
              try clear hx184_4
              try clear hx184_5
              try clear hx184_6
              try clear hx184_7
              try clear hx184_8
              try clear hx184_9
              try clear p1
              try clear p10
              try clear p17
              try clear p175
              try clear p176
              try clear p178
              try clear p179
              try clear p183
              try clear p184
              try clear p2
              try clear q1
              try clear q10
              try clear q17
              try clear q175
              try clear q176
              try clear q178
              try clear q179
              try clear q183
              try clear q184
              obtain ⟨kq, x7_25, HA, HJ25, HO_2, HO_7, HR178_6, HR178_7, HR183_6, HR183_7, HK, HB⟩ := hcut
              cases kq with
              | zero => exact absurd HA.out (by simp [spinetref13_round.j1])
              | succ kj25 =>
               have H := HA.out
               clear HA
               simp only [spinetref13_round.j1] at H
               have H' := Aside0.mk H
               clear H
               go_wp2
               go_loopg [7, 8] kj25 (fun kq v7 v8 w' => ∃ (x7_3 : List Int) (x8_3 : Int), v8 = .int .i64 x8_3 ∧ Aside0 (spinetref13_round.l0 kq l0 a1 y177 x7_3 x8_3 = some (r1, r2)) ∧ Aside0 (kq ≤ kj25) ∧ Aside0 (Kd.R (Kd.int .i64) 3 w' w0.heap.size (fun k_ => (P2_ k_ ∨ w.heap.size ≤ k_) ∧ some k_ ≠ (v7 : Value).ownBlock) (.slice (some ⟨go10, 0, none⟩) y177.length co13) y177) ∧ Aside0 (Kd.R (Kd.int .i64) 3 w' w0.heap.size (fun k_ => (P2_ k_ ∨ w.heap.size ≤ k_) ∧ some k_ ≠ ((.slice (some ⟨go10, 0, none⟩) y177.length co13) : Value).ownBlock) v7 x7_3) ∧ Aside0 (Kept w w' (fun k_ => P2_ k_)) ∧ Aside0 (Below w0.heap.size w0 w'))
               case atStart => exact ⟨(x7_25), (0), (by first | rfl | (simp; done) | (simp [*]; done)), H', ⟨Nat.le_refl _⟩, ⟨by (try simp only [hl2_15]); (with_reducible repeat (first | apply Kd.R_alloc | apply Kd.R_drewN | apply Kd.R_drew)); exact HO_2.out⟩, ⟨by (try simp only [hl2_15]); (with_reducible repeat (first | apply Kd.R_alloc | apply Kd.R_drewN | apply Kd.R_drew)); exact HO_7.out⟩, ⟨by repeat (first | (with_reducible first | exact HK.out | apply Kept.alloc | apply Kept.drewN | apply Kept.drew) | exact HK.out)⟩, ⟨by repeat (first | (with_reducible first | exact HB.out | apply below_alloc | apply pw_below_drewN | apply below_drew1) | exact HB.out)⟩⟩
               case round =>
                clear H'
                try clear c1
                try clear p1
                try clear q1
                try clear hx1
                try clear c2
                try clear p2
                try clear c4
                try clear c4b0
                try clear c5
                try clear c5b0
                try clear c6
                try clear c6b0
                try clear c6b1
                try clear c8
                try clear c8b0
                try clear c8b1
                try clear p10
                try clear q10
                try clear hx10
                try clear hf10
                try clear c11
                try clear c11b0
                try clear c17
                try clear c17b0
                try clear c17b1
                try clear p17
                try clear q17
                try clear hx17
                try clear c18
                try clear p18
                try clear q18
                try clear hx18
                try clear c19
                try clear c19b0
                try clear c20
                try clear c20b0
                try clear c23
                try clear c23b0
                try clear c23b1
                try clear c24
                try clear c24b0
                try clear c25
                try clear c25b0
                try clear c27
                try clear c27b0
                try clear c27b1
                try clear hx10_0
                try clear hx175_0
                try clear hx176_0
                try clear hx178_0
                try clear hx178_1
                try clear hx178_2
                try clear hx178_3
                try clear hx178_4
                try clear hx178_5
                try clear hx178_6
                try clear hx178_7
                try clear hx178_8
                try clear hx178_9
                try clear hx179_0
                try clear hx179_1
                try clear hx179_2
                try clear hx179_3
                try clear hx179_4
                try clear hx179_5
                try clear hx179_6
                try clear hx179_7
                try clear hx179_8
                try clear hx179_9
                try clear hx183_0
                try clear hx183_1
                try clear hx183_2
                try clear hx183_3
                try clear hx183_4
                try clear hx183_5
                try clear hx183_6
                try clear hx183_7
                try clear hx183_8
                try clear hx183_9
                try clear hx184_0
                try clear hx184_1
                try clear hx184_2
                try clear hx184_3
                try clear hx184_4
                try clear hx184_5
                try clear hx184_6
                try clear hx184_7
                try clear hx184_8
                try clear hx184_9
                try clear p1
                try clear p10
                try clear p17
                try clear p175
                try clear p176
                try clear p178
                try clear p179
                try clear p18
                try clear p183
                try clear p184
                try clear p2
                try clear q1
                try clear q10
                try clear q17
                try clear q175
                try clear q176
                try clear q178
                try clear q179
                try clear q18
                try clear q183
                try clear q184
                obtain ⟨x7_3, x8_3, rfl, HA, HK3, HO_2, HO_7, HK, HB⟩ := hrel
                cases gk with
                | zero => exact absurd HA.out (by simp [spinetref13_round.l0])
                | succ k3 =>
                 have H := HA.out
                 clear HA
                 simp only [spinetref13_round.l0] at H
                 by_cases c30 : 0 ≤ a1
                 ·
                  rw [if_pos c30] at H
                  have c30b0 : decide (0 ≤ a1) = true := decide_eq_true c30
                  clear c30
                  by_cases c31 : a1 < (l0.length : Int)
                  ·
                   rw [if_pos c31] at H
                   have c31b0 : decide (a1 < (l0.length : Int)) = true := decide_eq_true c31
                   clear c31
                   by_cases c32 : x8_3 < (((rd_T40 l0 a1).f6).length : Int)
                   ·
                    rw [if_pos c32] at H
                    have c32b0 : decide (x8_3 < (((rd_T40 l0 a1).f6).length : Int)) = true := decide_eq_true c32
                    clear c32
                    by_cases c33 : 0 ≤ x8_3
                    ·
                     rw [if_pos c33] at H
                     have c33b0 : decide (0 ≤ x8_3) = true := decide_eq_true c33
                     clear c33
                     by_cases c34 : x7_3.length < 17592186044416
                     ·
                      rw [if_pos c34] at H
                      have LMc34 := Aside0.mk c34
                      clear c34
                      obtain ⟨y191, hy191⟩ : ∃ y_ : List Int, y_ = (x7_3 ++ [(rd_T42 ((rd_T40 l0 a1).f6) x8_3).f2]) := ⟨_, rfl⟩
                      replace H : (spinetref13_round.l0 k3 l0 a1 y177 y191 (wrap64 (x8_3 + 1))) = some (r1, r2) := by first | (rw [hy191]; with_reducible exact H) | (have H2_ := (Option.bind_some _ _).symm.trans H; rw [hy191]; with_reducible exact H2_) | (have H2_ := (Option.bind_some _ _).symm.trans H; with_reducible exact H2_) | with_reducible exact H | (rw [hy191]; exact H) | exact H
                      have Ny191 := Aside0.mk hy191
                      clear hy191
                      have H' := Aside0.mk H
                      clear H
                      have p188 : 0 ≤ (a1 : Int) := of_decide_eq_true (by first | (with_reducible assumption) | assumption)
                      have q188 : a1 < (l0.length : Int) := of_decide_eq_true (by first | (with_reducible assumption) | assumption)
                      obtain ⟨ad188, A188_6, c188_6, A188_7, c188_7, e188, hx188_0, hx188_1, hx188_2, hx188_3, hx188_4, hx188_5, hx188_6, hx188_7, hx188_8, hx188_9, hl188_6, hi188_6, hl188_7, hi188_7⟩ := at_T40 (Kd.C_kept_now HR0.out HK.out) a1 p188 q188
                      obtain rfl : ad178 = ad188 := (by injection e188)
                      have HR188_6 := Aside0.mk hi188_6
                      have HC188_6 := Aside0.mk hl188_6
                      clear hi188_6 hl188_6
                      have HR188_7 := Aside0.mk hi188_7
                      have HC188_7 := Aside0.mk hl188_7
                      clear hi188_7 hl188_7
                      replace p188 := eq_true p188
                      replace q188 := eq_true q188
                      have p189 : 0 ≤ (a1 : Int) := of_decide_eq_true (by first | (with_reducible assumption) | assumption)
                      have q189 : a1 < (l0.length : Int) := of_decide_eq_true (by first | (with_reducible assumption) | assumption)
                      obtain ⟨ad189, A189_6, c189_6, A189_7, c189_7, e189, hx189_0, hx189_1, hx189_2, hx189_3, hx189_4, hx189_5, hx189_6, hx189_7, hx189_8, hx189_9, hl189_6, hi189_6, hl189_7, hi189_7⟩ := at_T40 (Kd.C_kept_now HR0.out HK.out) a1 p189 q189
                      obtain rfl : ad178 = ad189 := (by injection e189)
                      have HR189_6 := Aside0.mk hi189_6
                      have HC189_6 := Aside0.mk hl189_6
                      clear hi189_6 hl189_6
                      have HR189_7 := Aside0.mk hi189_7
                      have HC189_7 := Aside0.mk hl189_7
                      clear hi189_7 hl189_7
                      replace p189 := eq_true p189
                      replace q189 := eq_true q189
                      have ea_ := Option.some.inj (hx188_6.symm.trans hx189_6)
                      injection ea_ with ea_ en_ ec_
                      subst ea_
                      subst ec_
                      clear en_
                      have ea_ := Option.some.inj (hx188_7.symm.trans hx189_7)
                      injection ea_ with ea_ en_ ec_
                      subst ea_
                      subst ec_
                      clear en_
                      have p190 : 0 ≤ (x8_3 : Int) := of_decide_eq_true (by first | (with_reducible assumption) | assumption)
                      have q190 : x8_3 < (((rd_T40 l0 a1).f6).length : Int) := of_decide_eq_true (by first | (with_reducible assumption) | assumption)
                      obtain ⟨ad190, e190, hx190_0, hx190_1, hx190_2⟩ := at_T42 (by repeat (first | (with_reducible exact HR189_6.out) | (with_reducible refine Kd.C_alloc ?_ _) | (with_reducible refine Kd.C_drewN ?_ _) | (with_reducible refine Kd.C_drew ?_) | exact HR189_6.out)) x8_3 p190 q190
                      cases e190
                      replace p190 := eq_true p190
                      replace q190 := eq_true q190
                      go_wp2_with (first | ((with_reducible refine gate_builtin (b := .append) (xs := #[.tmp 61, .tmp 71]) rfl ?_); at_builtin; refine Kd.R_append (Kd.int .i64) (w0 := w0) w0.heap.size rfl (.tmp 61) (.tmp 71) 32 3 (.int .i64 0) 8 rfl Try.underlying32 info3 rfl (by decide) (by omega) u7 x7_3 ((rd_T42 ((rd_T40 l0 a1).f6) x8_3).f2) [.int .i64 ((rd_T42 ((rd_T40 l0 a1).f6) x8_3).f2)] (fun k_ => (P2_ k_ ∨ w.heap.size ≤ k_) ∧ some k_ ≠ (.slice (some ⟨go10, 0, none⟩) y177.length co13 : Value).ownBlock) (fun _ => False) rfl rfl ?aP (fun _ hk => hk.elim) ?aF ?aO ?aB ?aS ?aL ?_; (case aP => exact rfl); (case aB => exact (by repeat (first | (with_reducible first | exact HB.out | apply below_alloc | apply pw_below_drewN | apply below_drew1) | exact HB.out))); (case aF => exact (fun k_ hk => ⟨(.inr (Nat.le_trans (by first | exact HK.out.1 | exact (show Kept w _ (fun k_ => P2_ k_) from by repeat (first | (with_reducible first | exact HK.out | apply Kept.alloc | apply Kept.drewN | apply Kept.drew) | exact HK.out)).1) hk)), Kd.fresh' (Kd.R_lt (by (with_reducible repeat (first | apply Kd.R_alloc | apply Kd.R_drewN | apply Kd.R_drew)); exact HO_2.out)) k_ hk⟩)); (case aO => exact (by (with_reducible repeat (first | apply Kd.R_alloc | apply Kd.R_drewN | apply Kd.R_drew)); exact HO_7.out)); (case aS => exact (below_size (by repeat (first | (with_reducible first | exact HB.out | apply below_alloc | apply pw_below_drewN | apply below_drew1) | exact HB.out)))); (case aL => have := LMc34.out; omega); intro v192 w35 ho hb hg hat; rw [← Ny191.out] at ho; have n0_ := Aside0.mk (Kd.R_after (ok := (fun k_ => (P2_ k_ ∨ w.heap.size ≤ k_))) (by (with_reducible repeat (first | apply Kd.R_alloc | apply Kd.R_drewN | apply Kd.R_drew)); exact HO_2.out) hg hat); have n1_ := Aside0.mk (hb); have n2_ := Aside0.mk (Kept.of_grown (S := (fun k_ => P2_ k_)) hg (by repeat (first | (with_reducible first | exact HK.out | apply Kept.alloc | apply Kept.drewN | apply Kept.drew) | exact HK.out)) (fun k_ e_ => (HO_7.out.1 k_ e_).1)); have n3_ := Aside0.mk (ho); clear HO_2; clear HB; clear HK; clear HO_7; have HO_2 := n0_; have HB := n1_; have HK := n2_; have HO193 := n3_; clear n0_ n1_ n2_ n3_; clear ho hb hg hat))
                      go_roundg k3
                      case measure => have := HJ15.out; have := HJ25.out; have := HK3.out; omega
                      case rel => exact ⟨(y191), (wrap64 (x8_3 + 1)), (by first | rfl | (simp; done) | (simp [*]; done)), H', ⟨by have := HJ15.out; have := HJ25.out; have := HK3.out; omega⟩, ⟨by (try simp only [hl2_15]); (with_reducible repeat (first | apply Kd.R_alloc | apply Kd.R_drewN | apply Kd.R_drew)); exact HO_2.out⟩, ⟨by (try simp only [hl2_15]); (with_reducible repeat (first | apply Kd.R_alloc | apply Kd.R_drewN | apply Kd.R_drew)); exact HO193.out⟩, ⟨by repeat (first | (with_reducible first | exact HK.out | apply Kept.alloc | apply Kept.drewN | apply Kept.drew) | exact HK.out)⟩, ⟨by repeat (first | (with_reducible first | exact HB.out | apply below_alloc | apply pw_below_drewN | apply below_drew1) | exact HB.out)⟩⟩
                     ·
                      rw [if_neg c34] at H
                      exact absurd H (by simp)
                    ·
                     rw [if_neg c33] at H
                     exact absurd H (by simp)
                   ·
                    rw [if_neg c32] at H
                    have c32b0 : decide (x8_3 < (((rd_T40 l0 a1).f6).length : Int)) = false := decide_eq_false c32
                    clear c32
                    have H' := Aside0.mk H
                    clear H
                    have p188 : 0 ≤ (a1 : Int) := of_decide_eq_true (by first | (with_reducible assumption) | assumption)
                    have q188 : a1 < (l0.length : Int) := of_decide_eq_true (by first | (with_reducible assumption) | assumption)
                    obtain ⟨ad188, A188_6, c188_6, A188_7, c188_7, e188, hx188_0, hx188_1, hx188_2, hx188_3, hx188_4, hx188_5, hx188_6, hx188_7, hx188_8, hx188_9, hl188_6, hi188_6, hl188_7, hi188_7⟩ := at_T40 (Kd.C_kept_now HR0.out HK.out) a1 p188 q188
                    obtain rfl : ad178 = ad188 := (by injection e188)
                    have HR188_6 := Aside0.mk hi188_6
                    have HC188_6 := Aside0.mk hl188_6
                    clear hi188_6 hl188_6
                    have HR188_7 := Aside0.mk hi188_7
                    have HC188_7 := Aside0.mk hl188_7
                    clear hi188_7 hl188_7
                    replace p188 := eq_true p188
                    replace q188 := eq_true q188
                    go_wp2
                    (try simp only [← hl2_15])
                    go_meet
                    case rel => exact ⟨_, (x7_3), H', ⟨by have := HJ15.out; have := HJ25.out; have := HK3.out; first | omega | exact Nat.le_refl _⟩, ⟨by (try simp only [hl2_15]); (with_reducible repeat (first | apply Kd.R_alloc | apply Kd.R_drewN | apply Kd.R_drew)); exact HO_2.out⟩, ⟨by (try simp only [hl2_15]); (with_reducible repeat (first | apply Kd.R_alloc | apply Kd.R_drewN | apply Kd.R_drew)); exact HO_7.out⟩, ⟨by repeat (first | (with_reducible first | exact HK.out | apply Kept.alloc | apply Kept.drewN | apply Kept.drew) | exact HK.out)⟩, ⟨by repeat (first | (with_reducible first | exact HB.out | apply below_alloc | apply pw_below_drewN | apply below_drew1) | exact HB.out)⟩⟩
                  ·
                   rw [if_neg c31] at H
                   exact absurd H (by simp)
                 ·
                  rw [if_neg c30] at H
                  exact absurd H (by simp)
            ·
             rw [if_neg c25] at H
             exact absurd H (by simp)
           ·
            rw [if_neg c24] at H
            exact absurd H (by simp)
          ·
           rw [if_neg c23] at H
           have c23b0 : (((rd_T40 l0 a1).f0) == 9) = false := beq_eq_false_iff_ne.mpr c23
           have c23b1 : (((rd_T40 l0 a1).f0) != 9) = true := bne_iff_ne.mpr c23
           have H' := Aside0.mk H
           clear H
           go_wp2
           (try simp only [← hl2_15])
           go_meet
           case rel => exact ⟨_, (([] : List Int)), H', ⟨by have := HJ15.out; first | omega | exact Nat.le_refl _⟩, ⟨by (try simp only [hl2_15]); (with_reducible repeat (first | apply Kd.R_alloc | apply Kd.R_drewN | apply Kd.R_drew)); exact HO_2.out⟩, ⟨by (try simp only [hl2_15]); (with_reducible repeat (first | apply Kd.R_alloc | apply Kd.R_drewN | apply Kd.R_drew)); exact HO_7.out⟩, ⟨by repeat (first | (with_reducible first | exact HK.out | apply Kept.alloc | apply Kept.drewN | apply Kept.drew) | exact HK.out)⟩, ⟨by repeat (first | (with_reducible first | exact HB.out | apply below_alloc | apply pw_below_drewN | apply below_drew1) | exact HB.out)⟩⟩
      case rest =>
       clear HC12
       try clear c1
       try clear p1
       try clear q1
       try clear hx1
       try clear c2
       try clear p2
       try clear c3
       try clear c4
       try clear c4b0
       try clear c5
       try clear c5b0
       try clear c6
       try clear c6b0
       try clear c6b1
       try clear p6
       try clear c8
       try clear c8b0
       try clear c8b1
       try clear p10
       try clear q10
       try clear hx10
       try clear hf10
       try clear c11
       try clear c11b0
       try clear c17
       try clear c17b0
       try clear c17b1
       try clear p17
       try clear q17
       try clear hx17
       try clear c18
       try clear p18
       try clear q18
       try clear hx18
       try clear c19
       try clear c19b0
       try clear p19
       try clear q19
       try clear hx19
       try clear c20
       try clear c20b0
       try clear c23
       try clear c23b0
       try clear c23b1
       try clear c24
       try clear c24b0
       try clear c25
       try clear c25b0
       try clear c27
       try clear c27b0
       try clear c27b1
       try clear c30
       try clear c30b0
       try clear c31
       try clear c31b0
       try clear c32
       try clear c32b0
       try clear c33
       try clear c33b0
       try clear c34
       try clear hx10_0
       try clear hx175_0
       try clear hx176_0
       try clear hx178_0
       try clear hx178_1
       try clear hx178_2
       try clear hx178_3
       try clear hx178_4
       try clear hx178_5
       try clear hx178_6
       try clear hx178_7
       try clear hx178_8
       try clear hx178_9
       try clear hx179_0
       try clear hx179_1
       try clear hx179_2
       try clear hx179_3
       try clear hx179_4
       try clear hx179_5
       try clear hx179_6
       try clear hx179_7
       try clear hx179_8
       try clear hx179_9
       try clear hx183_0
       try clear hx183_1
       try clear hx183_2
       try clear hx183_3
       try clear hx183_4
       try clear hx183_5
       try clear hx183_6
       try clear hx183_7
       try clear hx183_8
       try clear hx183_9
       try clear hx184_0
       try clear hx184_1
       try clear hx184_2
       try clear hx184_3
       try clear hx184_4
       try clear hx184_5
       try clear hx184_6
       try clear hx184_7
       try clear hx184_8
       try clear hx184_9
       try clear hx188_0
       try clear hx188_1
       try clear hx188_2
       try clear hx188_3
       try clear hx188_4
       try clear hx188_5
       try clear hx188_6
       try clear hx188_7
       try clear hx188_8
       try clear hx188_9
       try clear hx189_0
       try clear hx189_1
       try clear hx189_2
       try clear hx189_3
       try clear hx189_4
       try clear hx189_5
       try clear hx189_6
       try clear hx189_7
       try clear hx189_8
       try clear hx189_9
       try clear hx190_0
       try clear hx190_1
       try clear hx190_2
       try clear p1
       try clear p10
       try clear p17
       try clear p175
       try clear p176
       try clear p178
       try clear p179
       try clear p18
       try clear p183
       try clear p184
       try clear p188
       try clear p189
       try clear p190
       try clear p2
       try clear q1
       try clear q10
       try clear q17
       try clear q175
       try clear q176
       try clear q178
       try clear q179
       try clear q18
       try clear q183
       try clear q184
       try clear q188
       try clear q189
       try clear q190
       obtain ⟨kq, x7_11, HA, HJ11, HO_2, HO_7, HK, HB⟩ := hcut
       have hl2_11 := (Kd.R_reads' HO_2.out).1
       rw [hl2_11] at HO_2
       (try simp only [hl2_11])
       (try simp only [hl2_11] at HO_7)
       cases kq with
       | zero => exact absurd HA.out (by simp [spinetref13_round.j3])
       | succ kj11 =>
        have H := HA.out
        clear HA
        simp only [spinetref13_round.j3] at H
        have H' := Aside0.mk H
        clear H
        go_wp2
        go_loopg [9] kj11 (fun kq v9 w' => ∃ (x2_2 : List Int) (x9_2 : Int), v9 = .int .i64 x9_2 ∧ Aside0 (spinetref13_round.l1 kq l0 a1 x2_2 x7_11 x9_2 = some (r1, r2)) ∧ Aside0 (kq ≤ kj11) ∧ Aside0 (Kd.R (Kd.int .i64) 3 w' w0.heap.size (fun k_ => (P2_ k_ ∨ w.heap.size ≤ k_) ∧ some k_ ≠ (u7 : Value).ownBlock) (.slice (some ⟨go10, 0, none⟩) y177.length co13) x2_2) ∧ Aside0 (Kd.R (Kd.int .i64) 3 w' w0.heap.size (fun k_ => (P2_ k_ ∨ w.heap.size ≤ k_) ∧ some k_ ≠ ((.slice (some ⟨go10, 0, none⟩) y177.length co13) : Value).ownBlock) u7 x7_11) ∧ Aside0 (Kept w w' (fun k_ => P2_ k_)) ∧ Aside0 (Below w0.heap.size w0 w'))
        case atStart => exact ⟨(y177), (0), (by first | rfl | (simp; done) | (simp [*]; done)), H', ⟨Nat.le_refl _⟩, ⟨by (try simp only [hl2_11]); (with_reducible repeat (first | apply Kd.R_alloc | apply Kd.R_drewN | apply Kd.R_drew)); exact HO_2.out⟩, ⟨by (try simp only [hl2_11]); (with_reducible repeat (first | apply Kd.R_alloc | apply Kd.R_drewN | apply Kd.R_drew)); exact HO_7.out⟩, ⟨by repeat (first | (with_reducible first | exact HK.out | apply Kept.alloc | apply Kept.drewN | apply Kept.drew) | exact HK.out)⟩, ⟨by repeat (first | (with_reducible first | exact HB.out | apply below_alloc | apply pw_below_drewN | apply below_drew1) | exact HB.out)⟩⟩
        case round =>
         clear H'
         try clear c1
         try clear p1
         try clear q1
         try clear hx1
         try clear c2
         try clear p2
         try clear c3
         try clear c4
         try clear c4b0
         try clear c5
         try clear c5b0
         try clear c6
         try clear c6b0
         try clear c6b1
         try clear p6
         try clear c8
         try clear c8b0
         try clear c8b1
         try clear p10
         try clear q10
         try clear hx10
         try clear hf10
         try clear c11
         try clear c11b0
         try clear c17
         try clear c17b0
         try clear c17b1
         try clear p17
         try clear q17
         try clear hx17
         try clear c18
         try clear p18
         try clear q18
         try clear hx18
         try clear c19
         try clear c19b0
         try clear p19
         try clear q19
         try clear hx19
         try clear c20
         try clear c20b0
         try clear c23
         try clear c23b0
         try clear c23b1
         try clear c24
         try clear c24b0
         try clear c25
         try clear c25b0
         try clear c27
         try clear c27b0
         try clear c27b1
         try clear c30
         try clear c30b0
         try clear c31
         try clear c31b0
         try clear c32
         try clear c32b0
         try clear c33
         try clear c33b0
         try clear c34
         try clear hx10_0
         try clear hx175_0
         try clear hx176_0
         try clear hx178_0
         try clear hx178_1
         try clear hx178_2
         try clear hx178_3
         try clear hx178_4
         try clear hx178_5
         try clear hx178_6
         try clear hx178_7
         try clear hx178_8
         try clear hx178_9
         try clear hx179_0
         try clear hx179_1
         try clear hx179_2
         try clear hx179_3
         try clear hx179_4
         try clear hx179_5
         try clear hx179_6
         try clear hx179_7
         try clear hx179_8
         try clear hx179_9
         try clear hx183_0
         try clear hx183_1
         try clear hx183_2
         try clear hx183_3
         try clear hx183_4
         try clear hx183_5
         try clear hx183_6
         try clear hx183_7
         try clear hx183_8
         try clear hx183_9
         try clear hx184_0
         try clear hx184_1
         try clear hx184_2
         try clear hx184_3
         try clear hx184_4
         try clear hx184_5
         try clear hx184_6
         try clear hx184_7
         try clear hx184_8
         try clear hx184_9
         try clear hx188_0
         try clear hx188_1
         try clear hx188_2
         try clear hx188_3
         try clear hx188_4
         try clear hx188_5
         try clear hx188_6
         try clear hx188_7
         try clear hx188_8
         try clear hx188_9
         try clear hx189_0
         try clear hx189_1
         try clear hx189_2
         try clear hx189_3
         try clear hx189_4
         try clear hx189_5
         try clear hx189_6
         try clear hx189_7
         try clear hx189_8
         try clear hx189_9
         try clear hx190_0
         try clear hx190_1
         try clear hx190_2
         try clear p1
         try clear p10
         try clear p17
         try clear p175
         try clear p176
         try clear p178
         try clear p179
         try clear p18
         try clear p183
         try clear p184
         try clear p188
         try clear p189
         try clear p19
         try clear p190
         try clear p2
         try clear p6
         try clear q1
         try clear q10
         try clear q17
         try clear q175
         try clear q176
         try clear q178
         try clear q179
         try clear q18
         try clear q183
         try clear q184
         try clear q188
         try clear q189
         try clear q19
         try clear q190
         obtain ⟨x2_2, x9_2, rfl, HA, HK2, HO_2, HO_7, HK, HB⟩ := hrel
         have hl2_2 := (Kd.R_reads' HO_2.out).1
         rw [hl2_2] at HO_2
         (try simp only [hl2_2])
         (try simp only [hl2_2] at HO_7)
         cases gk with
         | zero => exact absurd HA.out (by simp [spinetref13_round.l1])
         | succ k2 =>
          have H := HA.out
          clear HA
          simp only [spinetref13_round.l1] at H
          by_cases c36 : x9_2 < (x7_11.length : Int)
          ·
           rw [if_pos c36] at H
           have c36b0 : decide (x9_2 < (x7_11.length : Int)) = true := decide_eq_true c36
           clear c36
           by_cases c37 : 0 ≤ x9_2
           ·
            rw [if_pos c37] at H
            have c37b0 : decide (0 ≤ x9_2) = true := decide_eq_true c37
            clear c37
            replace H := Option.bind_eq_some_iff.mp H
            obtain ⟨⟨t195, t196⟩, A380, H⟩ := H
            replace H : (if t195 = true then (some (true, t196)) else (spinetref13_round.l1 k2 l0 a1 t196 x7_11 (wrap64 (x9_2 + 1)))) = some (r1, r2) := H
            have A38 := Aside0.mk A380
            clear A380
            by_cases c39 : t195 = true
            ·
             subst c39
             have H1 : (some (true, t196)) = some (r1, r2) := by rw [if_pos rfl] at H; exact H
             clear H
             have H := H1
             clear H1
             simp only [Option.some.injEq, Prod.mk.injEq] at H
             obtain ⟨rfl, rfl⟩ := H
             obtain ⟨Ao40, co40, eo40⟩ := Kd.R_slice HO_7.out
             subst eo40
             have p194 : 0 ≤ (x9_2 : Int) := of_decide_eq_true (by first | (with_reducible assumption) | assumption)
             have q194 : x9_2 < (x7_11.length : Int) := of_decide_eq_true (by first | (with_reducible assumption) | assumption)
             obtain ⟨ad194, e194, hx194_0⟩ := Kd.at_int (Kd.R_reads' HO_7.out).2.2 x9_2 p194 q194
             cases e194
             replace p194 := eq_true p194
             replace q194 := eq_true q194
             go_wp2_with (first | ((with_reducible refine gate_callee (f := 44) rfl ?_); refine goesL_ (some 85) rfl rfl Try.func44 (by kernel_rfl) rfl #[.slice (some ad178) l0.length c0, .int .i64 (rd x7_11 x9_2), .slice (some ⟨go10, 0, none⟩) x2_2.length co13] rfl (by (try simp only [List.map_toArray, List.map_cons, List.map_nil]); first | done | rfl | (simp only [List.length_drop, List.length_take]; rfl)) ?_; (with_reducible refine (ih k2 (by have := HJ11.out; have := HK2.out; omega) _ _ l0 (rd x7_11 x9_2) (fun k_ => some k_ = (.slice (some ⟨go10, 0, none⟩) x2_2.length co13 : Value).ownBlock) (.slice (some ⟨go10, 0, none⟩) x2_2.length co13) x2_2 true t196 w0 _ ?side1 ?side2 ?side3 ?side4 A38.out).mono ?_); (case side1 => repeat (first | (with_reducible first | exact HB.out | apply below_alloc | apply pw_below_drewN | apply below_drew1) | exact HB.out)); (case side2 => exact Kd.C_kept_call HR0.out (by repeat (first | (with_reducible first | exact HK.out | apply Kept.alloc | apply Kept.drewN | apply Kept.drew) | exact HK.out)) (fun k_ hs_ => (fun e_ => (HO_2.out.1 k_ e_.symm).1) hs_)); (case side3 => exact HC0.out); (case side4 => exact Kd.R_tight rfl HO_2.out); rintro e w41 ⟨rfl, hy0, hb, hkp⟩; refine ⟨_, rfl, ?_⟩; have n0_ := Aside0.mk (Kd.R_reok rfl hy0 (fun k_ e_ => HO_2.out.1 k_ e_)); have n1_ := Aside0.mk (Kd.R_mono (ok' := fun k_ => (P2_ k_ ∨ w.heap.size ≤ k_) ∧ some k_ ≠ (.slice (some ⟨go10, 0, none⟩) x2_2.length co13 : Value).ownBlock) (Kd.R_keptB (HO_7.out) hkp (fun k_ hk_ hs_ => (hk_.2) hs_)) (fun k_ hk_ => ⟨hk_.1.1, hk_.1.2⟩)); have n2_ := Aside0.mk (Kept.then_ (S := (fun k_ => P2_ k_)) (by repeat (first | (with_reducible first | exact HK.out | apply Kept.alloc | apply Kept.drewN | apply Kept.drew) | exact HK.out)) hkp (fun k_ hs_ => (fun e_ => (HO_2.out.1 k_ e_.symm).1) hs_)); have n3_ := Aside0.mk (hb); clear HO_2; clear HO_7; clear HK; clear HB; have HO_2 := n0_; have HO_7 := n1_; have HK := n2_; have HB := n3_; clear n0_ n1_ n2_ n3_; (try clear hb); (try clear hkp); (try clear hy0)))
             go_ret
             exact ⟨by first | rfl | (simp [errW_none, errW_some] <;> rfl) | (simp [*, errW_none, errW_some] <;> rfl), (by first | exact (by (with_reducible repeat (first | apply Kd.R_alloc | apply Kd.R_drewN | apply Kd.R_drew)); exact Kd.R_mono HO_2.out (fun _ hk => hk.1)) | (simp only [hl2_11, hl2_2]; exact (by (with_reducible repeat (first | apply Kd.R_alloc | apply Kd.R_drewN | apply Kd.R_drew)); exact Kd.R_mono HO_2.out (fun _ hk => hk.1)))), by repeat (first | (with_reducible first | exact HB.out | apply below_alloc | apply pw_below_drewN | apply below_drew1) | exact HB.out), by repeat (first | (with_reducible first | exact HK.out | apply Kept.alloc | apply Kept.drewN | apply Kept.drew) | exact HK.out)⟩
            ·
             replace c39 := Bool.eq_false_iff.mpr c39
             subst c39
             have H1 : (spinetref13_round.l1 k2 l0 a1 t196 x7_11 (wrap64 (x9_2 + 1))) = some (r1, r2) := by rw [if_neg (show ¬ (false = true) by decide)] at H; exact H
             clear H
             have H := H1
             clear H1
             have H' := Aside0.mk H
             clear H
             obtain ⟨Ao42, co42, eo42⟩ := Kd.R_slice HO_7.out
             subst eo42
             have p194 : 0 ≤ (x9_2 : Int) := of_decide_eq_true (by first | (with_reducible assumption) | assumption)
             have q194 : x9_2 < (x7_11.length : Int) := of_decide_eq_true (by first | (with_reducible assumption) | assumption)
             obtain ⟨ad194, e194, hx194_0⟩ := Kd.at_int (Kd.R_reads' HO_7.out).2.2 x9_2 p194 q194
             cases e194
             replace p194 := eq_true p194
             replace q194 := eq_true q194
             go_wp2_with (first | ((with_reducible refine gate_callee (f := 44) rfl ?_); refine goesL_ (some 85) rfl rfl Try.func44 (by kernel_rfl) rfl #[.slice (some ad178) l0.length c0, .int .i64 (rd x7_11 x9_2), .slice (some ⟨go10, 0, none⟩) x2_2.length co13] rfl (by (try simp only [List.map_toArray, List.map_cons, List.map_nil]); first | done | rfl | (simp only [List.length_drop, List.length_take]; rfl)) ?_; (with_reducible refine (ih k2 (by have := HJ11.out; have := HK2.out; omega) _ _ l0 (rd x7_11 x9_2) (fun k_ => some k_ = (.slice (some ⟨go10, 0, none⟩) x2_2.length co13 : Value).ownBlock) (.slice (some ⟨go10, 0, none⟩) x2_2.length co13) x2_2 false t196 w0 _ ?side1 ?side2 ?side3 ?side4 A38.out).mono ?_); (case side1 => repeat (first | (with_reducible first | exact HB.out | apply below_alloc | apply pw_below_drewN | apply below_drew1) | exact HB.out)); (case side2 => exact Kd.C_kept_call HR0.out (by repeat (first | (with_reducible first | exact HK.out | apply Kept.alloc | apply Kept.drewN | apply Kept.drew) | exact HK.out)) (fun k_ hs_ => (fun e_ => (HO_2.out.1 k_ e_.symm).1) hs_)); (case side3 => exact HC0.out); (case side4 => exact Kd.R_tight rfl HO_2.out); rintro e w43 ⟨rfl, hy0, hb, hkp⟩; refine ⟨_, rfl, ?_⟩; have n0_ := Aside0.mk (Kd.R_reok rfl hy0 (fun k_ e_ => HO_2.out.1 k_ e_)); have n1_ := Aside0.mk (Kd.R_mono (ok' := fun k_ => (P2_ k_ ∨ w.heap.size ≤ k_) ∧ some k_ ≠ (.slice (some ⟨go10, 0, none⟩) x2_2.length co13 : Value).ownBlock) (Kd.R_keptB (HO_7.out) hkp (fun k_ hk_ hs_ => (hk_.2) hs_)) (fun k_ hk_ => ⟨hk_.1.1, hk_.1.2⟩)); have n2_ := Aside0.mk (Kept.then_ (S := (fun k_ => P2_ k_)) (by repeat (first | (with_reducible first | exact HK.out | apply Kept.alloc | apply Kept.drewN | apply Kept.drew) | exact HK.out)) hkp (fun k_ hs_ => (fun e_ => (HO_2.out.1 k_ e_.symm).1) hs_)); have n3_ := Aside0.mk (hb); clear HO_2; clear HO_7; clear HK; clear HB; have HO_2 := n0_; have HO_7 := n1_; have HK := n2_; have HB := n3_; clear n0_ n1_ n2_ n3_; (try clear hb); (try clear hkp); (try clear hy0)))
             (try simp only [← hl2_2])
             go_roundg k2
             case measure => have := HJ11.out; have := HK2.out; omega
             case rel => exact ⟨(t196), (wrap64 (x9_2 + 1)), (by first | rfl | (simp; done) | (simp [*]; done)), H', ⟨by have := HJ11.out; have := HK2.out; omega⟩, ⟨by (try simp only [hl2_11]); (try simp only [hl2_2]); (with_reducible repeat (first | apply Kd.R_alloc | apply Kd.R_drewN | apply Kd.R_drew)); exact HO_2.out⟩, ⟨by (try simp only [hl2_11]); (try simp only [hl2_2]); (with_reducible repeat (first | apply Kd.R_alloc | apply Kd.R_drewN | apply Kd.R_drew)); exact HO_7.out⟩, ⟨by repeat (first | (with_reducible first | exact HK.out | apply Kept.alloc | apply Kept.drewN | apply Kept.drew) | exact HK.out)⟩, ⟨by repeat (first | (with_reducible first | exact HB.out | apply below_alloc | apply pw_below_drewN | apply below_drew1) | exact HB.out)⟩⟩
           ·
            rw [if_neg c37] at H
            exact absurd H (by simp)
          ·
           rw [if_neg c36] at H
           have c36b0 : decide (x9_2 < (x7_11.length : Int)) = false := decide_eq_false c36
           clear c36
           by_cases c44 : 0 ≤ a1
           ·
            rw [if_pos c44] at H
            have c44b0 : decide (0 ≤ a1) = true := decide_eq_true c44
            clear c44
            by_cases c45 : a1 < (x2_2.length : Int)
            ·
             rw [if_pos c45] at H
             have c45b0 : decide (a1 < (x2_2.length : Int)) = true := decide_eq_true c45
             clear c45
             obtain ⟨y197, hy197⟩ : ∃ y_ : List Int, y_ = (x2_2.set (a1 : Int).toNat 2) := ⟨_, rfl⟩
             replace H : (some (false, y197)) = some (r1, r2) := by first | (rw [hy197]; with_reducible exact H) | (have H2_ := (Option.bind_some _ _).symm.trans H; rw [hy197]; with_reducible exact H2_) | (have H2_ := (Option.bind_some _ _).symm.trans H; with_reducible exact H2_) | with_reducible exact H | (rw [hy197]; exact H) | exact H
             have Ny197 := Aside0.mk hy197
             clear hy197
             simp only [Option.some.injEq, Prod.mk.injEq] at H
             obtain ⟨rfl, rfl⟩ := H
             obtain ⟨Ao47, co47, eo47⟩ := Kd.R_slice HO_7.out
             subst eo47
             have p46 : 0 ≤ (a1 : Int) := of_decide_eq_true (by first | (with_reducible assumption) | assumption)
             have q46 : (a1 : Int) < ((x2_2.length : Int) : Int) := of_decide_eq_true (by first | (with_reducible assumption) | assumption)
             obtain ⟨hx46_0, hf46_0⟩ := Kd.R_celln 0 HO_2.out (a1 : Int) p46 q46
             replace p46 := eq_true p46
             replace q46 := eq_true q46
             have HP48 := Kd.R_putg HO_2.out (a1 : Int) 2
             go_wp2_with (first | ((with_reducible refine gate_store (t := 3) (p := 88) rfl ?_); refine store_event (t := 3) (p := 88) (v := ?vo_w49) (w1 := (wr.setCell ⟨go10, (a1 : Int).toNat, none⟩ (.int .i64 2))) ?hg ?ho ?hn ?hr ?_; (case ho => rfl); (case hg => rfl); (case hn => rfl); (case hr => first | (go_simp; done) | (go_simp; rfl)); intro w49 hw; have hg : wr.grownBy w49 (some go10) := (by rw [hw]; exact HP48.2); have hp_ : Kd.R (Kd.int .i64) 3 w49 w0.heap.size (fun k_ => (P2_ k_ ∨ w.heap.size ≤ k_) ∧ some k_ ≠ (.slice Ao47 x7_11.length co47 : Value).ownBlock) (.slice (some ⟨go10, 0, none⟩) x2_2.length co13) y197 := (by rw [hw, Ny197.out]; exact HP48.1); clear HP48; have n0_ := Aside0.mk (hp_); have n1_ := Aside0.mk (Kd.R_after (v := (.slice (some ⟨go10, 0, none⟩) x2_2.length co13)) (v1 := (.slice (some ⟨go10, 0, none⟩) x2_2.length co13)) (ok := (fun k_ => (P2_ k_ ∨ w.heap.size ≤ k_))) (by (with_reducible repeat (first | apply Kd.R_alloc | apply Kd.R_drewN | apply Kd.R_drew)); exact HO_7.out) hg (.inl rfl)); have n2_ := Aside0.mk ((by rw [hw]; exact below_set (HB.out) GB10.out : Below w0.heap.size w0 w49)); have n3_ := Aside0.mk (Kept.of_grown (S := (fun k_ => P2_ k_)) hg (by repeat (first | (with_reducible first | exact HK.out | apply Kept.alloc | apply Kept.drewN | apply Kept.drew) | exact HK.out)) (fun k_ e_ => (HO_2.out.1 k_ e_).1)); clear HO_2; clear HO_7; clear HB; clear HK; have HO_2 := n0_; have HO_7 := n1_; have HB := n2_; have HK := n3_; clear n0_ n1_ n2_ n3_; clear hg hw hp_))
             go_ret
             exact ⟨by first | rfl | (simp [errW_none, errW_some] <;> rfl) | (simp [*, errW_none, errW_some] <;> rfl), (by first | exact (by (with_reducible repeat (first | apply Kd.R_alloc | apply Kd.R_drewN | apply Kd.R_drew)); exact Kd.R_mono HO_2.out (fun _ hk => hk.1)) | (simp only [hl2_11, hl2_2]; exact (by (with_reducible repeat (first | apply Kd.R_alloc | apply Kd.R_drewN | apply Kd.R_drew)); exact Kd.R_mono HO_2.out (fun _ hk => hk.1)))), by repeat (first | (with_reducible first | exact HB.out | apply below_alloc | apply pw_below_drewN | apply below_drew1) | exact HB.out), by repeat (first | (with_reducible first | exact HK.out | apply Kept.alloc | apply Kept.drewN | apply Kept.drew) | exact HK.out)⟩
            ·
             rw [if_neg c45] at H
             exact absurd H (by simp)
           ·
            rw [if_neg c44] at H
            exact absurd H (by simp)
     ·
      rw [if_neg c11] at H
      exact absurd H (by simp)
  ·
   rw [if_neg c5] at H
   exact absurd H (by simp)
 ·
  rw [if_neg c4] at H
  exact absurd H (by simp)
end Go.Proofs.Ytgnbemgeiloegaa.PTypesGoods
