import Derived.Test.YtgnbemgeiloegaaMTgPf
namespace Go.Proofs.Ytgnbemgeiloegaa.PTypesGoods
open Go.RowKit Go.Proofs.YtgnbemgeiloegaaW.PrintWords Go.Proofs.YtgnbemgeiloegaaW.PrintLast Go.Proofs.YtgnbemgeiloegaaW.PrintMore
attribute [local go_sem] max2_int min2_int max_two min_two max_three min_three max_four min_four
set_option linter.unusedVariables false
set_option linter.unusedSimpArgs false
noncomputable section
mutual
def spinetlaw13_TypesOrder.j0 : Nat → List (S40) → Int → Int → Bool → Option (Bool)
 | 0, _, _, _, _ => none
 | k + 1, x0, x1, x2, x34 => if x34 = true then ((spinetlaw13_wakes.f k).bind fun t234 => (some t234)) else ((spinetref13_Copy.f x0).bind fun t235 => ((types_Same.f k t235 x1 x2).bind fun t238 => ((types_Same.f k t235 x2 x1).bind fun t239 => (if (t238 != t239) = true then (spinetlaw13_TypesOrder.j1 k x0 x1 x2 t235 true) else ((types_Same.f k t235 x1 x1).bind fun t240 => (spinetlaw13_TypesOrder.j1 k x0 x1 x2 t235 (!t240)))))))
def spinetlaw13_TypesOrder.j1 : Nat → List (S40) → Int → Int → List (S40) → Bool → Option (Bool)
 | 0, _, _, _, _, _ => none
 | k + 1, x0, x1, x2, x7, x53 => if x53 = true then (some false) else ((types_Extends.f k x7 x1 x2).bind fun t241 => (if t241 = true then ((types_Assign.f k x7 x1 x2).bind fun t242 => (if t242 = true then ((types_Extends.f k x7 x2 x1).bind fun t243 => ((types_Same.f k x7 x1 x2).bind fun t244 => (if (t243 != t244) = true then (if 0 ≤ x1 then (if x1 < (x0.length : Int) then (if ((rd_T40 x0 x1).f0) = 9 then (spinetlaw13_TypesOrder.j2 k x0 x1 x2 x7 true) else ((types_Level.f k x7 x1).bind fun t246 => ((types_Level.f k x7 x2).bind fun t247 => (spinetlaw13_TypesOrder.j2 k x0 x1 x2 x7 (decide (t246 < t247)))))) else (none)) else (none)) else ((types_Level.f k x7 x1).bind fun t248 => ((types_Level.f k x7 x2).bind fun t249 => (spinetlaw13_TypesOrder.j2 k x0 x1 x2 x7 (decide (t248 < t249)))))))) else (spinetlaw13_TypesOrder.j2 k x0 x1 x2 x7 true))) else ((spinetlaw13_wakes.f k).bind fun t257 => (some t257))))
def spinetlaw13_TypesOrder.j2 : Nat → List (S40) → Int → Int → List (S40) → Bool → Option (Bool)
 | 0, _, _, _, _, _ => none
 | k + 1, x0, x1, x2, x7, x90 => if x90 = true then (some false) else (if 0 ≤ x2 then (if x2 < (x0.length : Int) then (if ((rd_T40 x0 x2).f0) = 9 then (if ((rd_T40 x0 x2).f5) = 0 then ((spinetlaw13_wakes.f k).bind fun t252 => (some t252)) else ((types_Extends.f k x7 x1 ((rd_T40 x0 x2).f5)).bind fun t254 => (if t254 = true then ((spinetlaw13_wakes.f k).bind fun t255 => (some t255)) else (some false)))) else ((spinetlaw13_wakes.f k).bind fun t256 => (some t256))) else (none)) else (none))
end
def spinetlaw13_TypesOrder.f (k : Nat) (l0 : List (S40)) (a1 : Int) (a2 : Int) : Option (Bool) := (spinetlaw13_Large.f k l0).bind fun t232 => (if t232 = true then (spinetlaw13_TypesOrder.j0 k l0 a1 a2 true) else ((spinetref13_Good.f l0).bind fun t233 => (if t233 = true then (if a1 < 0 then (spinetlaw13_TypesOrder.j0 k l0 a1 a2 true) else (if a2 < 0 then (spinetlaw13_TypesOrder.j0 k l0 a1 a2 true) else (if a1 ≥ (l0.length : Int) then (spinetlaw13_TypesOrder.j0 k l0 a1 a2 true) else (spinetlaw13_TypesOrder.j0 k l0 a1 a2 (decide (a2 ≥ (l0.length : Int))))))) else (spinetlaw13_TypesOrder.j0 k l0 a1 a2 true))))
set_option maxHeartbeats 8000000 in
set_option maxRecDepth 100000 in
theorem spinetlaw13_TypesOrder.calls (k : Nat) (A0 : Option Addr) (c0 : Nat) (l0 : List (S40)) (a1 : Int) (a2 : Int) (r : Bool) (hrt : Aside0 (r = true)) (w : World) (hr0 : Kd.C k40 w A0 l0.length l0) (hc0 : l0.length ≤ c0) (h : spinetlaw13_TypesOrder.f k l0 a1 a2 = some r) :
 Calls Try.prog 9 #[.slice A0 l0.length c0, .int .i64 a1, .int .i64 a2] w fun e w' => e = .returned (.bool r) ∧ Below w.heap.size w w' := by
 have HR0 := Aside0.mk hr0
 have HC0 := Aside0.mk hc0
 clear hr0 hc0
 have HB := Aside0.mk (Below.refl w.heap.size w)
 have H : ((spinetlaw13_Large.f k l0).bind fun t232 => (if t232 = true then (spinetlaw13_TypesOrder.j0 k l0 a1 a2 true) else ((spinetref13_Good.f l0).bind fun t233 => (if t233 = true then (if a1 < 0 then (spinetlaw13_TypesOrder.j0 k l0 a1 a2 true) else (if a2 < 0 then (spinetlaw13_TypesOrder.j0 k l0 a1 a2 true) else (if a1 ≥ (l0.length : Int) then (spinetlaw13_TypesOrder.j0 k l0 a1 a2 true) else (spinetlaw13_TypesOrder.j0 k l0 a1 a2 (decide (a2 ≥ (l0.length : Int))))))) else (spinetlaw13_TypesOrder.j0 k l0 a1 a2 true))))) = some r := h
 clear h
 have HC4 := Aside0.mk H
 clear H
 go_enter Try.func9, Try.ntmps9
 go_upto_region 1 with (fail)
 go_cut [34] (fun v34 wc => ∃ (kq : Nat) (x34_3 : Bool), v34 = .bool x34_3 ∧ Aside0 (spinetlaw13_TypesOrder.j0 kq l0 a1 a2 x34_3 = some r) ∧ Aside0 (kq ≤ k) ∧ Aside0 (Below w.heap.size w wc))
 case first =>
  have H := HC4.out
  clear HC4
  replace H := Option.bind_eq_some_iff.mp H
  obtain ⟨t232, A50, H⟩ := H
  replace H : (if t232 = true then (spinetlaw13_TypesOrder.j0 k l0 a1 a2 true) else ((spinetref13_Good.f l0).bind fun t233 => (if t233 = true then (if a1 < 0 then (spinetlaw13_TypesOrder.j0 k l0 a1 a2 true) else (if a2 < 0 then (spinetlaw13_TypesOrder.j0 k l0 a1 a2 true) else (if a1 ≥ (l0.length : Int) then (spinetlaw13_TypesOrder.j0 k l0 a1 a2 true) else (spinetlaw13_TypesOrder.j0 k l0 a1 a2 (decide (a2 ≥ (l0.length : Int))))))) else (spinetlaw13_TypesOrder.j0 k l0 a1 a2 true)))) = some r := H
  have A5 := Aside0.mk A50
  clear A50
  by_cases c6 : t232 = true
  ·
   subst c6
   have H1 : (spinetlaw13_TypesOrder.j0 k l0 a1 a2 true) = some r := by rw [if_pos rfl] at H; exact H
   clear H
   have H := H1
   clear H1
   have H' := Aside0.mk H
   clear H
   go_wp2_with (first | ((with_reducible refine gate_callee (f := 12) rfl ?_); refine goesL_ (some 9) rfl rfl Try.func12 (by kernel_rfl) rfl #[.slice A0 l0.length c0] rfl (by (try simp only [List.map_toArray, List.map_cons, List.map_nil]); first | done | rfl | (simp only [List.length_drop, List.length_take]; rfl)) ?_; (with_reducible refine (spinetlaw13_Large.calls k _ _ l0 true _ ?side1 ?side2 A5.out).mono ?_); (case side1 => repeat (first | exact (Kd.C_below HR0.out HB.out) | (with_reducible refine Kd.C_alloc ?_ _) | (with_reducible refine Kd.C_drewN ?_ _) | (with_reducible refine Kd.C_drew ?_))); (case side2 => exact HC0.out); rintro e w' ⟨rfl, ⟨nd, rfl⟩⟩; refine ⟨_, rfl, ?_⟩))
   go_meet
   case rel => exact ⟨_, (true), (by first | rfl | (simp; done) | (simp [*]; done)), H', ⟨by first | omega | exact Nat.le_refl _⟩, ⟨by repeat (first | (with_reducible first | exact HB.out | apply below_alloc | apply pw_below_drewN | apply below_drew1) | exact HB.out)⟩⟩
  ·
   replace c6 := Bool.eq_false_iff.mpr c6
   subst c6
   have H1 : ((spinetref13_Good.f l0).bind fun t233 => (if t233 = true then (if a1 < 0 then (spinetlaw13_TypesOrder.j0 k l0 a1 a2 true) else (if a2 < 0 then (spinetlaw13_TypesOrder.j0 k l0 a1 a2 true) else (if a1 ≥ (l0.length : Int) then (spinetlaw13_TypesOrder.j0 k l0 a1 a2 true) else (spinetlaw13_TypesOrder.j0 k l0 a1 a2 (decide (a2 ≥ (l0.length : Int))))))) else (spinetlaw13_TypesOrder.j0 k l0 a1 a2 true))) = some r := by rw [if_neg (show ¬ (false = true) by decide)] at H; exact H
   clear H
   have H := H1
   clear H1
   replace H := Option.bind_eq_some_iff.mp H
   obtain ⟨t233, A70, H⟩ := H
   replace H : (if t233 = true then (if a1 < 0 then (spinetlaw13_TypesOrder.j0 k l0 a1 a2 true) else (if a2 < 0 then (spinetlaw13_TypesOrder.j0 k l0 a1 a2 true) else (if a1 ≥ (l0.length : Int) then (spinetlaw13_TypesOrder.j0 k l0 a1 a2 true) else (spinetlaw13_TypesOrder.j0 k l0 a1 a2 (decide (a2 ≥ (l0.length : Int))))))) else (spinetlaw13_TypesOrder.j0 k l0 a1 a2 true)) = some r := H
   have A7 := Aside0.mk A70
   clear A70
   by_cases c8 : t233 = true
   ·
    subst c8
    have H1 : (if a1 < 0 then (spinetlaw13_TypesOrder.j0 k l0 a1 a2 true) else (if a2 < 0 then (spinetlaw13_TypesOrder.j0 k l0 a1 a2 true) else (if a1 ≥ (l0.length : Int) then (spinetlaw13_TypesOrder.j0 k l0 a1 a2 true) else (spinetlaw13_TypesOrder.j0 k l0 a1 a2 (decide (a2 ≥ (l0.length : Int))))))) = some r := by rw [if_pos rfl] at H; exact H
    clear H
    have H := H1
    clear H1
    by_cases c9 : a1 < 0
    ·
     rw [if_pos c9] at H
     have c9b0 : decide (a1 < 0) = true := decide_eq_true c9
     clear c9
     (first | rw [c9b0] | (simp only [i64_w, i32_w]; rw [c9b0]) | skip)
     have H' := Aside0.mk H
     clear H
     go_wp2_with (first | ((with_reducible refine gate_callee (f := 12) rfl ?_); refine goesL_ (some 9) rfl rfl Try.func12 (by kernel_rfl) rfl #[.slice A0 l0.length c0] rfl (by (try simp only [List.map_toArray, List.map_cons, List.map_nil]); first | done | rfl | (simp only [List.length_drop, List.length_take]; rfl)) ?_; (with_reducible refine (spinetlaw13_Large.calls k _ _ l0 false _ ?side1 ?side2 A5.out).mono ?_); (case side1 => repeat (first | exact (Kd.C_below HR0.out HB.out) | (with_reducible refine Kd.C_alloc ?_ _) | (with_reducible refine Kd.C_drewN ?_ _) | (with_reducible refine Kd.C_drew ?_))); (case side2 => exact HC0.out); rintro e w' ⟨rfl, ⟨nd, rfl⟩⟩; refine ⟨_, rfl, ?_⟩) | (go_at_call 23; (with_reducible refine (spinetref13_Good.calls _ _ l0 true _ ?side1 ?side2 A7.out).mono ?_); (case side1 => repeat (first | exact (Kd.C_below HR0.out (by repeat (first | (with_reducible first | exact HB.out | apply below_alloc | apply pw_below_drewN | apply below_drew1) | exact HB.out))) | (with_reducible refine Kd.C_alloc ?_ _) | (with_reducible refine Kd.C_drewN ?_ _) | (with_reducible refine Kd.C_drew ?_))); (case side2 => exact HC0.out); rintro e w10 ⟨rfl, hb⟩; have n0_ := Aside0.mk (below_step (by repeat (first | (with_reducible first | exact HB.out | apply below_alloc | apply pw_below_drewN | apply below_drew1) | exact HB.out)) hb); clear HB; have HB := n0_; clear n0_; (try clear hb); (try clear hb2); (try clear hk); (try clear hi)))
     go_meet
     case rel => exact ⟨_, (true), (by first | rfl | (simp; done) | (simp [*]; done)), H', ⟨by first | omega | exact Nat.le_refl _⟩, ⟨by repeat (first | (with_reducible first | exact HB.out | apply below_alloc | apply pw_below_drewN | apply below_drew1) | exact HB.out)⟩⟩
    ·
     rw [if_neg c9] at H
     have c9b0 : decide (a1 < 0) = false := decide_eq_false c9
     clear c9
     (first | rw [c9b0] | (simp only [i64_w, i32_w]; rw [c9b0]) | skip)
     by_cases c11 : a2 < 0
     ·
      rw [if_pos c11] at H
      have c11b0 : decide (a2 < 0) = true := decide_eq_true c11
      clear c11
      have H' := Aside0.mk H
      clear H
      go_wp2_with (first | ((with_reducible refine gate_callee (f := 12) rfl ?_); refine goesL_ (some 9) rfl rfl Try.func12 (by kernel_rfl) rfl #[.slice A0 l0.length c0] rfl (by (try simp only [List.map_toArray, List.map_cons, List.map_nil]); first | done | rfl | (simp only [List.length_drop, List.length_take]; rfl)) ?_; (with_reducible refine (spinetlaw13_Large.calls k _ _ l0 false _ ?side1 ?side2 A5.out).mono ?_); (case side1 => repeat (first | exact (Kd.C_below HR0.out HB.out) | (with_reducible refine Kd.C_alloc ?_ _) | (with_reducible refine Kd.C_drewN ?_ _) | (with_reducible refine Kd.C_drew ?_))); (case side2 => exact HC0.out); rintro e w' ⟨rfl, ⟨nd, rfl⟩⟩; refine ⟨_, rfl, ?_⟩) | (go_at_call 23; (with_reducible refine (spinetref13_Good.calls _ _ l0 true _ ?side1 ?side2 A7.out).mono ?_); (case side1 => repeat (first | exact (Kd.C_below HR0.out (by repeat (first | (with_reducible first | exact HB.out | apply below_alloc | apply pw_below_drewN | apply below_drew1) | exact HB.out))) | (with_reducible refine Kd.C_alloc ?_ _) | (with_reducible refine Kd.C_drewN ?_ _) | (with_reducible refine Kd.C_drew ?_))); (case side2 => exact HC0.out); rintro e w12 ⟨rfl, hb⟩; have n0_ := Aside0.mk (below_step (by repeat (first | (with_reducible first | exact HB.out | apply below_alloc | apply pw_below_drewN | apply below_drew1) | exact HB.out)) hb); clear HB; have HB := n0_; clear n0_; (try clear hb); (try clear hb2); (try clear hk); (try clear hi)))
      go_meet
      case rel => exact ⟨_, (true), (by first | rfl | (simp; done) | (simp [*]; done)), H', ⟨by first | omega | exact Nat.le_refl _⟩, ⟨by repeat (first | (with_reducible first | exact HB.out | apply below_alloc | apply pw_below_drewN | apply below_drew1) | exact HB.out)⟩⟩
     ·
      rw [if_neg c11] at H
      have c11b0 : decide (a2 < 0) = false := decide_eq_false c11
      clear c11
      by_cases c13 : a1 ≥ (l0.length : Int)
      ·
       rw [if_pos c13] at H
       have c13b0 : decide ((l0.length : Int) ≤ a1) = true := decide_eq_true c13
       clear c13
       have H' := Aside0.mk H
       clear H
       go_wp2_with (first | ((with_reducible refine gate_callee (f := 12) rfl ?_); refine goesL_ (some 9) rfl rfl Try.func12 (by kernel_rfl) rfl #[.slice A0 l0.length c0] rfl (by (try simp only [List.map_toArray, List.map_cons, List.map_nil]); first | done | rfl | (simp only [List.length_drop, List.length_take]; rfl)) ?_; (with_reducible refine (spinetlaw13_Large.calls k _ _ l0 false _ ?side1 ?side2 A5.out).mono ?_); (case side1 => repeat (first | exact (Kd.C_below HR0.out HB.out) | (with_reducible refine Kd.C_alloc ?_ _) | (with_reducible refine Kd.C_drewN ?_ _) | (with_reducible refine Kd.C_drew ?_))); (case side2 => exact HC0.out); rintro e w' ⟨rfl, ⟨nd, rfl⟩⟩; refine ⟨_, rfl, ?_⟩) | (go_at_call 23; (with_reducible refine (spinetref13_Good.calls _ _ l0 true _ ?side1 ?side2 A7.out).mono ?_); (case side1 => repeat (first | exact (Kd.C_below HR0.out (by repeat (first | (with_reducible first | exact HB.out | apply below_alloc | apply pw_below_drewN | apply below_drew1) | exact HB.out))) | (with_reducible refine Kd.C_alloc ?_ _) | (with_reducible refine Kd.C_drewN ?_ _) | (with_reducible refine Kd.C_drew ?_))); (case side2 => exact HC0.out); rintro e w14 ⟨rfl, hb⟩; have n0_ := Aside0.mk (below_step (by repeat (first | (with_reducible first | exact HB.out | apply below_alloc | apply pw_below_drewN | apply below_drew1) | exact HB.out)) hb); clear HB; have HB := n0_; clear n0_; (try clear hb); (try clear hb2); (try clear hk); (try clear hi)))
       go_meet
       case rel => exact ⟨_, (true), (by first | rfl | (simp; done) | (simp [*]; done)), H', ⟨by first | omega | exact Nat.le_refl _⟩, ⟨by repeat (first | (with_reducible first | exact HB.out | apply below_alloc | apply pw_below_drewN | apply below_drew1) | exact HB.out)⟩⟩
      ·
       rw [if_neg c13] at H
       have c13b0 : decide ((l0.length : Int) ≤ a1) = false := decide_eq_false c13
       clear c13
       have H' := Aside0.mk H
       clear H
       go_wp2_with (first | ((with_reducible refine gate_callee (f := 12) rfl ?_); refine goesL_ (some 9) rfl rfl Try.func12 (by kernel_rfl) rfl #[.slice A0 l0.length c0] rfl (by (try simp only [List.map_toArray, List.map_cons, List.map_nil]); first | done | rfl | (simp only [List.length_drop, List.length_take]; rfl)) ?_; (with_reducible refine (spinetlaw13_Large.calls k _ _ l0 false _ ?side1 ?side2 A5.out).mono ?_); (case side1 => repeat (first | exact (Kd.C_below HR0.out HB.out) | (with_reducible refine Kd.C_alloc ?_ _) | (with_reducible refine Kd.C_drewN ?_ _) | (with_reducible refine Kd.C_drew ?_))); (case side2 => exact HC0.out); rintro e w' ⟨rfl, ⟨nd, rfl⟩⟩; refine ⟨_, rfl, ?_⟩) | (go_at_call 23; (with_reducible refine (spinetref13_Good.calls _ _ l0 true _ ?side1 ?side2 A7.out).mono ?_); (case side1 => repeat (first | exact (Kd.C_below HR0.out (by repeat (first | (with_reducible first | exact HB.out | apply below_alloc | apply pw_below_drewN | apply below_drew1) | exact HB.out))) | (with_reducible refine Kd.C_alloc ?_ _) | (with_reducible refine Kd.C_drewN ?_ _) | (with_reducible refine Kd.C_drew ?_))); (case side2 => exact HC0.out); rintro e w15 ⟨rfl, hb⟩; have n0_ := Aside0.mk (below_step (by repeat (first | (with_reducible first | exact HB.out | apply below_alloc | apply pw_below_drewN | apply below_drew1) | exact HB.out)) hb); clear HB; have HB := n0_; clear n0_; (try clear hb); (try clear hb2); (try clear hk); (try clear hi)))
       go_meet
       case rel => exact ⟨_, (decide (a2 ≥ (l0.length : Int))), (by first | rfl | (simp; done) | (simp [*]; done)), H', ⟨by first | omega | exact Nat.le_refl _⟩, ⟨by repeat (first | (with_reducible first | exact HB.out | apply below_alloc | apply pw_below_drewN | apply below_drew1) | exact HB.out)⟩⟩
   ·
    replace c8 := Bool.eq_false_iff.mpr c8
    subst c8
    have H1 : (spinetlaw13_TypesOrder.j0 k l0 a1 a2 true) = some r := by rw [if_neg (show ¬ (false = true) by decide)] at H; exact H
    clear H
    have H := H1
    clear H1
    have H' := Aside0.mk H
    clear H
    go_wp2_with (first | ((with_reducible refine gate_callee (f := 12) rfl ?_); refine goesL_ (some 9) rfl rfl Try.func12 (by kernel_rfl) rfl #[.slice A0 l0.length c0] rfl (by (try simp only [List.map_toArray, List.map_cons, List.map_nil]); first | done | rfl | (simp only [List.length_drop, List.length_take]; rfl)) ?_; (with_reducible refine (spinetlaw13_Large.calls k _ _ l0 false _ ?side1 ?side2 A5.out).mono ?_); (case side1 => repeat (first | exact (Kd.C_below HR0.out HB.out) | (with_reducible refine Kd.C_alloc ?_ _) | (with_reducible refine Kd.C_drewN ?_ _) | (with_reducible refine Kd.C_drew ?_))); (case side2 => exact HC0.out); rintro e w' ⟨rfl, ⟨nd, rfl⟩⟩; refine ⟨_, rfl, ?_⟩) | (go_at_call 23; (with_reducible refine (spinetref13_Good.calls _ _ l0 false _ ?side1 ?side2 A7.out).mono ?_); (case side1 => repeat (first | exact (Kd.C_below HR0.out (by repeat (first | (with_reducible first | exact HB.out | apply below_alloc | apply pw_below_drewN | apply below_drew1) | exact HB.out))) | (with_reducible refine Kd.C_alloc ?_ _) | (with_reducible refine Kd.C_drewN ?_ _) | (with_reducible refine Kd.C_drew ?_))); (case side2 => exact HC0.out); rintro e w16 ⟨rfl, hb⟩; have n0_ := Aside0.mk (below_step (by repeat (first | (with_reducible first | exact HB.out | apply below_alloc | apply pw_below_drewN | apply below_drew1) | exact HB.out)) hb); clear HB; have HB := n0_; clear n0_; (try clear hb); (try clear hb2); (try clear hk); (try clear hi)))
    go_meet
    case rel => exact ⟨_, (true), (by first | rfl | (simp; done) | (simp [*]; done)), H', ⟨by first | omega | exact Nat.le_refl _⟩, ⟨by repeat (first | (with_reducible first | exact HB.out | apply below_alloc | apply pw_below_drewN | apply below_drew1) | exact HB.out)⟩⟩
 case rest =>
  clear HC4
  try clear c1
  try clear p2
  try clear c6
  try clear c8
  try clear c9
  try clear c9b0
  try clear c11
  try clear c11b0
  try clear c12
  try clear c13
  try clear c13b0
  obtain ⟨kq, x34_3, rfl, HA, HJ3, HB⟩ := hcut
  cases kq with
  | zero => exact absurd HA.out (by simp [spinetlaw13_TypesOrder.j0])
  | succ kj3 =>
   have H := HA.out
   clear HA
   simp only [spinetlaw13_TypesOrder.j0] at H
   by_cases c17 : x34_3 = true
   ·
    subst c17
    have H1 : ((spinetlaw13_wakes.f kj3).bind fun t234 => (some t234)) = some r := by rw [if_pos rfl] at H; exact H
    clear H
    have H := H1
    clear H1
    replace H := Option.bind_eq_some_iff.mp H
    obtain ⟨t234, A180, H⟩ := H
    replace H : (some t234) = some r := H
    have A18 := Aside0.mk A180
    clear A180
    obtain rfl := Option.some.inj H
    go_wp2_with (first | ((with_reducible refine gate_callee (f := 24) rfl ?_); refine goesL_ (some 35) rfl rfl Try.func24 (by kernel_rfl) rfl #[] rfl (by (try simp only [List.map_toArray, List.map_cons, List.map_nil]); first | done | rfl | (simp only [List.length_drop, List.length_take]; rfl)) ?_; (with_reducible refine (spinetlaw13_wakes.calls kj3  t234 _ A18.out).mono ?_); rintro e w19 ⟨rfl, hb⟩; refine ⟨_, rfl, ?_⟩; have n0_ := Aside0.mk (below_step (by repeat (first | (with_reducible first | exact HB.out | apply below_alloc | apply pw_below_drewN | apply below_drew1) | exact HB.out)) hb); clear HB; have HB := n0_; clear n0_; (try clear hb); (try clear hb2); (try clear hk); (try clear hi)))
    go_ret
    exact ⟨by first | rfl | (simp [errW_none, errW_some] <;> rfl) | (simp [*, errW_none, errW_some] <;> rfl), by repeat (first | (with_reducible first | exact HB.out | apply below_alloc | apply pw_below_drewN | apply below_drew1) | exact HB.out)⟩
   ·
    replace c17 := Bool.eq_false_iff.mpr c17
    subst c17
    have H1 : ((spinetref13_Copy.f l0).bind fun t235 => ((types_Same.f kj3 t235 a1 a2).bind fun t238 => ((types_Same.f kj3 t235 a2 a1).bind fun t239 => (if (t238 != t239) = true then (spinetlaw13_TypesOrder.j1 kj3 l0 a1 a2 t235 true) else ((types_Same.f kj3 t235 a1 a1).bind fun t240 => (spinetlaw13_TypesOrder.j1 kj3 l0 a1 a2 t235 (!t240))))))) = some r := by rw [if_neg (show ¬ (false = true) by decide)] at H; exact H
    clear H
    have H := H1
    clear H1
    replace H := Option.bind_eq_some_iff.mp H
    obtain ⟨t235, A200, H⟩ := H
    replace H : ((types_Same.f kj3 t235 a1 a2).bind fun t238 => ((types_Same.f kj3 t235 a2 a1).bind fun t239 => (if (t238 != t239) = true then (spinetlaw13_TypesOrder.j1 kj3 l0 a1 a2 t235 true) else ((types_Same.f kj3 t235 a1 a1).bind fun t240 => (spinetlaw13_TypesOrder.j1 kj3 l0 a1 a2 t235 (!t240)))))) = some r := H
    have A20 := Aside0.mk A200
    clear A200
    have HC21 := Aside0.mk H
    clear H
    go_upto_region 4 with (first | ((with_reducible refine gate_callee (f := 14) rfl ?_); refine goesL_ (some 37) rfl rfl Try.func14 (by kernel_rfl) rfl #[.slice A0 l0.length c0] rfl (by (try simp only [List.map_toArray, List.map_cons, List.map_nil]); first | done | rfl | (simp only [List.length_drop, List.length_take]; rfl)) ?_; (with_reducible refine (spinetref13_Copy.calls _ _ l0 t235 _ ?side1 ?side2 A20.out).mono ?_); (case side1 => repeat (first | exact (Kd.C_below HR0.out HB.out) | (with_reducible refine Kd.C_alloc ?_ _) | (with_reducible refine Kd.C_drewN ?_ _) | (with_reducible refine Kd.C_drew ?_))); (case side2 => exact HC0.out); rintro e w22 ⟨v236, rfl, ho0, hb⟩; refine ⟨_, rfl, ?_⟩; have n0_ := Aside0.mk (Kd.S_lower ho0 (below_size (by repeat (first | (with_reducible first | exact HB.out | apply below_alloc | apply pw_below_drewN | apply below_drew1) | exact HB.out)))); have n1_ := Aside0.mk (below_step (by repeat (first | (with_reducible first | exact HB.out | apply below_alloc | apply pw_below_drewN | apply below_drew1) | exact HB.out)) hb); clear HB; have HO237 := n0_; have HB := n1_; clear n0_ n1_; (try clear hb); (try clear hb2); (try clear hk); (try clear hi); (try clear ho0)))
    (try simp only [Act.put, List.setIfInBounds_toArray, List.set_cons_zero, List.set_cons_succ])
    go_cut [53] (fun v53 wc => ∃ (kq : Nat) (x53_20 : Bool), v53 = .bool x53_20 ∧ Aside0 (spinetlaw13_TypesOrder.j1 kq l0 a1 a2 t235 x53_20 = some r) ∧ Aside0 (kq ≤ kj3) ∧ Aside0 (Kd.S k40 40 wc w.heap.size (fun _ => True) v236 t235) ∧ Aside0 (Below w.heap.size w wc))
    case first =>
     have H := HC21.out
     clear HC21
     replace H := Option.bind_eq_some_iff.mp H
     obtain ⟨t238, A230, H⟩ := H
     replace H : ((types_Same.f kj3 t235 a2 a1).bind fun t239 => (if (t238 != t239) = true then (spinetlaw13_TypesOrder.j1 kj3 l0 a1 a2 t235 true) else ((types_Same.f kj3 t235 a1 a1).bind fun t240 => (spinetlaw13_TypesOrder.j1 kj3 l0 a1 a2 t235 (!t240))))) = some r := H
     have A23 := Aside0.mk A230
     clear A230
     replace H := Option.bind_eq_some_iff.mp H
     obtain ⟨t239, A240, H⟩ := H
     replace H : (if (t238 != t239) = true then (spinetlaw13_TypesOrder.j1 kj3 l0 a1 a2 t235 true) else ((types_Same.f kj3 t235 a1 a1).bind fun t240 => (spinetlaw13_TypesOrder.j1 kj3 l0 a1 a2 t235 (!t240)))) = some r := H
     have A24 := Aside0.mk A240
     clear A240
     by_cases c25 : (t238 != t239) = true
     ·
      rw [if_pos c25] at H
      have c25b0 : (t238 != t239) = true := c25
      (try (have c25b1 : decide (t238 = t239) = false := by simpa using c25))
      (try (have c25b2 : (t238 == t239) = false := by simpa using c25))
      (try (have c25b3 : ¬ (t238 = t239) := by simpa using c25))
      clear c25
      (first | rw [c25b0] | (simp only [i64_w, i32_w]; rw [c25b0]) | skip)
      have H' := Aside0.mk H
      clear H
      obtain ⟨Ao26, co26, eo26⟩ := Kd.S_slice HO237.out
      subst eo26
      go_wp2_with (first | ((with_reducible refine gate_callee (f := 28) rfl ?_); refine goesL_ (some 41) rfl rfl Try.func28 (by kernel_rfl) rfl #[.slice Ao26 t235.length co26, .int .i64 a1, .int .i64 a2] rfl (by (try simp only [List.map_toArray, List.map_cons, List.map_nil]); first | done | rfl | (simp only [List.length_drop, List.length_take]; rfl)) ?_; (with_reducible refine (types_Same.calls kj3 _ _ t235 a1 a2 t238 _ ?side1 ?side2 A23.out).mono ?_); (case side1 => repeat (first | exact (Kd.S_reads' HO237.out).2.2 | (with_reducible refine Kd.C_alloc ?_ _) | (with_reducible refine Kd.C_drewN ?_ _) | (with_reducible refine Kd.C_drew ?_))); (case side2 => exact (Kd.S_reads' HO237.out).2.1); rintro e w27 ⟨rfl, hb⟩; refine ⟨_, rfl, ?_⟩; have n0_ := Aside0.mk (Kd.S_below (by (with_reducible repeat (first | apply Kd.S_alloc | apply Kd.S_drewN | apply Kd.S_drew)); exact HO237.out) hb); have n1_ := Aside0.mk (below_step (by repeat (first | (with_reducible first | exact HB.out | apply below_alloc | apply pw_below_drewN | apply below_drew1) | exact HB.out)) hb); clear HO237; clear HB; have HO237 := n0_; have HB := n1_; clear n0_ n1_; (try clear hb); (try clear hb2); (try clear hk); (try clear hi)) | ((with_reducible refine gate_callee (f := 28) rfl ?_); refine goesL_ (some 45) rfl rfl Try.func28 (by kernel_rfl) rfl #[.slice Ao26 t235.length co26, .int .i64 a2, .int .i64 a1] rfl (by (try simp only [List.map_toArray, List.map_cons, List.map_nil]); first | done | rfl | (simp only [List.length_drop, List.length_take]; rfl)) ?_; (with_reducible refine (types_Same.calls kj3 _ _ t235 a2 a1 t239 _ ?side1 ?side2 A24.out).mono ?_); (case side1 => repeat (first | exact (Kd.S_reads' HO237.out).2.2 | (with_reducible refine Kd.C_alloc ?_ _) | (with_reducible refine Kd.C_drewN ?_ _) | (with_reducible refine Kd.C_drew ?_))); (case side2 => exact (Kd.S_reads' HO237.out).2.1); rintro e w28 ⟨rfl, hb⟩; refine ⟨_, rfl, ?_⟩; have n0_ := Aside0.mk (Kd.S_below (by (with_reducible repeat (first | apply Kd.S_alloc | apply Kd.S_drewN | apply Kd.S_drew)); exact HO237.out) hb); have n1_ := Aside0.mk (below_step (by repeat (first | (with_reducible first | exact HB.out | apply below_alloc | apply pw_below_drewN | apply below_drew1) | exact HB.out)) hb); clear HO237; clear HB; have HO237 := n0_; have HB := n1_; clear n0_ n1_; (try clear hb); (try clear hb2); (try clear hk); (try clear hi)))
      go_meet
      case rel => exact ⟨_, (true), (by first | rfl | (simp; done) | (simp [*]; done)), H', ⟨by have := HJ3.out; first | omega | exact Nat.le_refl _⟩, ⟨by (with_reducible repeat (first | apply Kd.S_alloc | apply Kd.S_drewN | apply Kd.S_drew)); exact HO237.out⟩, ⟨by repeat (first | (with_reducible first | exact HB.out | apply below_alloc | apply pw_below_drewN | apply below_drew1) | exact HB.out)⟩⟩
     ·
      rw [if_neg c25] at H
      have c25b0 : (t238 != t239) = false := by simpa using c25
      (try (have c25b1 : decide (t238 = t239) = true := by simpa using c25))
      (try (have c25b2 : (t238 == t239) = true := by simpa using c25))
      clear c25
      (first | rw [c25b0] | (simp only [i64_w, i32_w]; rw [c25b0]) | skip)
      replace H := Option.bind_eq_some_iff.mp H
      obtain ⟨t240, A290, H⟩ := H
      replace H : (spinetlaw13_TypesOrder.j1 kj3 l0 a1 a2 t235 (!t240)) = some r := H
      have A29 := Aside0.mk A290
      clear A290
      have H' := Aside0.mk H
      clear H
      obtain ⟨Ao30, co30, eo30⟩ := Kd.S_slice HO237.out
      subst eo30
      go_wp2_with (first | ((with_reducible refine gate_callee (f := 28) rfl ?_); refine goesL_ (some 41) rfl rfl Try.func28 (by kernel_rfl) rfl #[.slice Ao30 t235.length co30, .int .i64 a1, .int .i64 a2] rfl (by (try simp only [List.map_toArray, List.map_cons, List.map_nil]); first | done | rfl | (simp only [List.length_drop, List.length_take]; rfl)) ?_; (with_reducible refine (types_Same.calls kj3 _ _ t235 a1 a2 t238 _ ?side1 ?side2 A23.out).mono ?_); (case side1 => repeat (first | exact (Kd.S_reads' HO237.out).2.2 | (with_reducible refine Kd.C_alloc ?_ _) | (with_reducible refine Kd.C_drewN ?_ _) | (with_reducible refine Kd.C_drew ?_))); (case side2 => exact (Kd.S_reads' HO237.out).2.1); rintro e w31 ⟨rfl, hb⟩; refine ⟨_, rfl, ?_⟩; have n0_ := Aside0.mk (Kd.S_below (by (with_reducible repeat (first | apply Kd.S_alloc | apply Kd.S_drewN | apply Kd.S_drew)); exact HO237.out) hb); have n1_ := Aside0.mk (below_step (by repeat (first | (with_reducible first | exact HB.out | apply below_alloc | apply pw_below_drewN | apply below_drew1) | exact HB.out)) hb); clear HO237; clear HB; have HO237 := n0_; have HB := n1_; clear n0_ n1_; (try clear hb); (try clear hb2); (try clear hk); (try clear hi)) | ((with_reducible refine gate_callee (f := 28) rfl ?_); refine goesL_ (some 45) rfl rfl Try.func28 (by kernel_rfl) rfl #[.slice Ao30 t235.length co30, .int .i64 a2, .int .i64 a1] rfl (by (try simp only [List.map_toArray, List.map_cons, List.map_nil]); first | done | rfl | (simp only [List.length_drop, List.length_take]; rfl)) ?_; (with_reducible refine (types_Same.calls kj3 _ _ t235 a2 a1 t239 _ ?side1 ?side2 A24.out).mono ?_); (case side1 => repeat (first | exact (Kd.S_reads' HO237.out).2.2 | (with_reducible refine Kd.C_alloc ?_ _) | (with_reducible refine Kd.C_drewN ?_ _) | (with_reducible refine Kd.C_drew ?_))); (case side2 => exact (Kd.S_reads' HO237.out).2.1); rintro e w32 ⟨rfl, hb⟩; refine ⟨_, rfl, ?_⟩; have n0_ := Aside0.mk (Kd.S_below (by (with_reducible repeat (first | apply Kd.S_alloc | apply Kd.S_drewN | apply Kd.S_drew)); exact HO237.out) hb); have n1_ := Aside0.mk (below_step (by repeat (first | (with_reducible first | exact HB.out | apply below_alloc | apply pw_below_drewN | apply below_drew1) | exact HB.out)) hb); clear HO237; clear HB; have HO237 := n0_; have HB := n1_; clear n0_ n1_; (try clear hb); (try clear hb2); (try clear hk); (try clear hi)) | (go_at_call 28; (with_reducible refine (types_Same.calls kj3 _ _ t235 a1 a1 t240 _ ?side1 ?side2 A29.out).mono ?_); (case side1 => repeat (first | exact (Kd.S_reads' HO237.out).2.2 | (with_reducible refine Kd.C_alloc ?_ _) | (with_reducible refine Kd.C_drewN ?_ _) | (with_reducible refine Kd.C_drew ?_))); (case side2 => exact (Kd.S_reads' HO237.out).2.1); rintro e w33 ⟨rfl, hb⟩; have n0_ := Aside0.mk (Kd.S_below (by (with_reducible repeat (first | apply Kd.S_alloc | apply Kd.S_drewN | apply Kd.S_drew)); exact HO237.out) hb); have n1_ := Aside0.mk (below_step (by repeat (first | (with_reducible first | exact HB.out | apply below_alloc | apply pw_below_drewN | apply below_drew1) | exact HB.out)) hb); clear HO237; clear HB; have HO237 := n0_; have HB := n1_; clear n0_ n1_; (try clear hb); (try clear hb2); (try clear hk); (try clear hi)))
      go_meet
      case rel => exact ⟨_, (!t240), (by first | rfl | (simp; done) | (simp [*]; done)), H', ⟨by have := HJ3.out; first | omega | exact Nat.le_refl _⟩, ⟨by (with_reducible repeat (first | apply Kd.S_alloc | apply Kd.S_drewN | apply Kd.S_drew)); exact HO237.out⟩, ⟨by repeat (first | (with_reducible first | exact HB.out | apply below_alloc | apply pw_below_drewN | apply below_drew1) | exact HB.out)⟩⟩
    case rest =>
     clear HC21
     try clear c1
     try clear c2
     try clear p2
     try clear c6
     try clear c8
     try clear c9
     try clear c9b0
     try clear c11
     try clear c11b0
     try clear c12
     try clear c13
     try clear c13b0
     try clear c14
     try clear c17
     try clear c24
     try clear c25
     try clear c25b0
     try clear c25b1
     try clear c25b2
     try clear c28
     try clear p2
     obtain ⟨kq, x53_20, rfl, HA, HJ20, HO_7, HB⟩ := hcut
     cases kq with
     | zero => exact absurd HA.out (by simp [spinetlaw13_TypesOrder.j1])
     | succ kj20 =>
      have H := HA.out
      clear HA
      simp only [spinetlaw13_TypesOrder.j1] at H
      by_cases c34 : x53_20 = true
      ·
       subst c34
       have H1 : (some false) = some r := by rw [if_pos rfl] at H; exact H
       exact absurd ((Option.some.inj H1).trans hrt.out) (by decide)
      ·
       replace c34 := Bool.eq_false_iff.mpr c34
       subst c34
       have H1 : ((types_Extends.f kj20 t235 a1 a2).bind fun t241 => (if t241 = true then ((types_Assign.f kj20 t235 a1 a2).bind fun t242 => (if t242 = true then ((types_Extends.f kj20 t235 a2 a1).bind fun t243 => ((types_Same.f kj20 t235 a1 a2).bind fun t244 => (if (t243 != t244) = true then (if 0 ≤ a1 then (if a1 < (l0.length : Int) then (if ((rd_T40 l0 a1).f0) = 9 then (spinetlaw13_TypesOrder.j2 kj20 l0 a1 a2 t235 true) else ((types_Level.f kj20 t235 a1).bind fun t246 => ((types_Level.f kj20 t235 a2).bind fun t247 => (spinetlaw13_TypesOrder.j2 kj20 l0 a1 a2 t235 (decide (t246 < t247)))))) else (none)) else (none)) else ((types_Level.f kj20 t235 a1).bind fun t248 => ((types_Level.f kj20 t235 a2).bind fun t249 => (spinetlaw13_TypesOrder.j2 kj20 l0 a1 a2 t235 (decide (t248 < t249)))))))) else (spinetlaw13_TypesOrder.j2 kj20 l0 a1 a2 t235 true))) else ((spinetlaw13_wakes.f kj20).bind fun t257 => (some t257)))) = some r := by rw [if_neg (show ¬ (false = true) by decide)] at H; exact H
       clear H
       have H := H1
       clear H1
       replace H := Option.bind_eq_some_iff.mp H
       obtain ⟨t241, A350, H⟩ := H
       replace H : (if t241 = true then ((types_Assign.f kj20 t235 a1 a2).bind fun t242 => (if t242 = true then ((types_Extends.f kj20 t235 a2 a1).bind fun t243 => ((types_Same.f kj20 t235 a1 a2).bind fun t244 => (if (t243 != t244) = true then (if 0 ≤ a1 then (if a1 < (l0.length : Int) then (if ((rd_T40 l0 a1).f0) = 9 then (spinetlaw13_TypesOrder.j2 kj20 l0 a1 a2 t235 true) else ((types_Level.f kj20 t235 a1).bind fun t246 => ((types_Level.f kj20 t235 a2).bind fun t247 => (spinetlaw13_TypesOrder.j2 kj20 l0 a1 a2 t235 (decide (t246 < t247)))))) else (none)) else (none)) else ((types_Level.f kj20 t235 a1).bind fun t248 => ((types_Level.f kj20 t235 a2).bind fun t249 => (spinetlaw13_TypesOrder.j2 kj20 l0 a1 a2 t235 (decide (t248 < t249)))))))) else (spinetlaw13_TypesOrder.j2 kj20 l0 a1 a2 t235 true))) else ((spinetlaw13_wakes.f kj20).bind fun t257 => (some t257))) = some r := H
       have A35 := Aside0.mk A350
       clear A350
       by_cases c36 : t241 = true
       ·
        subst c36
        have H1 : ((types_Assign.f kj20 t235 a1 a2).bind fun t242 => (if t242 = true then ((types_Extends.f kj20 t235 a2 a1).bind fun t243 => ((types_Same.f kj20 t235 a1 a2).bind fun t244 => (if (t243 != t244) = true then (if 0 ≤ a1 then (if a1 < (l0.length : Int) then (if ((rd_T40 l0 a1).f0) = 9 then (spinetlaw13_TypesOrder.j2 kj20 l0 a1 a2 t235 true) else ((types_Level.f kj20 t235 a1).bind fun t246 => ((types_Level.f kj20 t235 a2).bind fun t247 => (spinetlaw13_TypesOrder.j2 kj20 l0 a1 a2 t235 (decide (t246 < t247)))))) else (none)) else (none)) else ((types_Level.f kj20 t235 a1).bind fun t248 => ((types_Level.f kj20 t235 a2).bind fun t249 => (spinetlaw13_TypesOrder.j2 kj20 l0 a1 a2 t235 (decide (t248 < t249)))))))) else (spinetlaw13_TypesOrder.j2 kj20 l0 a1 a2 t235 true))) = some r := by rw [if_pos rfl] at H; exact H
        clear H
        have H := H1
        clear H1
        have HC37 := Aside0.mk H
        clear H
        obtain ⟨Ao38, co38, eo38⟩ := Kd.S_slice HO_7.out
        subst eo38
        go_upto_region 7 with (first | ((with_reducible refine gate_callee (f := 29) rfl ?_); refine goesL_ (some 57) rfl rfl Try.func29 (by kernel_rfl) rfl #[.slice Ao38 t235.length co38, .int .i64 a1, .int .i64 a2] rfl (by (try simp only [List.map_toArray, List.map_cons, List.map_nil]); first | done | rfl | (simp only [List.length_drop, List.length_take]; rfl)) ?_; (with_reducible refine (types_Extends.calls kj20 _ _ t235 a1 a2 true _ ?side1 ?side2 A35.out).mono ?_); (case side1 => repeat (first | exact (Kd.S_reads' HO_7.out).2.2 | (with_reducible refine Kd.C_alloc ?_ _) | (with_reducible refine Kd.C_drewN ?_ _) | (with_reducible refine Kd.C_drew ?_))); (case side2 => exact (Kd.S_reads' HO_7.out).2.1); rintro e w39 ⟨rfl, hb⟩; refine ⟨_, rfl, ?_⟩; have n0_ := Aside0.mk (Kd.S_below (by (with_reducible repeat (first | apply Kd.S_alloc | apply Kd.S_drewN | apply Kd.S_drew)); exact HO_7.out) hb); have n1_ := Aside0.mk (below_step (by repeat (first | (with_reducible first | exact HB.out | apply below_alloc | apply pw_below_drewN | apply below_drew1) | exact HB.out)) hb); clear HO_7; clear HB; have HO_7 := n0_; have HB := n1_; clear n0_ n1_; (try clear hb); (try clear hb2); (try clear hk); (try clear hi)))
        (try simp only [Act.put, List.setIfInBounds_toArray, List.set_cons_zero, List.set_cons_succ])
        go_cut [90] (fun v90 wc => ∃ (kq : Nat) (x90_36 : Bool), v90 = .bool x90_36 ∧ Aside0 (spinetlaw13_TypesOrder.j2 kq l0 a1 a2 t235 x90_36 = some r) ∧ Aside0 (kq ≤ kj20) ∧ Aside0 (Kd.S k40 40 wc w.heap.size (fun _ => True) (.slice Ao38 t235.length co38) t235) ∧ Aside0 (Below w.heap.size w wc))
        case first =>
         have H := HC37.out
         clear HC37
         replace H := Option.bind_eq_some_iff.mp H
         obtain ⟨t242, A400, H⟩ := H
         replace H : (if t242 = true then ((types_Extends.f kj20 t235 a2 a1).bind fun t243 => ((types_Same.f kj20 t235 a1 a2).bind fun t244 => (if (t243 != t244) = true then (if 0 ≤ a1 then (if a1 < (l0.length : Int) then (if ((rd_T40 l0 a1).f0) = 9 then (spinetlaw13_TypesOrder.j2 kj20 l0 a1 a2 t235 true) else ((types_Level.f kj20 t235 a1).bind fun t246 => ((types_Level.f kj20 t235 a2).bind fun t247 => (spinetlaw13_TypesOrder.j2 kj20 l0 a1 a2 t235 (decide (t246 < t247)))))) else (none)) else (none)) else ((types_Level.f kj20 t235 a1).bind fun t248 => ((types_Level.f kj20 t235 a2).bind fun t249 => (spinetlaw13_TypesOrder.j2 kj20 l0 a1 a2 t235 (decide (t248 < t249)))))))) else (spinetlaw13_TypesOrder.j2 kj20 l0 a1 a2 t235 true)) = some r := H
         have A40 := Aside0.mk A400
         clear A400
         by_cases c41 : t242 = true
         ·
          subst c41
          have H1 : ((types_Extends.f kj20 t235 a2 a1).bind fun t243 => ((types_Same.f kj20 t235 a1 a2).bind fun t244 => (if (t243 != t244) = true then (if 0 ≤ a1 then (if a1 < (l0.length : Int) then (if ((rd_T40 l0 a1).f0) = 9 then (spinetlaw13_TypesOrder.j2 kj20 l0 a1 a2 t235 true) else ((types_Level.f kj20 t235 a1).bind fun t246 => ((types_Level.f kj20 t235 a2).bind fun t247 => (spinetlaw13_TypesOrder.j2 kj20 l0 a1 a2 t235 (decide (t246 < t247)))))) else (none)) else (none)) else ((types_Level.f kj20 t235 a1).bind fun t248 => ((types_Level.f kj20 t235 a2).bind fun t249 => (spinetlaw13_TypesOrder.j2 kj20 l0 a1 a2 t235 (decide (t248 < t249)))))))) = some r := by rw [if_pos rfl] at H; exact H
          clear H
          have H := H1
          clear H1
          replace H := Option.bind_eq_some_iff.mp H
          obtain ⟨t243, A420, H⟩ := H
          replace H : ((types_Same.f kj20 t235 a1 a2).bind fun t244 => (if (t243 != t244) = true then (if 0 ≤ a1 then (if a1 < (l0.length : Int) then (if ((rd_T40 l0 a1).f0) = 9 then (spinetlaw13_TypesOrder.j2 kj20 l0 a1 a2 t235 true) else ((types_Level.f kj20 t235 a1).bind fun t246 => ((types_Level.f kj20 t235 a2).bind fun t247 => (spinetlaw13_TypesOrder.j2 kj20 l0 a1 a2 t235 (decide (t246 < t247)))))) else (none)) else (none)) else ((types_Level.f kj20 t235 a1).bind fun t248 => ((types_Level.f kj20 t235 a2).bind fun t249 => (spinetlaw13_TypesOrder.j2 kj20 l0 a1 a2 t235 (decide (t248 < t249))))))) = some r := H
          have A42 := Aside0.mk A420
          clear A420
          replace H := Option.bind_eq_some_iff.mp H
          obtain ⟨t244, A430, H⟩ := H
          replace H : (if (t243 != t244) = true then (if 0 ≤ a1 then (if a1 < (l0.length : Int) then (if ((rd_T40 l0 a1).f0) = 9 then (spinetlaw13_TypesOrder.j2 kj20 l0 a1 a2 t235 true) else ((types_Level.f kj20 t235 a1).bind fun t246 => ((types_Level.f kj20 t235 a2).bind fun t247 => (spinetlaw13_TypesOrder.j2 kj20 l0 a1 a2 t235 (decide (t246 < t247)))))) else (none)) else (none)) else ((types_Level.f kj20 t235 a1).bind fun t248 => ((types_Level.f kj20 t235 a2).bind fun t249 => (spinetlaw13_TypesOrder.j2 kj20 l0 a1 a2 t235 (decide (t248 < t249)))))) = some r := H
          have A43 := Aside0.mk A430
          clear A430
          by_cases c44 : (t243 != t244) = true
          ·
           rw [if_pos c44] at H
           have c44b0 : (t243 != t244) = true := c44
           (try (have c44b1 : decide (t243 = t244) = false := by simpa using c44))
           (try (have c44b2 : (t243 == t244) = false := by simpa using c44))
           (try (have c44b3 : ¬ (t243 = t244) := by simpa using c44))
           clear c44
           (first | rw [c44b0] | (simp only [i64_w, i32_w]; rw [c44b0]) | skip)
           by_cases c45 : 0 ≤ a1
           ·
            rw [if_pos c45] at H
            have c45b0 : decide (0 ≤ a1) = true := decide_eq_true c45
            clear c45
            by_cases c46 : a1 < (l0.length : Int)
            ·
             rw [if_pos c46] at H
             have c46b0 : decide (a1 < (l0.length : Int)) = true := decide_eq_true c46
             clear c46
             by_cases c47 : ((rd_T40 l0 a1).f0) = 9
             ·
              rw [if_pos c47] at H
              have c47b0 : (((rd_T40 l0 a1).f0) == 9) = true := beq_iff_eq.mpr c47
              have c47b1 : (((rd_T40 l0 a1).f0) != 9) = false := bne_eq_false_iff_eq.mpr c47
              clear c47
              have H' := Aside0.mk H
              clear H
              go_wp2_with (first | ((with_reducible refine gate_callee (f := 30) rfl ?_); refine goesL_ (some 61) rfl rfl Try.func30 (by kernel_rfl) rfl #[.slice Ao38 t235.length co38, .int .i64 a1, .int .i64 a2] rfl (by (try simp only [List.map_toArray, List.map_cons, List.map_nil]); first | done | rfl | (simp only [List.length_drop, List.length_take]; rfl)) ?_; (with_reducible refine (types_Assign.calls kj20 _ _ t235 a1 a2 true _ ?side1 ?side2 A40.out).mono ?_); (case side1 => repeat (first | exact (Kd.S_reads' HO_7.out).2.2 | (with_reducible refine Kd.C_alloc ?_ _) | (with_reducible refine Kd.C_drewN ?_ _) | (with_reducible refine Kd.C_drew ?_))); (case side2 => exact (Kd.S_reads' HO_7.out).2.1); rintro e w48 ⟨rfl, hb⟩; refine ⟨_, rfl, ?_⟩; have n0_ := Aside0.mk (Kd.S_below (by (with_reducible repeat (first | apply Kd.S_alloc | apply Kd.S_drewN | apply Kd.S_drew)); exact HO_7.out) hb); have n1_ := Aside0.mk (below_step (by repeat (first | (with_reducible first | exact HB.out | apply below_alloc | apply pw_below_drewN | apply below_drew1) | exact HB.out)) hb); clear HO_7; clear HB; have HO_7 := n0_; have HB := n1_; clear n0_ n1_; (try clear hb); (try clear hb2); (try clear hk); (try clear hi)) | (go_at_call 29; (with_reducible refine (types_Extends.calls kj20 _ _ t235 a2 a1 t243 _ ?side1 ?side2 A42.out).mono ?_); (case side1 => repeat (first | exact (Kd.S_reads' HO_7.out).2.2 | (with_reducible refine Kd.C_alloc ?_ _) | (with_reducible refine Kd.C_drewN ?_ _) | (with_reducible refine Kd.C_drew ?_))); (case side2 => exact (Kd.S_reads' HO_7.out).2.1); rintro e w49 ⟨rfl, hb⟩; have n0_ := Aside0.mk (Kd.S_below (by (with_reducible repeat (first | apply Kd.S_alloc | apply Kd.S_drewN | apply Kd.S_drew)); exact HO_7.out) hb); have n1_ := Aside0.mk (below_step (by repeat (first | (with_reducible first | exact HB.out | apply below_alloc | apply pw_below_drewN | apply below_drew1) | exact HB.out)) hb); clear HO_7; clear HB; have HO_7 := n0_; have HB := n1_; clear n0_ n1_; (try clear hb); (try clear hb2); (try clear hk); (try clear hi)) | (go_at_call 28; (with_reducible refine (types_Same.calls kj20 _ _ t235 a1 a2 t244 _ ?side1 ?side2 A43.out).mono ?_); (case side1 => repeat (first | exact (Kd.S_reads' HO_7.out).2.2 | (with_reducible refine Kd.C_alloc ?_ _) | (with_reducible refine Kd.C_drewN ?_ _) | (with_reducible refine Kd.C_drew ?_))); (case side2 => exact (Kd.S_reads' HO_7.out).2.1); rintro e w50 ⟨rfl, hb⟩; have n0_ := Aside0.mk (Kd.S_below (by (with_reducible repeat (first | apply Kd.S_alloc | apply Kd.S_drewN | apply Kd.S_drew)); exact HO_7.out) hb); have n1_ := Aside0.mk (below_step (by repeat (first | (with_reducible first | exact HB.out | apply below_alloc | apply pw_below_drewN | apply below_drew1) | exact HB.out)) hb); clear HO_7; clear HB; have HO_7 := n0_; have HB := n1_; clear n0_ n1_; (try clear hb); (try clear hb2); (try clear hk); (try clear hi); have p245 : 0 ≤ (a1 : Int) := of_decide_eq_true (by first | (with_reducible assumption) | assumption); have q245 : a1 < (l0.length : Int) := of_decide_eq_true (by first | (with_reducible assumption) | assumption); obtain ⟨ad245, A245_6, c245_6, A245_7, c245_7, e245, hx245_0, hx245_1, hx245_2, hx245_3, hx245_4, hx245_5, hx245_6, hx245_7, hx245_8, hx245_9, hl245_6, hi245_6, hl245_7, hi245_7⟩ := at_T40 HR0.out a1 p245 q245; cases e245; replace hx245_0 := (HB.out.cell (World.block_lt_of_cell? w _ hx245_0)).trans hx245_0; replace hx245_1 := (HB.out.cell (World.block_lt_of_cell? w _ hx245_1)).trans hx245_1; replace hx245_2 := (HB.out.cell (World.block_lt_of_cell? w _ hx245_2)).trans hx245_2; replace hx245_3 := (HB.out.cell (World.block_lt_of_cell? w _ hx245_3)).trans hx245_3; replace hx245_4 := (HB.out.cell (World.block_lt_of_cell? w _ hx245_4)).trans hx245_4; replace hx245_5 := (HB.out.cell (World.block_lt_of_cell? w _ hx245_5)).trans hx245_5; replace hx245_6 := (HB.out.cell (World.block_lt_of_cell? w _ hx245_6)).trans hx245_6; replace hx245_7 := (HB.out.cell (World.block_lt_of_cell? w _ hx245_7)).trans hx245_7; replace hx245_8 := (HB.out.cell (World.block_lt_of_cell? w _ hx245_8)).trans hx245_8; replace hx245_9 := (HB.out.cell (World.block_lt_of_cell? w _ hx245_9)).trans hx245_9; have HR245_6 := Aside0.mk hi245_6; have HC245_6 := Aside0.mk hl245_6; clear hi245_6 hl245_6; have HR245_7 := Aside0.mk hi245_7; have HC245_7 := Aside0.mk hl245_7; clear hi245_7 hl245_7; replace p245 := eq_true p245; replace q245 := eq_true q245))
              go_meet
              case rel => exact ⟨_, (true), (by first | rfl | (simp; done) | (simp [*]; done)), H', ⟨by have := HJ3.out; have := HJ20.out; first | omega | exact Nat.le_refl _⟩, ⟨by (with_reducible repeat (first | apply Kd.S_alloc | apply Kd.S_drewN | apply Kd.S_drew)); exact HO_7.out⟩, ⟨by repeat (first | (with_reducible first | exact HB.out | apply below_alloc | apply pw_below_drewN | apply below_drew1) | exact HB.out)⟩⟩
             ·
              rw [if_neg c47] at H
              have c47b0 : (((rd_T40 l0 a1).f0) == 9) = false := beq_eq_false_iff_ne.mpr c47
              have c47b1 : (((rd_T40 l0 a1).f0) != 9) = true := bne_iff_ne.mpr c47
              replace H := Option.bind_eq_some_iff.mp H
              obtain ⟨t246, A510, H⟩ := H
              replace H : ((types_Level.f kj20 t235 a2).bind fun t247 => (spinetlaw13_TypesOrder.j2 kj20 l0 a1 a2 t235 (decide (t246 < t247)))) = some r := H
              have A51 := Aside0.mk A510
              clear A510
              replace H := Option.bind_eq_some_iff.mp H
              obtain ⟨t247, A520, H⟩ := H
              replace H : (spinetlaw13_TypesOrder.j2 kj20 l0 a1 a2 t235 (decide (t246 < t247))) = some r := H
              have A52 := Aside0.mk A520
              clear A520
              have H' := Aside0.mk H
              clear H
              go_wp2_with (first | ((with_reducible refine gate_callee (f := 30) rfl ?_); refine goesL_ (some 61) rfl rfl Try.func30 (by kernel_rfl) rfl #[.slice Ao38 t235.length co38, .int .i64 a1, .int .i64 a2] rfl (by (try simp only [List.map_toArray, List.map_cons, List.map_nil]); first | done | rfl | (simp only [List.length_drop, List.length_take]; rfl)) ?_; (with_reducible refine (types_Assign.calls kj20 _ _ t235 a1 a2 true _ ?side1 ?side2 A40.out).mono ?_); (case side1 => repeat (first | exact (Kd.S_reads' HO_7.out).2.2 | (with_reducible refine Kd.C_alloc ?_ _) | (with_reducible refine Kd.C_drewN ?_ _) | (with_reducible refine Kd.C_drew ?_))); (case side2 => exact (Kd.S_reads' HO_7.out).2.1); rintro e w53 ⟨rfl, hb⟩; refine ⟨_, rfl, ?_⟩; have n0_ := Aside0.mk (Kd.S_below (by (with_reducible repeat (first | apply Kd.S_alloc | apply Kd.S_drewN | apply Kd.S_drew)); exact HO_7.out) hb); have n1_ := Aside0.mk (below_step (by repeat (first | (with_reducible first | exact HB.out | apply below_alloc | apply pw_below_drewN | apply below_drew1) | exact HB.out)) hb); clear HO_7; clear HB; have HO_7 := n0_; have HB := n1_; clear n0_ n1_; (try clear hb); (try clear hb2); (try clear hk); (try clear hi)) | (go_at_call 29; (with_reducible refine (types_Extends.calls kj20 _ _ t235 a2 a1 t243 _ ?side1 ?side2 A42.out).mono ?_); (case side1 => repeat (first | exact (Kd.S_reads' HO_7.out).2.2 | (with_reducible refine Kd.C_alloc ?_ _) | (with_reducible refine Kd.C_drewN ?_ _) | (with_reducible refine Kd.C_drew ?_))); (case side2 => exact (Kd.S_reads' HO_7.out).2.1); rintro e w54 ⟨rfl, hb⟩; have n0_ := Aside0.mk (Kd.S_below (by (with_reducible repeat (first | apply Kd.S_alloc | apply Kd.S_drewN | apply Kd.S_drew)); exact HO_7.out) hb); have n1_ := Aside0.mk (below_step (by repeat (first | (with_reducible first | exact HB.out | apply below_alloc | apply pw_below_drewN | apply below_drew1) | exact HB.out)) hb); clear HO_7; clear HB; have HO_7 := n0_; have HB := n1_; clear n0_ n1_; (try clear hb); (try clear hb2); (try clear hk); (try clear hi)) | (go_at_call 28; (with_reducible refine (types_Same.calls kj20 _ _ t235 a1 a2 t244 _ ?side1 ?side2 A43.out).mono ?_); (case side1 => repeat (first | exact (Kd.S_reads' HO_7.out).2.2 | (with_reducible refine Kd.C_alloc ?_ _) | (with_reducible refine Kd.C_drewN ?_ _) | (with_reducible refine Kd.C_drew ?_))); (case side2 => exact (Kd.S_reads' HO_7.out).2.1); rintro e w55 ⟨rfl, hb⟩; have n0_ := Aside0.mk (Kd.S_below (by (with_reducible repeat (first | apply Kd.S_alloc | apply Kd.S_drewN | apply Kd.S_drew)); exact HO_7.out) hb); have n1_ := Aside0.mk (below_step (by repeat (first | (with_reducible first | exact HB.out | apply below_alloc | apply pw_below_drewN | apply below_drew1) | exact HB.out)) hb); clear HO_7; clear HB; have HO_7 := n0_; have HB := n1_; clear n0_ n1_; (try clear hb); (try clear hb2); (try clear hk); (try clear hi); have p245 : 0 ≤ (a1 : Int) := of_decide_eq_true (by first | (with_reducible assumption) | assumption); have q245 : a1 < (l0.length : Int) := of_decide_eq_true (by first | (with_reducible assumption) | assumption); obtain ⟨ad245, A245_6, c245_6, A245_7, c245_7, e245, hx245_0, hx245_1, hx245_2, hx245_3, hx245_4, hx245_5, hx245_6, hx245_7, hx245_8, hx245_9, hl245_6, hi245_6, hl245_7, hi245_7⟩ := at_T40 HR0.out a1 p245 q245; cases e245; replace hx245_0 := (HB.out.cell (World.block_lt_of_cell? w _ hx245_0)).trans hx245_0; replace hx245_1 := (HB.out.cell (World.block_lt_of_cell? w _ hx245_1)).trans hx245_1; replace hx245_2 := (HB.out.cell (World.block_lt_of_cell? w _ hx245_2)).trans hx245_2; replace hx245_3 := (HB.out.cell (World.block_lt_of_cell? w _ hx245_3)).trans hx245_3; replace hx245_4 := (HB.out.cell (World.block_lt_of_cell? w _ hx245_4)).trans hx245_4; replace hx245_5 := (HB.out.cell (World.block_lt_of_cell? w _ hx245_5)).trans hx245_5; replace hx245_6 := (HB.out.cell (World.block_lt_of_cell? w _ hx245_6)).trans hx245_6; replace hx245_7 := (HB.out.cell (World.block_lt_of_cell? w _ hx245_7)).trans hx245_7; replace hx245_8 := (HB.out.cell (World.block_lt_of_cell? w _ hx245_8)).trans hx245_8; replace hx245_9 := (HB.out.cell (World.block_lt_of_cell? w _ hx245_9)).trans hx245_9; have HR245_6 := Aside0.mk hi245_6; have HC245_6 := Aside0.mk hl245_6; clear hi245_6 hl245_6; have HR245_7 := Aside0.mk hi245_7; have HC245_7 := Aside0.mk hl245_7; clear hi245_7 hl245_7; replace p245 := eq_true p245; replace q245 := eq_true q245) | (go_at_call 31; (with_reducible refine (types_Level.calls kj20 _ _ t235 a1 t246 _ ?side1 ?side2 A51.out).mono ?_); (case side1 => repeat (first | exact (Kd.S_reads' HO_7.out).2.2 | (with_reducible refine Kd.C_alloc ?_ _) | (with_reducible refine Kd.C_drewN ?_ _) | (with_reducible refine Kd.C_drew ?_))); (case side2 => exact (Kd.S_reads' HO_7.out).2.1); rintro e w56 ⟨rfl, hb⟩; have n0_ := Aside0.mk (Kd.S_below (by (with_reducible repeat (first | apply Kd.S_alloc | apply Kd.S_drewN | apply Kd.S_drew)); exact HO_7.out) hb); have n1_ := Aside0.mk (below_step (by repeat (first | (with_reducible first | exact HB.out | apply below_alloc | apply pw_below_drewN | apply below_drew1) | exact HB.out)) hb); clear HO_7; clear HB; have HO_7 := n0_; have HB := n1_; clear n0_ n1_; (try clear hb); (try clear hb2); (try clear hk); (try clear hi)) | (go_at_call 31; (with_reducible refine (types_Level.calls kj20 _ _ t235 a2 t247 _ ?side1 ?side2 A52.out).mono ?_); (case side1 => repeat (first | exact (Kd.S_reads' HO_7.out).2.2 | (with_reducible refine Kd.C_alloc ?_ _) | (with_reducible refine Kd.C_drewN ?_ _) | (with_reducible refine Kd.C_drew ?_))); (case side2 => exact (Kd.S_reads' HO_7.out).2.1); rintro e w57 ⟨rfl, hb⟩; have n0_ := Aside0.mk (Kd.S_below (by (with_reducible repeat (first | apply Kd.S_alloc | apply Kd.S_drewN | apply Kd.S_drew)); exact HO_7.out) hb); have n1_ := Aside0.mk (below_step (by repeat (first | (with_reducible first | exact HB.out | apply below_alloc | apply pw_below_drewN | apply below_drew1) | exact HB.out)) hb); clear HO_7; clear HB; have HO_7 := n0_; have HB := n1_; clear n0_ n1_; (try clear hb); (try clear hb2); (try clear hk); (try clear hi)))
              go_meet
              case rel => exact ⟨_, (decide (t246 < t247)), (by first | rfl | (simp; done) | (simp [*]; done)), H', ⟨by have := HJ3.out; have := HJ20.out; first | omega | exact Nat.le_refl _⟩, ⟨by (with_reducible repeat (first | apply Kd.S_alloc | apply Kd.S_drewN | apply Kd.S_drew)); exact HO_7.out⟩, ⟨by repeat (first | (with_reducible first | exact HB.out | apply below_alloc | apply pw_below_drewN | apply below_drew1) | exact HB.out)⟩⟩
            ·
             rw [if_neg c46] at H
             exact absurd H (by simp)
           ·
            rw [if_neg c45] at H
            exact absurd H (by simp)
          ·
           rw [if_neg c44] at H
           have c44b0 : (t243 != t244) = false := by simpa using c44
           (try (have c44b1 : decide (t243 = t244) = true := by simpa using c44))
           (try (have c44b2 : (t243 == t244) = true := by simpa using c44))
           clear c44
           (first | rw [c44b0] | (simp only [i64_w, i32_w]; rw [c44b0]) | skip)
           replace H := Option.bind_eq_some_iff.mp H
           obtain ⟨t248, A580, H⟩ := H
           replace H : ((types_Level.f kj20 t235 a2).bind fun t249 => (spinetlaw13_TypesOrder.j2 kj20 l0 a1 a2 t235 (decide (t248 < t249)))) = some r := H
           have A58 := Aside0.mk A580
           clear A580
           replace H := Option.bind_eq_some_iff.mp H
           obtain ⟨t249, A590, H⟩ := H
           replace H : (spinetlaw13_TypesOrder.j2 kj20 l0 a1 a2 t235 (decide (t248 < t249))) = some r := H
           have A59 := Aside0.mk A590
           clear A590
           have H' := Aside0.mk H
           clear H
           go_wp2_with (first | ((with_reducible refine gate_callee (f := 30) rfl ?_); refine goesL_ (some 61) rfl rfl Try.func30 (by kernel_rfl) rfl #[.slice Ao38 t235.length co38, .int .i64 a1, .int .i64 a2] rfl (by (try simp only [List.map_toArray, List.map_cons, List.map_nil]); first | done | rfl | (simp only [List.length_drop, List.length_take]; rfl)) ?_; (with_reducible refine (types_Assign.calls kj20 _ _ t235 a1 a2 true _ ?side1 ?side2 A40.out).mono ?_); (case side1 => repeat (first | exact (Kd.S_reads' HO_7.out).2.2 | (with_reducible refine Kd.C_alloc ?_ _) | (with_reducible refine Kd.C_drewN ?_ _) | (with_reducible refine Kd.C_drew ?_))); (case side2 => exact (Kd.S_reads' HO_7.out).2.1); rintro e w60 ⟨rfl, hb⟩; refine ⟨_, rfl, ?_⟩; have n0_ := Aside0.mk (Kd.S_below (by (with_reducible repeat (first | apply Kd.S_alloc | apply Kd.S_drewN | apply Kd.S_drew)); exact HO_7.out) hb); have n1_ := Aside0.mk (below_step (by repeat (first | (with_reducible first | exact HB.out | apply below_alloc | apply pw_below_drewN | apply below_drew1) | exact HB.out)) hb); clear HO_7; clear HB; have HO_7 := n0_; have HB := n1_; clear n0_ n1_; (try clear hb); (try clear hb2); (try clear hk); (try clear hi)) | (go_at_call 29; (with_reducible refine (types_Extends.calls kj20 _ _ t235 a2 a1 t243 _ ?side1 ?side2 A42.out).mono ?_); (case side1 => repeat (first | exact (Kd.S_reads' HO_7.out).2.2 | (with_reducible refine Kd.C_alloc ?_ _) | (with_reducible refine Kd.C_drewN ?_ _) | (with_reducible refine Kd.C_drew ?_))); (case side2 => exact (Kd.S_reads' HO_7.out).2.1); rintro e w61 ⟨rfl, hb⟩; have n0_ := Aside0.mk (Kd.S_below (by (with_reducible repeat (first | apply Kd.S_alloc | apply Kd.S_drewN | apply Kd.S_drew)); exact HO_7.out) hb); have n1_ := Aside0.mk (below_step (by repeat (first | (with_reducible first | exact HB.out | apply below_alloc | apply pw_below_drewN | apply below_drew1) | exact HB.out)) hb); clear HO_7; clear HB; have HO_7 := n0_; have HB := n1_; clear n0_ n1_; (try clear hb); (try clear hb2); (try clear hk); (try clear hi)) | (go_at_call 28; (with_reducible refine (types_Same.calls kj20 _ _ t235 a1 a2 t244 _ ?side1 ?side2 A43.out).mono ?_); (case side1 => repeat (first | exact (Kd.S_reads' HO_7.out).2.2 | (with_reducible refine Kd.C_alloc ?_ _) | (with_reducible refine Kd.C_drewN ?_ _) | (with_reducible refine Kd.C_drew ?_))); (case side2 => exact (Kd.S_reads' HO_7.out).2.1); rintro e w62 ⟨rfl, hb⟩; have n0_ := Aside0.mk (Kd.S_below (by (with_reducible repeat (first | apply Kd.S_alloc | apply Kd.S_drewN | apply Kd.S_drew)); exact HO_7.out) hb); have n1_ := Aside0.mk (below_step (by repeat (first | (with_reducible first | exact HB.out | apply below_alloc | apply pw_below_drewN | apply below_drew1) | exact HB.out)) hb); clear HO_7; clear HB; have HO_7 := n0_; have HB := n1_; clear n0_ n1_; (try clear hb); (try clear hb2); (try clear hk); (try clear hi)) | (go_at_call 31; (with_reducible refine (types_Level.calls kj20 _ _ t235 a1 t248 _ ?side1 ?side2 A58.out).mono ?_); (case side1 => repeat (first | exact (Kd.S_reads' HO_7.out).2.2 | (with_reducible refine Kd.C_alloc ?_ _) | (with_reducible refine Kd.C_drewN ?_ _) | (with_reducible refine Kd.C_drew ?_))); (case side2 => exact (Kd.S_reads' HO_7.out).2.1); rintro e w63 ⟨rfl, hb⟩; have n0_ := Aside0.mk (Kd.S_below (by (with_reducible repeat (first | apply Kd.S_alloc | apply Kd.S_drewN | apply Kd.S_drew)); exact HO_7.out) hb); have n1_ := Aside0.mk (below_step (by repeat (first | (with_reducible first | exact HB.out | apply below_alloc | apply pw_below_drewN | apply below_drew1) | exact HB.out)) hb); clear HO_7; clear HB; have HO_7 := n0_; have HB := n1_; clear n0_ n1_; (try clear hb); (try clear hb2); (try clear hk); (try clear hi)) | (go_at_call 31; (with_reducible refine (types_Level.calls kj20 _ _ t235 a2 t249 _ ?side1 ?side2 A59.out).mono ?_); (case side1 => repeat (first | exact (Kd.S_reads' HO_7.out).2.2 | (with_reducible refine Kd.C_alloc ?_ _) | (with_reducible refine Kd.C_drewN ?_ _) | (with_reducible refine Kd.C_drew ?_))); (case side2 => exact (Kd.S_reads' HO_7.out).2.1); rintro e w64 ⟨rfl, hb⟩; have n0_ := Aside0.mk (Kd.S_below (by (with_reducible repeat (first | apply Kd.S_alloc | apply Kd.S_drewN | apply Kd.S_drew)); exact HO_7.out) hb); have n1_ := Aside0.mk (below_step (by repeat (first | (with_reducible first | exact HB.out | apply below_alloc | apply pw_below_drewN | apply below_drew1) | exact HB.out)) hb); clear HO_7; clear HB; have HO_7 := n0_; have HB := n1_; clear n0_ n1_; (try clear hb); (try clear hb2); (try clear hk); (try clear hi)))
           go_meet
           case rel => exact ⟨_, (decide (t248 < t249)), (by first | rfl | (simp; done) | (simp [*]; done)), H', ⟨by have := HJ3.out; have := HJ20.out; first | omega | exact Nat.le_refl _⟩, ⟨by (with_reducible repeat (first | apply Kd.S_alloc | apply Kd.S_drewN | apply Kd.S_drew)); exact HO_7.out⟩, ⟨by repeat (first | (with_reducible first | exact HB.out | apply below_alloc | apply pw_below_drewN | apply below_drew1) | exact HB.out)⟩⟩
         ·
          replace c41 := Bool.eq_false_iff.mpr c41
          subst c41
          have H1 : (spinetlaw13_TypesOrder.j2 kj20 l0 a1 a2 t235 true) = some r := by rw [if_neg (show ¬ (false = true) by decide)] at H; exact H
          clear H
          have H := H1
          clear H1
          have H' := Aside0.mk H
          clear H
          go_wp2_with (first | ((with_reducible refine gate_callee (f := 30) rfl ?_); refine goesL_ (some 61) rfl rfl Try.func30 (by kernel_rfl) rfl #[.slice Ao38 t235.length co38, .int .i64 a1, .int .i64 a2] rfl (by (try simp only [List.map_toArray, List.map_cons, List.map_nil]); first | done | rfl | (simp only [List.length_drop, List.length_take]; rfl)) ?_; (with_reducible refine (types_Assign.calls kj20 _ _ t235 a1 a2 false _ ?side1 ?side2 A40.out).mono ?_); (case side1 => repeat (first | exact (Kd.S_reads' HO_7.out).2.2 | (with_reducible refine Kd.C_alloc ?_ _) | (with_reducible refine Kd.C_drewN ?_ _) | (with_reducible refine Kd.C_drew ?_))); (case side2 => exact (Kd.S_reads' HO_7.out).2.1); rintro e w65 ⟨rfl, hb⟩; refine ⟨_, rfl, ?_⟩; have n0_ := Aside0.mk (Kd.S_below (by (with_reducible repeat (first | apply Kd.S_alloc | apply Kd.S_drewN | apply Kd.S_drew)); exact HO_7.out) hb); have n1_ := Aside0.mk (below_step (by repeat (first | (with_reducible first | exact HB.out | apply below_alloc | apply pw_below_drewN | apply below_drew1) | exact HB.out)) hb); clear HO_7; clear HB; have HO_7 := n0_; have HB := n1_; clear n0_ n1_; (try clear hb); (try clear hb2); (try clear hk); (try clear hi)))
          go_meet
          case rel => exact ⟨_, (true), (by first | rfl | (simp; done) | (simp [*]; done)), H', ⟨by have := HJ3.out; have := HJ20.out; first | omega | exact Nat.le_refl _⟩, ⟨by (with_reducible repeat (first | apply Kd.S_alloc | apply Kd.S_drewN | apply Kd.S_drew)); exact HO_7.out⟩, ⟨by repeat (first | (with_reducible first | exact HB.out | apply below_alloc | apply pw_below_drewN | apply below_drew1) | exact HB.out)⟩⟩
        case rest =>
         clear HC37
         try clear c1
         try clear c2
         try clear p2
         try clear q2
         try clear hx2
         try clear c3
         try clear c4
         try clear c6
         try clear c8
         try clear c9
         try clear c9b0
         try clear c11
         try clear c11b0
         try clear c12
         try clear c13
         try clear c13b0
         try clear c14
         try clear c17
         try clear c24
         try clear p24
         try clear q24
         try clear hx24
         try clear c25
         try clear c25b0
         try clear c25b1
         try clear c25b2
         try clear c28
         try clear c29
         try clear c30
         try clear c34
         try clear c36
         try clear c41
         try clear c44
         try clear c44b0
         try clear c44b1
         try clear c44b2
         try clear c45
         try clear c45b0
         try clear c46
         try clear c46b0
         try clear c47
         try clear c47b0
         try clear c47b1
         try clear hx245_0
         try clear hx245_1
         try clear hx245_2
         try clear hx245_3
         try clear hx245_4
         try clear hx245_5
         try clear hx245_6
         try clear hx245_7
         try clear hx245_8
         try clear hx245_9
         try clear p2
         try clear p245
         try clear q245
         obtain ⟨kq, x90_36, rfl, HA, HJ36, HO_7, HB⟩ := hcut
         cases kq with
         | zero => exact absurd HA.out (by simp [spinetlaw13_TypesOrder.j2])
         | succ kj36 =>
          have H := HA.out
          clear HA
          simp only [spinetlaw13_TypesOrder.j2] at H
          by_cases c66 : x90_36 = true
          ·
           subst c66
           have H1 : (some false) = some r := by rw [if_pos rfl] at H; exact H
           exact absurd ((Option.some.inj H1).trans hrt.out) (by decide)
          ·
           replace c66 := Bool.eq_false_iff.mpr c66
           subst c66
           have H1 : (if 0 ≤ a2 then (if a2 < (l0.length : Int) then (if ((rd_T40 l0 a2).f0) = 9 then (if ((rd_T40 l0 a2).f5) = 0 then ((spinetlaw13_wakes.f kj36).bind fun t252 => (some t252)) else ((types_Extends.f kj36 t235 a1 ((rd_T40 l0 a2).f5)).bind fun t254 => (if t254 = true then ((spinetlaw13_wakes.f kj36).bind fun t255 => (some t255)) else (some false)))) else ((spinetlaw13_wakes.f kj36).bind fun t256 => (some t256))) else (none)) else (none)) = some r := by rw [if_neg (show ¬ (false = true) by decide)] at H; exact H
           clear H
           have H := H1
           clear H1
           by_cases c67 : 0 ≤ a2
           ·
            rw [if_pos c67] at H
            have c67b0 : decide (0 ≤ a2) = true := decide_eq_true c67
            clear c67
            by_cases c68 : a2 < (l0.length : Int)
            ·
             rw [if_pos c68] at H
             have c68b0 : decide (a2 < (l0.length : Int)) = true := decide_eq_true c68
             clear c68
             by_cases c69 : ((rd_T40 l0 a2).f0) = 9
             ·
              rw [if_pos c69] at H
              have c69b0 : (((rd_T40 l0 a2).f0) == 9) = true := beq_iff_eq.mpr c69
              have c69b1 : (((rd_T40 l0 a2).f0) != 9) = false := bne_eq_false_iff_eq.mpr c69
              clear c69
              by_cases c70 : ((rd_T40 l0 a2).f5) = 0
              ·
               rw [if_pos c70] at H
               have c70b0 : (((rd_T40 l0 a2).f5) == 0) = true := beq_iff_eq.mpr c70
               have c70b1 : (((rd_T40 l0 a2).f5) != 0) = false := bne_eq_false_iff_eq.mpr c70
               clear c70
               replace H := Option.bind_eq_some_iff.mp H
               obtain ⟨t252, A710, H⟩ := H
               replace H : (some t252) = some r := H
               have A71 := Aside0.mk A710
               clear A710
               obtain rfl := Option.some.inj H
               have p250 : 0 ≤ (a2 : Int) := of_decide_eq_true (by first | (with_reducible assumption) | assumption)
               have q250 : a2 < (l0.length : Int) := of_decide_eq_true (by first | (with_reducible assumption) | assumption)
               obtain ⟨ad250, A250_6, c250_6, A250_7, c250_7, e250, hx250_0, hx250_1, hx250_2, hx250_3, hx250_4, hx250_5, hx250_6, hx250_7, hx250_8, hx250_9, hl250_6, hi250_6, hl250_7, hi250_7⟩ := at_T40 HR0.out a2 p250 q250
               cases e250
               replace hx250_0 := (HB.out.cell (World.block_lt_of_cell? w _ hx250_0)).trans hx250_0
               replace hx250_1 := (HB.out.cell (World.block_lt_of_cell? w _ hx250_1)).trans hx250_1
               replace hx250_2 := (HB.out.cell (World.block_lt_of_cell? w _ hx250_2)).trans hx250_2
               replace hx250_3 := (HB.out.cell (World.block_lt_of_cell? w _ hx250_3)).trans hx250_3
               replace hx250_4 := (HB.out.cell (World.block_lt_of_cell? w _ hx250_4)).trans hx250_4
               replace hx250_5 := (HB.out.cell (World.block_lt_of_cell? w _ hx250_5)).trans hx250_5
               replace hx250_6 := (HB.out.cell (World.block_lt_of_cell? w _ hx250_6)).trans hx250_6
               replace hx250_7 := (HB.out.cell (World.block_lt_of_cell? w _ hx250_7)).trans hx250_7
               replace hx250_8 := (HB.out.cell (World.block_lt_of_cell? w _ hx250_8)).trans hx250_8
               replace hx250_9 := (HB.out.cell (World.block_lt_of_cell? w _ hx250_9)).trans hx250_9
               have HR250_6 := Aside0.mk hi250_6
               have HC250_6 := Aside0.mk hl250_6
               clear hi250_6 hl250_6
               have HR250_7 := Aside0.mk hi250_7
               have HC250_7 := Aside0.mk hl250_7
               clear hi250_7 hl250_7
               replace p250 := eq_true p250
               replace q250 := eq_true q250
               have p251 : 0 ≤ (a2 : Int) := of_decide_eq_true (by first | (with_reducible assumption) | assumption)
               have q251 : a2 < (l0.length : Int) := of_decide_eq_true (by first | (with_reducible assumption) | assumption)
               obtain ⟨ad251, A251_6, c251_6, A251_7, c251_7, e251, hx251_0, hx251_1, hx251_2, hx251_3, hx251_4, hx251_5, hx251_6, hx251_7, hx251_8, hx251_9, hl251_6, hi251_6, hl251_7, hi251_7⟩ := at_T40 HR0.out a2 p251 q251
               obtain rfl : ad250 = ad251 := (by injection e251)
               replace hx251_0 := (HB.out.cell (World.block_lt_of_cell? w _ hx251_0)).trans hx251_0
               replace hx251_1 := (HB.out.cell (World.block_lt_of_cell? w _ hx251_1)).trans hx251_1
               replace hx251_2 := (HB.out.cell (World.block_lt_of_cell? w _ hx251_2)).trans hx251_2
               replace hx251_3 := (HB.out.cell (World.block_lt_of_cell? w _ hx251_3)).trans hx251_3
               replace hx251_4 := (HB.out.cell (World.block_lt_of_cell? w _ hx251_4)).trans hx251_4
               replace hx251_5 := (HB.out.cell (World.block_lt_of_cell? w _ hx251_5)).trans hx251_5
               replace hx251_6 := (HB.out.cell (World.block_lt_of_cell? w _ hx251_6)).trans hx251_6
               replace hx251_7 := (HB.out.cell (World.block_lt_of_cell? w _ hx251_7)).trans hx251_7
               replace hx251_8 := (HB.out.cell (World.block_lt_of_cell? w _ hx251_8)).trans hx251_8
               replace hx251_9 := (HB.out.cell (World.block_lt_of_cell? w _ hx251_9)).trans hx251_9
               have HR251_6 := Aside0.mk hi251_6
               have HC251_6 := Aside0.mk hl251_6
               clear hi251_6 hl251_6
               have HR251_7 := Aside0.mk hi251_7
               have HC251_7 := Aside0.mk hl251_7
               clear hi251_7 hl251_7
               replace p251 := eq_true p251
               replace q251 := eq_true q251
               have ea_ := Option.some.inj (hx250_6.symm.trans hx251_6)
               injection ea_ with ea_ en_ ec_
               subst ea_
               subst ec_
               clear en_
               have ea_ := Option.some.inj (hx250_7.symm.trans hx251_7)
               injection ea_ with ea_ en_ ec_
               subst ea_
               subst ec_
               clear en_
               go_wp2_with (first | ((with_reducible refine gate_callee (f := 24) rfl ?_); refine goesL_ (some 116) rfl rfl Try.func24 (by kernel_rfl) rfl #[] rfl (by (try simp only [List.map_toArray, List.map_cons, List.map_nil]); first | done | rfl | (simp only [List.length_drop, List.length_take]; rfl)) ?_; (with_reducible refine (spinetlaw13_wakes.calls kj36  t252 _ A71.out).mono ?_); rintro e w72 ⟨rfl, hb⟩; refine ⟨_, rfl, ?_⟩; have n0_ := Aside0.mk (Kd.S_below (by (with_reducible repeat (first | apply Kd.S_alloc | apply Kd.S_drewN | apply Kd.S_drew)); exact HO_7.out) hb); have n1_ := Aside0.mk (below_step (by repeat (first | (with_reducible first | exact HB.out | apply below_alloc | apply pw_below_drewN | apply below_drew1) | exact HB.out)) hb); clear HO_7; clear HB; have HO_7 := n0_; have HB := n1_; clear n0_ n1_; (try clear hb); (try clear hb2); (try clear hk); (try clear hi)))
               go_ret
               exact ⟨by first | rfl | (simp [errW_none, errW_some] <;> rfl) | (simp [*, errW_none, errW_some] <;> rfl), by repeat (first | (with_reducible first | exact HB.out | apply below_alloc | apply pw_below_drewN | apply below_drew1) | exact HB.out)⟩
              ·
               rw [if_neg c70] at H
               have c70b0 : (((rd_T40 l0 a2).f5) == 0) = false := beq_eq_false_iff_ne.mpr c70
               have c70b1 : (((rd_T40 l0 a2).f5) != 0) = true := bne_iff_ne.mpr c70
               replace H := Option.bind_eq_some_iff.mp H
               obtain ⟨t254, A730, H⟩ := H
               replace H : (if t254 = true then ((spinetlaw13_wakes.f kj36).bind fun t255 => (some t255)) else (some false)) = some r := H
               have A73 := Aside0.mk A730
               clear A730
               by_cases c74 : t254 = true
               ·
                subst c74
                have H1 : ((spinetlaw13_wakes.f kj36).bind fun t255 => (some t255)) = some r := by rw [if_pos rfl] at H; exact H
                clear H
                have H := H1
                clear H1
                replace H := Option.bind_eq_some_iff.mp H
                obtain ⟨t255, A750, H⟩ := H
                replace H : (some t255) = some r := H
                have A75 := Aside0.mk A750
                clear A750
                obtain rfl := Option.some.inj H
                have p250 : 0 ≤ (a2 : Int) := of_decide_eq_true (by first | (with_reducible assumption) | assumption)
                have q250 : a2 < (l0.length : Int) := of_decide_eq_true (by first | (with_reducible assumption) | assumption)
                obtain ⟨ad250, A250_6, c250_6, A250_7, c250_7, e250, hx250_0, hx250_1, hx250_2, hx250_3, hx250_4, hx250_5, hx250_6, hx250_7, hx250_8, hx250_9, hl250_6, hi250_6, hl250_7, hi250_7⟩ := at_T40 HR0.out a2 p250 q250
                cases e250
                replace hx250_0 := (HB.out.cell (World.block_lt_of_cell? w _ hx250_0)).trans hx250_0
                replace hx250_1 := (HB.out.cell (World.block_lt_of_cell? w _ hx250_1)).trans hx250_1
                replace hx250_2 := (HB.out.cell (World.block_lt_of_cell? w _ hx250_2)).trans hx250_2
                replace hx250_3 := (HB.out.cell (World.block_lt_of_cell? w _ hx250_3)).trans hx250_3
                replace hx250_4 := (HB.out.cell (World.block_lt_of_cell? w _ hx250_4)).trans hx250_4
                replace hx250_5 := (HB.out.cell (World.block_lt_of_cell? w _ hx250_5)).trans hx250_5
                replace hx250_6 := (HB.out.cell (World.block_lt_of_cell? w _ hx250_6)).trans hx250_6
                replace hx250_7 := (HB.out.cell (World.block_lt_of_cell? w _ hx250_7)).trans hx250_7
                replace hx250_8 := (HB.out.cell (World.block_lt_of_cell? w _ hx250_8)).trans hx250_8
                replace hx250_9 := (HB.out.cell (World.block_lt_of_cell? w _ hx250_9)).trans hx250_9
                have HR250_6 := Aside0.mk hi250_6
                have HC250_6 := Aside0.mk hl250_6
                clear hi250_6 hl250_6
                have HR250_7 := Aside0.mk hi250_7
                have HC250_7 := Aside0.mk hl250_7
                clear hi250_7 hl250_7
                replace p250 := eq_true p250
                replace q250 := eq_true q250
                have p251 : 0 ≤ (a2 : Int) := of_decide_eq_true (by first | (with_reducible assumption) | assumption)
                have q251 : a2 < (l0.length : Int) := of_decide_eq_true (by first | (with_reducible assumption) | assumption)
                obtain ⟨ad251, A251_6, c251_6, A251_7, c251_7, e251, hx251_0, hx251_1, hx251_2, hx251_3, hx251_4, hx251_5, hx251_6, hx251_7, hx251_8, hx251_9, hl251_6, hi251_6, hl251_7, hi251_7⟩ := at_T40 HR0.out a2 p251 q251
                obtain rfl : ad250 = ad251 := (by injection e251)
                replace hx251_0 := (HB.out.cell (World.block_lt_of_cell? w _ hx251_0)).trans hx251_0
                replace hx251_1 := (HB.out.cell (World.block_lt_of_cell? w _ hx251_1)).trans hx251_1
                replace hx251_2 := (HB.out.cell (World.block_lt_of_cell? w _ hx251_2)).trans hx251_2
                replace hx251_3 := (HB.out.cell (World.block_lt_of_cell? w _ hx251_3)).trans hx251_3
                replace hx251_4 := (HB.out.cell (World.block_lt_of_cell? w _ hx251_4)).trans hx251_4
                replace hx251_5 := (HB.out.cell (World.block_lt_of_cell? w _ hx251_5)).trans hx251_5
                replace hx251_6 := (HB.out.cell (World.block_lt_of_cell? w _ hx251_6)).trans hx251_6
                replace hx251_7 := (HB.out.cell (World.block_lt_of_cell? w _ hx251_7)).trans hx251_7
                replace hx251_8 := (HB.out.cell (World.block_lt_of_cell? w _ hx251_8)).trans hx251_8
                replace hx251_9 := (HB.out.cell (World.block_lt_of_cell? w _ hx251_9)).trans hx251_9
                have HR251_6 := Aside0.mk hi251_6
                have HC251_6 := Aside0.mk hl251_6
                clear hi251_6 hl251_6
                have HR251_7 := Aside0.mk hi251_7
                have HC251_7 := Aside0.mk hl251_7
                clear hi251_7 hl251_7
                replace p251 := eq_true p251
                replace q251 := eq_true q251
                have ea_ := Option.some.inj (hx250_6.symm.trans hx251_6)
                injection ea_ with ea_ en_ ec_
                subst ea_
                subst ec_
                clear en_
                have ea_ := Option.some.inj (hx250_7.symm.trans hx251_7)
                injection ea_ with ea_ en_ ec_
                subst ea_
                subst ec_
                clear en_
                have p253 : 0 ≤ (a2 : Int) := of_decide_eq_true (by first | (with_reducible assumption) | assumption)
                have q253 : a2 < (l0.length : Int) := of_decide_eq_true (by first | (with_reducible assumption) | assumption)
                obtain ⟨ad253, A253_6, c253_6, A253_7, c253_7, e253, hx253_0, hx253_1, hx253_2, hx253_3, hx253_4, hx253_5, hx253_6, hx253_7, hx253_8, hx253_9, hl253_6, hi253_6, hl253_7, hi253_7⟩ := at_T40 HR0.out a2 p253 q253
                obtain rfl : ad250 = ad253 := (by injection e253)
                replace hx253_0 := (HB.out.cell (World.block_lt_of_cell? w _ hx253_0)).trans hx253_0
                replace hx253_1 := (HB.out.cell (World.block_lt_of_cell? w _ hx253_1)).trans hx253_1
                replace hx253_2 := (HB.out.cell (World.block_lt_of_cell? w _ hx253_2)).trans hx253_2
                replace hx253_3 := (HB.out.cell (World.block_lt_of_cell? w _ hx253_3)).trans hx253_3
                replace hx253_4 := (HB.out.cell (World.block_lt_of_cell? w _ hx253_4)).trans hx253_4
                replace hx253_5 := (HB.out.cell (World.block_lt_of_cell? w _ hx253_5)).trans hx253_5
                replace hx253_6 := (HB.out.cell (World.block_lt_of_cell? w _ hx253_6)).trans hx253_6
                replace hx253_7 := (HB.out.cell (World.block_lt_of_cell? w _ hx253_7)).trans hx253_7
                replace hx253_8 := (HB.out.cell (World.block_lt_of_cell? w _ hx253_8)).trans hx253_8
                replace hx253_9 := (HB.out.cell (World.block_lt_of_cell? w _ hx253_9)).trans hx253_9
                have HR253_6 := Aside0.mk hi253_6
                have HC253_6 := Aside0.mk hl253_6
                clear hi253_6 hl253_6
                have HR253_7 := Aside0.mk hi253_7
                have HC253_7 := Aside0.mk hl253_7
                clear hi253_7 hl253_7
                replace p253 := eq_true p253
                replace q253 := eq_true q253
                have ea_ := Option.some.inj (hx250_6.symm.trans hx253_6)
                injection ea_ with ea_ en_ ec_
                subst ea_
                subst ec_
                clear en_
                have ea_ := Option.some.inj (hx250_7.symm.trans hx253_7)
                injection ea_ with ea_ en_ ec_
                subst ea_
                subst ec_
                clear en_
                go_wp2_with (first | (go_at_call 29; (with_reducible refine (types_Extends.calls kj36 _ _ t235 a1 ((rd_T40 l0 a2).f5) true _ ?side1 ?side2 A73.out).mono ?_); (case side1 => repeat (first | exact (Kd.S_reads' HO_7.out).2.2 | (with_reducible refine Kd.C_alloc ?_ _) | (with_reducible refine Kd.C_drewN ?_ _) | (with_reducible refine Kd.C_drew ?_))); (case side2 => exact (Kd.S_reads' HO_7.out).2.1); rintro e w76 ⟨rfl, hb⟩; have n0_ := Aside0.mk (Kd.S_below (by (with_reducible repeat (first | apply Kd.S_alloc | apply Kd.S_drewN | apply Kd.S_drew)); exact HO_7.out) hb); have n1_ := Aside0.mk (below_step (by repeat (first | (with_reducible first | exact HB.out | apply below_alloc | apply pw_below_drewN | apply below_drew1) | exact HB.out)) hb); clear HO_7; clear HB; have HO_7 := n0_; have HB := n1_; clear n0_ n1_; (try clear hb); (try clear hb2); (try clear hk); (try clear hi)) | ((with_reducible refine gate_callee (f := 24) rfl ?_); refine goesL_ (some 116) rfl rfl Try.func24 (by kernel_rfl) rfl #[] rfl (by (try simp only [List.map_toArray, List.map_cons, List.map_nil]); first | done | rfl | (simp only [List.length_drop, List.length_take]; rfl)) ?_; (with_reducible refine (spinetlaw13_wakes.calls kj36  t255 _ A75.out).mono ?_); rintro e w77 ⟨rfl, hb⟩; refine ⟨_, rfl, ?_⟩; have n0_ := Aside0.mk (Kd.S_below (by (with_reducible repeat (first | apply Kd.S_alloc | apply Kd.S_drewN | apply Kd.S_drew)); exact HO_7.out) hb); have n1_ := Aside0.mk (below_step (by repeat (first | (with_reducible first | exact HB.out | apply below_alloc | apply pw_below_drewN | apply below_drew1) | exact HB.out)) hb); clear HO_7; clear HB; have HO_7 := n0_; have HB := n1_; clear n0_ n1_; (try clear hb); (try clear hb2); (try clear hk); (try clear hi)))
                go_ret
                exact ⟨by first | rfl | (simp [errW_none, errW_some] <;> rfl) | (simp [*, errW_none, errW_some] <;> rfl), by repeat (first | (with_reducible first | exact HB.out | apply below_alloc | apply pw_below_drewN | apply below_drew1) | exact HB.out)⟩
               ·
                replace c74 := Bool.eq_false_iff.mpr c74
                subst c74
                have H1 : (some false) = some r := by rw [if_neg (show ¬ (false = true) by decide)] at H; exact H
                exact absurd ((Option.some.inj H1).trans hrt.out) (by decide)
             ·
              rw [if_neg c69] at H
              have c69b0 : (((rd_T40 l0 a2).f0) == 9) = false := beq_eq_false_iff_ne.mpr c69
              have c69b1 : (((rd_T40 l0 a2).f0) != 9) = true := bne_iff_ne.mpr c69
              replace H := Option.bind_eq_some_iff.mp H
              obtain ⟨t256, A790, H⟩ := H
              replace H : (some t256) = some r := H
              have A79 := Aside0.mk A790
              clear A790
              obtain rfl := Option.some.inj H
              have p250 : 0 ≤ (a2 : Int) := of_decide_eq_true (by first | (with_reducible assumption) | assumption)
              have q250 : a2 < (l0.length : Int) := of_decide_eq_true (by first | (with_reducible assumption) | assumption)
              obtain ⟨ad250, A250_6, c250_6, A250_7, c250_7, e250, hx250_0, hx250_1, hx250_2, hx250_3, hx250_4, hx250_5, hx250_6, hx250_7, hx250_8, hx250_9, hl250_6, hi250_6, hl250_7, hi250_7⟩ := at_T40 HR0.out a2 p250 q250
              cases e250
              replace hx250_0 := (HB.out.cell (World.block_lt_of_cell? w _ hx250_0)).trans hx250_0
              replace hx250_1 := (HB.out.cell (World.block_lt_of_cell? w _ hx250_1)).trans hx250_1
              replace hx250_2 := (HB.out.cell (World.block_lt_of_cell? w _ hx250_2)).trans hx250_2
              replace hx250_3 := (HB.out.cell (World.block_lt_of_cell? w _ hx250_3)).trans hx250_3
              replace hx250_4 := (HB.out.cell (World.block_lt_of_cell? w _ hx250_4)).trans hx250_4
              replace hx250_5 := (HB.out.cell (World.block_lt_of_cell? w _ hx250_5)).trans hx250_5
              replace hx250_6 := (HB.out.cell (World.block_lt_of_cell? w _ hx250_6)).trans hx250_6
              replace hx250_7 := (HB.out.cell (World.block_lt_of_cell? w _ hx250_7)).trans hx250_7
              replace hx250_8 := (HB.out.cell (World.block_lt_of_cell? w _ hx250_8)).trans hx250_8
              replace hx250_9 := (HB.out.cell (World.block_lt_of_cell? w _ hx250_9)).trans hx250_9
              have HR250_6 := Aside0.mk hi250_6
              have HC250_6 := Aside0.mk hl250_6
              clear hi250_6 hl250_6
              have HR250_7 := Aside0.mk hi250_7
              have HC250_7 := Aside0.mk hl250_7
              clear hi250_7 hl250_7
              replace p250 := eq_true p250
              replace q250 := eq_true q250
              go_wp2_with (first | ((with_reducible refine gate_callee (f := 24) rfl ?_); refine goesL_ (some 116) rfl rfl Try.func24 (by kernel_rfl) rfl #[] rfl (by (try simp only [List.map_toArray, List.map_cons, List.map_nil]); first | done | rfl | (simp only [List.length_drop, List.length_take]; rfl)) ?_; (with_reducible refine (spinetlaw13_wakes.calls kj36  t256 _ A79.out).mono ?_); rintro e w80 ⟨rfl, hb⟩; refine ⟨_, rfl, ?_⟩; have n0_ := Aside0.mk (Kd.S_below (by (with_reducible repeat (first | apply Kd.S_alloc | apply Kd.S_drewN | apply Kd.S_drew)); exact HO_7.out) hb); have n1_ := Aside0.mk (below_step (by repeat (first | (with_reducible first | exact HB.out | apply below_alloc | apply pw_below_drewN | apply below_drew1) | exact HB.out)) hb); clear HO_7; clear HB; have HO_7 := n0_; have HB := n1_; clear n0_ n1_; (try clear hb); (try clear hb2); (try clear hk); (try clear hi)))
              go_ret
              exact ⟨by first | rfl | (simp [errW_none, errW_some] <;> rfl) | (simp [*, errW_none, errW_some] <;> rfl), by repeat (first | (with_reducible first | exact HB.out | apply below_alloc | apply pw_below_drewN | apply below_drew1) | exact HB.out)⟩
            ·
             rw [if_neg c68] at H
             exact absurd H (by simp)
           ·
            rw [if_neg c67] at H
            exact absurd H (by simp)
       ·
        replace c36 := Bool.eq_false_iff.mpr c36
        subst c36
        have H1 : ((spinetlaw13_wakes.f kj20).bind fun t257 => (some t257)) = some r := by rw [if_neg (show ¬ (false = true) by decide)] at H; exact H
        clear H
        have H := H1
        clear H1
        replace H := Option.bind_eq_some_iff.mp H
        obtain ⟨t257, A810, H⟩ := H
        replace H : (some t257) = some r := H
        have A81 := Aside0.mk A810
        clear A810
        obtain rfl := Option.some.inj H
        obtain ⟨Ao82, co82, eo82⟩ := Kd.S_slice HO_7.out
        subst eo82
        go_wp2_with (first | ((with_reducible refine gate_callee (f := 29) rfl ?_); refine goesL_ (some 57) rfl rfl Try.func29 (by kernel_rfl) rfl #[.slice Ao82 t235.length co82, .int .i64 a1, .int .i64 a2] rfl (by (try simp only [List.map_toArray, List.map_cons, List.map_nil]); first | done | rfl | (simp only [List.length_drop, List.length_take]; rfl)) ?_; (with_reducible refine (types_Extends.calls kj20 _ _ t235 a1 a2 false _ ?side1 ?side2 A35.out).mono ?_); (case side1 => repeat (first | exact (Kd.S_reads' HO_7.out).2.2 | (with_reducible refine Kd.C_alloc ?_ _) | (with_reducible refine Kd.C_drewN ?_ _) | (with_reducible refine Kd.C_drew ?_))); (case side2 => exact (Kd.S_reads' HO_7.out).2.1); rintro e w83 ⟨rfl, hb⟩; refine ⟨_, rfl, ?_⟩; have n0_ := Aside0.mk (Kd.S_below (by (with_reducible repeat (first | apply Kd.S_alloc | apply Kd.S_drewN | apply Kd.S_drew)); exact HO_7.out) hb); have n1_ := Aside0.mk (below_step (by repeat (first | (with_reducible first | exact HB.out | apply below_alloc | apply pw_below_drewN | apply below_drew1) | exact HB.out)) hb); clear HO_7; clear HB; have HO_7 := n0_; have HB := n1_; clear n0_ n1_; (try clear hb); (try clear hb2); (try clear hk); (try clear hi)) | ((with_reducible refine gate_callee (f := 24) rfl ?_); refine goesL_ (some 116) rfl rfl Try.func24 (by kernel_rfl) rfl #[] rfl (by (try simp only [List.map_toArray, List.map_cons, List.map_nil]); first | done | rfl | (simp only [List.length_drop, List.length_take]; rfl)) ?_; (with_reducible refine (spinetlaw13_wakes.calls kj20  t257 _ A81.out).mono ?_); rintro e w84 ⟨rfl, hb⟩; refine ⟨_, rfl, ?_⟩; have n0_ := Aside0.mk (Kd.S_below (by (with_reducible repeat (first | apply Kd.S_alloc | apply Kd.S_drewN | apply Kd.S_drew)); exact HO_7.out) hb); have n1_ := Aside0.mk (below_step (by repeat (first | (with_reducible first | exact HB.out | apply below_alloc | apply pw_below_drewN | apply below_drew1) | exact HB.out)) hb); clear HO_7; clear HB; have HO_7 := n0_; have HB := n1_; clear n0_ n1_; (try clear hb); (try clear hb2); (try clear hk); (try clear hi)))
        go_ret
        exact ⟨by first | rfl | (simp [errW_none, errW_some] <;> rfl) | (simp [*, errW_none, errW_some] <;> rfl), by repeat (first | (with_reducible first | exact HB.out | apply below_alloc | apply pw_below_drewN | apply below_drew1) | exact HB.out)⟩
end
end Go.Proofs.Ytgnbemgeiloegaa.PTypesGoods
