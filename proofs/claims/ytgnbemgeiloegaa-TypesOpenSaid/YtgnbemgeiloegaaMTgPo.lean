import Derived.Test.YtgnbemgeiloegaaMTgPf
namespace Go.Proofs.Ytgnbemgeiloegaa.PTypesGoods
open Go.RowKit Go.Proofs.YtgnbemgeiloegaaW.PrintWords Go.Proofs.YtgnbemgeiloegaaW.PrintLast Go.Proofs.YtgnbemgeiloegaaW.PrintMore
attribute [local go_sem] max2_int min2_int max_two min_two max_three min_three max_four min_four
set_option linter.unusedVariables false
set_option linter.unusedSimpArgs false
noncomputable section
mutual
def spinetlaw13_TypesOpen.j0 : Nat → List (S40) → Int → Int → Bool → Option (Bool)
 | 0, _, _, _, _ => none
 | k + 1, x0, x1, x2, x34 => if x34 = true then ((spinetlaw13_wakes.f k).bind fun t266 => (some t266)) else (if 0 ≤ x1 then (if x1 < (x0.length : Int) then (if ((rd_T40 x0 x1).f0) = 0 then (spinetlaw13_TypesOpen.j1 k x0 x1 x2 ((rd_T40 x0 x1).f0) true) else (if ((rd_T40 x0 x1).f0) = 5 then (spinetlaw13_TypesOpen.j1 k x0 x1 x2 ((rd_T40 x0 x1).f0) true) else (if ((rd_T40 x0 x1).f0) = 6 then (spinetlaw13_TypesOpen.j1 k x0 x1 x2 ((rd_T40 x0 x1).f0) true) else (spinetlaw13_TypesOpen.j1 k x0 x1 x2 ((rd_T40 x0 x1).f0) (((rd_T40 x0 x1).f0) == 8))))) else (none)) else (none))
def spinetlaw13_TypesOpen.j1 : Nat → List (S40) → Int → Int → Int → Bool → Option (Bool)
 | 0, _, _, _, _, _ => none
 | k + 1, x0, x1, x2, x7, x54 => if x54 = true then ((spinetlaw13_wakes.f k).bind fun t268 => (some t268)) else ((spinetref13_Copy.f x0).bind fun t269 => ((some (([(⟨7, (⟨#[]⟩ : ByteArray), (⟨#[]⟩ : ByteArray), wrap64 (1 + (wrap64 (Int.tmod (IntKind.u64.wrap (x2)) 4096))), x1, 0, ([] : List (S42)), ([] : List (S47)), 0, 0⟩ : S40), (⟨8, (⟨#[]⟩ : ByteArray), (⟨#[]⟩ : ByteArray), 0, x1, 0, ([] : List (S42)), ([] : List (S47)), 0, 0⟩ : S40), (⟨8, (⟨#[]⟩ : ByteArray), (⟨#[]⟩ : ByteArray), 0, wrap64 ((x0.length : Int) + 1), 0, ([] : List (S42)), ([] : List (S47)), 0, 0⟩ : S40)] : List (S40)) : List (S40))).bind fun y272 => (if t269.length + y272.length < 1099511627776 then ((some (t269 ++ y272 : List (S40))).bind fun y275 => ((spinetref13_Copy.f y275).bind fun t280 => ((types_Good.f t280).bind fun t283 => (if t283 = true then ((types_Fits.f k y275 (x0.length : Int) true (wrap64 ((x0.length : Int) + 1))).bind fun t284 => (if t284 = true then ((types_Fits.f k y275 (x0.length : Int) false (wrap64 ((x0.length : Int) + 1))).bind fun t285 => (if t285 = true then ((types_Assign.f k y275 (x0.length : Int) (wrap64 ((x0.length : Int) + 1))).bind fun t286 => (if t286 = true then (spinetlaw13_TypesOpen.j2 k x7 y275 true true (wrap64 ((x0.length : Int) + 1)) false (wrap64 ((x0.length : Int) + 1))) else ((types_Assign.f k y275 (wrap64 ((x0.length : Int) + 1)) (x0.length : Int)).bind fun t287 => (spinetlaw13_TypesOpen.j2 k x7 y275 (!t287) true (wrap64 ((x0.length : Int) + 1)) false (wrap64 ((x0.length : Int) + 1)))))) else (spinetlaw13_TypesOpen.j2 k x7 y275 true true (wrap64 ((x0.length : Int) + 1)) false (wrap64 ((x0.length : Int) + 1))))) else (spinetlaw13_TypesOpen.j2 k x7 y275 true true (wrap64 ((x0.length : Int) + 1)) false (wrap64 ((x0.length : Int) + 1))))) else (spinetlaw13_TypesOpen.j2 k x7 y275 true true (wrap64 ((x0.length : Int) + 1)) false (wrap64 ((x0.length : Int) + 1))))))) else (none))))
def spinetlaw13_TypesOpen.j2 : Nat → Int → List (S40) → Bool → Bool → Int → Bool → Int → Option (Bool)
 | 0, _, _, _, _, _, _, _ => none
 | k + 1, x7, x9, x112, x279000, x279001, x280000, x280001 => if x112 = true then (some false) else (spinetlaw13_TypesOpen.l0 k x7 x9 0 x279000 x279001 x280000 x280001)
def spinetlaw13_TypesOpen.l0 : Nat → Int → List (S40) → Int → Bool → Int → Bool → Int → Option (Bool)
 | 0, _, _, _, _, _, _, _ => none
 | k + 1, x7, x9, x12, x279000, x279001, x280000, x280001 => if x12 < (x9.length : Int) then (spinetlaw13_TypesOpen.j4 k x7 x9 x12 (decide (x12 < 40)) x279000 x279001 x280000 x280001) else (spinetlaw13_TypesOpen.j4 k x7 x9 x12 false x279000 x279001 x280000 x280001)
def spinetlaw13_TypesOpen.j4 : Nat → Int → List (S40) → Int → Bool → Bool → Int → Bool → Int → Option (Bool)
 | 0, _, _, _, _, _, _, _, _ => none
 | k + 1, x7, x9, x12, x120, x279000, x279001, x280000, x280001 => if x120 = true then ((types_Fits.f k x9 x12 x279000 x279001).bind fun t291 => (if t291 = true then ((types_Fits.f k x9 x12 x280000 x280001).bind fun t292 => (if t292 = true then (spinetlaw13_TypesOpen.l0 k x7 x9 (wrap64 (x12 + 1)) x279000 x279001 x280000 x280001) else (some false))) else (spinetlaw13_TypesOpen.l0 k x7 x9 (wrap64 (x12 + 1)) x279000 x279001 x280000 x280001))) else ((types_Fits.f k x9 6 x280000 x280001).bind fun t288 => (if (t288 == (x7 == 3)) = true then ((types_Fits.f k x9 6 x279000 x279001).bind fun t289 => (if t289 = true then (some false) else ((spinetlaw13_wakes.f k).bind fun t290 => (some t290)))) else (some false)))
end
def spinetlaw13_TypesOpen.f (k : Nat) (l0 : List (S40)) (a1 : Int) (a2 : Int) : Option (Bool) := (spinetlaw13_Large.f k l0).bind fun t264 => (if t264 = true then (spinetlaw13_TypesOpen.j0 k l0 a1 a2 true) else ((spinetref13_Good.f l0).bind fun t265 => (if t265 = true then (if (l0.length : Int) > 250 then (spinetlaw13_TypesOpen.j0 k l0 a1 a2 true) else (if a1 < 0 then (spinetlaw13_TypesOpen.j0 k l0 a1 a2 true) else (spinetlaw13_TypesOpen.j0 k l0 a1 a2 (decide (a1 ≥ (l0.length : Int)))))) else (spinetlaw13_TypesOpen.j0 k l0 a1 a2 true))))
set_option maxHeartbeats 8000000 in
set_option maxRecDepth 100000 in
theorem spinetlaw13_TypesOpen.calls (k : Nat) (A0 : Option Addr) (c0 : Nat) (l0 : List (S40)) (a1 : Int) (a2 : Int) (r : Bool) (hrt : Aside0 (r = true)) (w : World) (hr0 : Kd.C k40 w A0 l0.length l0) (hc0 : l0.length ≤ c0) (h : spinetlaw13_TypesOpen.f k l0 a1 a2 = some r) :
 Calls Try.prog 10 #[.slice A0 l0.length c0, .int .i64 a1, .int .i64 a2] w fun e w' => e = .returned (.bool r) ∧ Below w.heap.size w w' := by
 have hu40 := Try.underlying40
 have hu47 := Try.underlying47
 have HR0 := Aside0.mk hr0
 have HC0 := Aside0.mk hc0
 clear hr0 hc0
 have HB := Aside0.mk (Below.refl w.heap.size w)
 have H : ((spinetlaw13_Large.f k l0).bind fun t264 => (if t264 = true then (spinetlaw13_TypesOpen.j0 k l0 a1 a2 true) else ((spinetref13_Good.f l0).bind fun t265 => (if t265 = true then (if (l0.length : Int) > 250 then (spinetlaw13_TypesOpen.j0 k l0 a1 a2 true) else (if a1 < 0 then (spinetlaw13_TypesOpen.j0 k l0 a1 a2 true) else (spinetlaw13_TypesOpen.j0 k l0 a1 a2 (decide (a1 ≥ (l0.length : Int)))))) else (spinetlaw13_TypesOpen.j0 k l0 a1 a2 true))))) = some r := h
 clear h
 have HC4 := Aside0.mk H
 clear H
 go_enter Try.func10, Try.ntmps10
 go_upto_region 1 with (fail)
 go_cut [34] (fun v34 wc => ∃ (kq : Nat) (x34_3 : Bool), v34 = .bool x34_3 ∧ Aside0 (spinetlaw13_TypesOpen.j0 kq l0 a1 a2 x34_3 = some r) ∧ Aside0 (kq ≤ k) ∧ Aside0 (Below w.heap.size w wc))
 case first =>
  have H := HC4.out
  clear HC4
  replace H := Option.bind_eq_some_iff.mp H
  obtain ⟨t264, A50, H⟩ := H
  replace H : (if t264 = true then (spinetlaw13_TypesOpen.j0 k l0 a1 a2 true) else ((spinetref13_Good.f l0).bind fun t265 => (if t265 = true then (if (l0.length : Int) > 250 then (spinetlaw13_TypesOpen.j0 k l0 a1 a2 true) else (if a1 < 0 then (spinetlaw13_TypesOpen.j0 k l0 a1 a2 true) else (spinetlaw13_TypesOpen.j0 k l0 a1 a2 (decide (a1 ≥ (l0.length : Int)))))) else (spinetlaw13_TypesOpen.j0 k l0 a1 a2 true)))) = some r := H
  have A5 := Aside0.mk A50
  clear A50
  by_cases c6 : t264 = true
  ·
   subst c6
   have H1 : (spinetlaw13_TypesOpen.j0 k l0 a1 a2 true) = some r := by rw [if_pos rfl] at H; exact H
   clear H
   have H := H1
   clear H1
   have H' := Aside0.mk H
   clear H
   go_wp2_with (first | ((with_reducible refine gate_callee (f := 12) rfl ?_); refine goesL_ (some 14) rfl rfl Try.func12 (by kernel_rfl) rfl #[.slice A0 l0.length c0] rfl (by (try simp only [List.map_toArray, List.map_cons, List.map_nil]); first | done | rfl | (simp only [List.length_drop, List.length_take]; rfl)) ?_; (with_reducible refine (spinetlaw13_Large.calls k _ _ l0 true _ ?side1 ?side2 A5.out).mono ?_); (case side1 => repeat (first | exact (Kd.C_below HR0.out HB.out) | (with_reducible refine Kd.C_alloc ?_ _) | (with_reducible refine Kd.C_drewN ?_ _) | (with_reducible refine Kd.C_drew ?_))); (case side2 => exact HC0.out); rintro e w' ⟨rfl, ⟨nd, rfl⟩⟩; refine ⟨_, rfl, ?_⟩))
   go_meet
   case rel => exact ⟨_, (true), (by first | rfl | (simp; done) | (simp [*]; done)), H', ⟨by first | omega | exact Nat.le_refl _⟩, ⟨by repeat (first | (with_reducible first | exact HB.out | apply below_alloc | apply pw_below_drewN | apply below_drew1) | exact HB.out)⟩⟩
  ·
   replace c6 := Bool.eq_false_iff.mpr c6
   subst c6
   have H1 : ((spinetref13_Good.f l0).bind fun t265 => (if t265 = true then (if (l0.length : Int) > 250 then (spinetlaw13_TypesOpen.j0 k l0 a1 a2 true) else (if a1 < 0 then (spinetlaw13_TypesOpen.j0 k l0 a1 a2 true) else (spinetlaw13_TypesOpen.j0 k l0 a1 a2 (decide (a1 ≥ (l0.length : Int)))))) else (spinetlaw13_TypesOpen.j0 k l0 a1 a2 true))) = some r := by rw [if_neg (show ¬ (false = true) by decide)] at H; exact H
   clear H
   have H := H1
   clear H1
   replace H := Option.bind_eq_some_iff.mp H
   obtain ⟨t265, A70, H⟩ := H
   replace H : (if t265 = true then (if (l0.length : Int) > 250 then (spinetlaw13_TypesOpen.j0 k l0 a1 a2 true) else (if a1 < 0 then (spinetlaw13_TypesOpen.j0 k l0 a1 a2 true) else (spinetlaw13_TypesOpen.j0 k l0 a1 a2 (decide (a1 ≥ (l0.length : Int)))))) else (spinetlaw13_TypesOpen.j0 k l0 a1 a2 true)) = some r := H
   have A7 := Aside0.mk A70
   clear A70
   by_cases c8 : t265 = true
   ·
    subst c8
    have H1 : (if (l0.length : Int) > 250 then (spinetlaw13_TypesOpen.j0 k l0 a1 a2 true) else (if a1 < 0 then (spinetlaw13_TypesOpen.j0 k l0 a1 a2 true) else (spinetlaw13_TypesOpen.j0 k l0 a1 a2 (decide (a1 ≥ (l0.length : Int)))))) = some r := by rw [if_pos rfl] at H; exact H
    clear H
    have H := H1
    clear H1
    by_cases c9 : (l0.length : Int) > 250
    ·
     rw [if_pos c9] at H
     have c9b0 : decide (250 < (l0.length : Int)) = true := decide_eq_true c9
     have c9b1 : decide (250 < l0.length) = true := decide_eq_true (by omega)
     clear c9
     (first | rw [c9b0] | (simp only [i64_w, i32_w]; rw [c9b0]) | skip)
     have H' := Aside0.mk H
     clear H
     go_wp2_with (first | ((with_reducible refine gate_callee (f := 12) rfl ?_); refine goesL_ (some 14) rfl rfl Try.func12 (by kernel_rfl) rfl #[.slice A0 l0.length c0] rfl (by (try simp only [List.map_toArray, List.map_cons, List.map_nil]); first | done | rfl | (simp only [List.length_drop, List.length_take]; rfl)) ?_; (with_reducible refine (spinetlaw13_Large.calls k _ _ l0 false _ ?side1 ?side2 A5.out).mono ?_); (case side1 => repeat (first | exact (Kd.C_below HR0.out HB.out) | (with_reducible refine Kd.C_alloc ?_ _) | (with_reducible refine Kd.C_drewN ?_ _) | (with_reducible refine Kd.C_drew ?_))); (case side2 => exact HC0.out); rintro e w' ⟨rfl, ⟨nd, rfl⟩⟩; refine ⟨_, rfl, ?_⟩) | (go_at_call 23; (with_reducible refine (spinetref13_Good.calls _ _ l0 true _ ?side1 ?side2 A7.out).mono ?_); (case side1 => repeat (first | exact (Kd.C_below HR0.out (by repeat (first | (with_reducible first | exact HB.out | apply below_alloc | apply pw_below_drewN | apply below_drew1) | exact HB.out))) | (with_reducible refine Kd.C_alloc ?_ _) | (with_reducible refine Kd.C_drewN ?_ _) | (with_reducible refine Kd.C_drew ?_))); (case side2 => exact HC0.out); rintro e w10 ⟨rfl, hb⟩; have n0_ := Aside0.mk (below_step (by repeat (first | (with_reducible first | exact HB.out | apply below_alloc | apply pw_below_drewN | apply below_drew1) | exact HB.out)) hb); clear HB; have HB := n0_; clear n0_; (try clear hb); (try clear hb2); (try clear hk); (try clear hi)))
     go_meet
     case rel => exact ⟨_, (true), (by first | rfl | (simp; done) | (simp [*]; done)), H', ⟨by first | omega | exact Nat.le_refl _⟩, ⟨by repeat (first | (with_reducible first | exact HB.out | apply below_alloc | apply pw_below_drewN | apply below_drew1) | exact HB.out)⟩⟩
    ·
     rw [if_neg c9] at H
     have c9b0 : decide (250 < (l0.length : Int)) = false := decide_eq_false c9
     have c9b1 : decide (250 < l0.length) = false := decide_eq_false (by omega)
     clear c9
     (first | rw [c9b0] | (simp only [i64_w, i32_w]; rw [c9b0]) | skip)
     by_cases c11 : a1 < 0
     ·
      rw [if_pos c11] at H
      have c11b0 : decide (a1 < 0) = true := decide_eq_true c11
      clear c11
      have H' := Aside0.mk H
      clear H
      go_wp2_with (first | ((with_reducible refine gate_callee (f := 12) rfl ?_); refine goesL_ (some 14) rfl rfl Try.func12 (by kernel_rfl) rfl #[.slice A0 l0.length c0] rfl (by (try simp only [List.map_toArray, List.map_cons, List.map_nil]); first | done | rfl | (simp only [List.length_drop, List.length_take]; rfl)) ?_; (with_reducible refine (spinetlaw13_Large.calls k _ _ l0 false _ ?side1 ?side2 A5.out).mono ?_); (case side1 => repeat (first | exact (Kd.C_below HR0.out HB.out) | (with_reducible refine Kd.C_alloc ?_ _) | (with_reducible refine Kd.C_drewN ?_ _) | (with_reducible refine Kd.C_drew ?_))); (case side2 => exact HC0.out); rintro e w' ⟨rfl, ⟨nd, rfl⟩⟩; refine ⟨_, rfl, ?_⟩) | (go_at_call 23; (with_reducible refine (spinetref13_Good.calls _ _ l0 true _ ?side1 ?side2 A7.out).mono ?_); (case side1 => repeat (first | exact (Kd.C_below HR0.out (by repeat (first | (with_reducible first | exact HB.out | apply below_alloc | apply pw_below_drewN | apply below_drew1) | exact HB.out))) | (with_reducible refine Kd.C_alloc ?_ _) | (with_reducible refine Kd.C_drewN ?_ _) | (with_reducible refine Kd.C_drew ?_))); (case side2 => exact HC0.out); rintro e w12 ⟨rfl, hb⟩; have n0_ := Aside0.mk (below_step (by repeat (first | (with_reducible first | exact HB.out | apply below_alloc | apply pw_below_drewN | apply below_drew1) | exact HB.out)) hb); clear HB; have HB := n0_; clear n0_; (try clear hb); (try clear hb2); (try clear hk); (try clear hi)))
      go_meet
      case rel => exact ⟨_, (true), (by first | rfl | (simp; done) | (simp [*]; done)), H', ⟨by first | omega | exact Nat.le_refl _⟩, ⟨by repeat (first | (with_reducible first | exact HB.out | apply below_alloc | apply pw_below_drewN | apply below_drew1) | exact HB.out)⟩⟩
     ·
      rw [if_neg c11] at H
      have c11b0 : decide (a1 < 0) = false := decide_eq_false c11
      clear c11
      have H' := Aside0.mk H
      clear H
      go_wp2_with (first | ((with_reducible refine gate_callee (f := 12) rfl ?_); refine goesL_ (some 14) rfl rfl Try.func12 (by kernel_rfl) rfl #[.slice A0 l0.length c0] rfl (by (try simp only [List.map_toArray, List.map_cons, List.map_nil]); first | done | rfl | (simp only [List.length_drop, List.length_take]; rfl)) ?_; (with_reducible refine (spinetlaw13_Large.calls k _ _ l0 false _ ?side1 ?side2 A5.out).mono ?_); (case side1 => repeat (first | exact (Kd.C_below HR0.out HB.out) | (with_reducible refine Kd.C_alloc ?_ _) | (with_reducible refine Kd.C_drewN ?_ _) | (with_reducible refine Kd.C_drew ?_))); (case side2 => exact HC0.out); rintro e w' ⟨rfl, ⟨nd, rfl⟩⟩; refine ⟨_, rfl, ?_⟩) | (go_at_call 23; (with_reducible refine (spinetref13_Good.calls _ _ l0 true _ ?side1 ?side2 A7.out).mono ?_); (case side1 => repeat (first | exact (Kd.C_below HR0.out (by repeat (first | (with_reducible first | exact HB.out | apply below_alloc | apply pw_below_drewN | apply below_drew1) | exact HB.out))) | (with_reducible refine Kd.C_alloc ?_ _) | (with_reducible refine Kd.C_drewN ?_ _) | (with_reducible refine Kd.C_drew ?_))); (case side2 => exact HC0.out); rintro e w13 ⟨rfl, hb⟩; have n0_ := Aside0.mk (below_step (by repeat (first | (with_reducible first | exact HB.out | apply below_alloc | apply pw_below_drewN | apply below_drew1) | exact HB.out)) hb); clear HB; have HB := n0_; clear n0_; (try clear hb); (try clear hb2); (try clear hk); (try clear hi)))
      go_meet
      case rel => exact ⟨_, (decide (a1 ≥ (l0.length : Int))), (by first | rfl | (simp; done) | (simp [*]; done)), H', ⟨by first | omega | exact Nat.le_refl _⟩, ⟨by repeat (first | (with_reducible first | exact HB.out | apply below_alloc | apply pw_below_drewN | apply below_drew1) | exact HB.out)⟩⟩
   ·
    replace c8 := Bool.eq_false_iff.mpr c8
    subst c8
    have H1 : (spinetlaw13_TypesOpen.j0 k l0 a1 a2 true) = some r := by rw [if_neg (show ¬ (false = true) by decide)] at H; exact H
    clear H
    have H := H1
    clear H1
    have H' := Aside0.mk H
    clear H
    go_wp2_with (first | ((with_reducible refine gate_callee (f := 12) rfl ?_); refine goesL_ (some 14) rfl rfl Try.func12 (by kernel_rfl) rfl #[.slice A0 l0.length c0] rfl (by (try simp only [List.map_toArray, List.map_cons, List.map_nil]); first | done | rfl | (simp only [List.length_drop, List.length_take]; rfl)) ?_; (with_reducible refine (spinetlaw13_Large.calls k _ _ l0 false _ ?side1 ?side2 A5.out).mono ?_); (case side1 => repeat (first | exact (Kd.C_below HR0.out HB.out) | (with_reducible refine Kd.C_alloc ?_ _) | (with_reducible refine Kd.C_drewN ?_ _) | (with_reducible refine Kd.C_drew ?_))); (case side2 => exact HC0.out); rintro e w' ⟨rfl, ⟨nd, rfl⟩⟩; refine ⟨_, rfl, ?_⟩) | (go_at_call 23; (with_reducible refine (spinetref13_Good.calls _ _ l0 false _ ?side1 ?side2 A7.out).mono ?_); (case side1 => repeat (first | exact (Kd.C_below HR0.out (by repeat (first | (with_reducible first | exact HB.out | apply below_alloc | apply pw_below_drewN | apply below_drew1) | exact HB.out))) | (with_reducible refine Kd.C_alloc ?_ _) | (with_reducible refine Kd.C_drewN ?_ _) | (with_reducible refine Kd.C_drew ?_))); (case side2 => exact HC0.out); rintro e w14 ⟨rfl, hb⟩; have n0_ := Aside0.mk (below_step (by repeat (first | (with_reducible first | exact HB.out | apply below_alloc | apply pw_below_drewN | apply below_drew1) | exact HB.out)) hb); clear HB; have HB := n0_; clear n0_; (try clear hb); (try clear hb2); (try clear hk); (try clear hi)))
    go_meet
    case rel => exact ⟨_, (true), (by first | rfl | (simp; done) | (simp [*]; done)), H', ⟨by first | omega | exact Nat.le_refl _⟩, ⟨by repeat (first | (with_reducible first | exact HB.out | apply below_alloc | apply pw_below_drewN | apply below_drew1) | exact HB.out)⟩⟩
 case rest =>
  clear HC4
  try clear c1
  try clear p2
  try clear c6
  try clear c8
  try clear c9
  try clear c9b0
  try clear c9b1
  try clear c10
  try clear c11
  try clear c11b0
  try clear c12
  obtain ⟨kq, x34_3, rfl, HA, HJ3, HB⟩ := hcut
  cases kq with
  | zero => exact absurd HA.out (by simp [spinetlaw13_TypesOpen.j0])
  | succ kj3 =>
   have H := HA.out
   clear HA
   simp only [spinetlaw13_TypesOpen.j0] at H
   by_cases c15 : x34_3 = true
   ·
    subst c15
    have H1 : ((spinetlaw13_wakes.f kj3).bind fun t266 => (some t266)) = some r := by rw [if_pos rfl] at H; exact H
    clear H
    have H := H1
    clear H1
    replace H := Option.bind_eq_some_iff.mp H
    obtain ⟨t266, A160, H⟩ := H
    replace H : (some t266) = some r := H
    have A16 := Aside0.mk A160
    clear A160
    obtain rfl := Option.some.inj H
    go_wp2_with (first | ((with_reducible refine gate_callee (f := 24) rfl ?_); refine goesL_ (some 35) rfl rfl Try.func24 (by kernel_rfl) rfl #[] rfl (by (try simp only [List.map_toArray, List.map_cons, List.map_nil]); first | done | rfl | (simp only [List.length_drop, List.length_take]; rfl)) ?_; (with_reducible refine (spinetlaw13_wakes.calls kj3  t266 _ A16.out).mono ?_); rintro e w17 ⟨rfl, hb⟩; refine ⟨_, rfl, ?_⟩; have n0_ := Aside0.mk (below_step (by repeat (first | (with_reducible first | exact HB.out | apply below_alloc | apply pw_below_drewN | apply below_drew1) | exact HB.out)) hb); clear HB; have HB := n0_; clear n0_; (try clear hb); (try clear hb2); (try clear hk); (try clear hi)))
    go_ret
    exact ⟨by first | rfl | (simp [errW_none, errW_some] <;> rfl) | (simp [*, errW_none, errW_some] <;> rfl), by repeat (first | (with_reducible first | exact HB.out | apply below_alloc | apply pw_below_drewN | apply below_drew1) | exact HB.out)⟩
   ·
    replace c15 := Bool.eq_false_iff.mpr c15
    subst c15
    have H1 : (if 0 ≤ a1 then (if a1 < (l0.length : Int) then (if ((rd_T40 l0 a1).f0) = 0 then (spinetlaw13_TypesOpen.j1 kj3 l0 a1 a2 ((rd_T40 l0 a1).f0) true) else (if ((rd_T40 l0 a1).f0) = 5 then (spinetlaw13_TypesOpen.j1 kj3 l0 a1 a2 ((rd_T40 l0 a1).f0) true) else (if ((rd_T40 l0 a1).f0) = 6 then (spinetlaw13_TypesOpen.j1 kj3 l0 a1 a2 ((rd_T40 l0 a1).f0) true) else (spinetlaw13_TypesOpen.j1 kj3 l0 a1 a2 ((rd_T40 l0 a1).f0) (((rd_T40 l0 a1).f0) == 8))))) else (none)) else (none)) = some r := by rw [if_neg (show ¬ (false = true) by decide)] at H; exact H
    clear H
    have H := H1
    clear H1
    by_cases c18 : 0 ≤ a1
    ·
     rw [if_pos c18] at H
     have c18b0 : decide (0 ≤ a1) = true := decide_eq_true c18
     clear c18
     by_cases c19 : a1 < (l0.length : Int)
     ·
      rw [if_pos c19] at H
      have c19b0 : decide (a1 < (l0.length : Int)) = true := decide_eq_true c19
      clear c19
      have HC20 := Aside0.mk H
      clear H
      have p267 : 0 ≤ (a1 : Int) := of_decide_eq_true (by first | (with_reducible assumption) | assumption)
      have q267 : a1 < (l0.length : Int) := of_decide_eq_true (by first | (with_reducible assumption) | assumption)
      obtain ⟨ad267, A267_6, c267_6, A267_7, c267_7, e267, hx267_0, hx267_1, hx267_2, hx267_3, hx267_4, hx267_5, hx267_6, hx267_7, hx267_8, hx267_9, hl267_6, hi267_6, hl267_7, hi267_7⟩ := at_T40 HR0.out a1 p267 q267
      cases e267
      replace hx267_0 := (HB.out.cell (World.block_lt_of_cell? w _ hx267_0)).trans hx267_0
      replace hx267_1 := (HB.out.cell (World.block_lt_of_cell? w _ hx267_1)).trans hx267_1
      replace hx267_2 := (HB.out.cell (World.block_lt_of_cell? w _ hx267_2)).trans hx267_2
      replace hx267_3 := (HB.out.cell (World.block_lt_of_cell? w _ hx267_3)).trans hx267_3
      replace hx267_4 := (HB.out.cell (World.block_lt_of_cell? w _ hx267_4)).trans hx267_4
      replace hx267_5 := (HB.out.cell (World.block_lt_of_cell? w _ hx267_5)).trans hx267_5
      replace hx267_6 := (HB.out.cell (World.block_lt_of_cell? w _ hx267_6)).trans hx267_6
      replace hx267_7 := (HB.out.cell (World.block_lt_of_cell? w _ hx267_7)).trans hx267_7
      replace hx267_8 := (HB.out.cell (World.block_lt_of_cell? w _ hx267_8)).trans hx267_8
      replace hx267_9 := (HB.out.cell (World.block_lt_of_cell? w _ hx267_9)).trans hx267_9
      have HR267_6 := Aside0.mk hi267_6
      have HC267_6 := Aside0.mk hl267_6
      clear hi267_6 hl267_6
      have HR267_7 := Aside0.mk hi267_7
      have HC267_7 := Aside0.mk hl267_7
      clear hi267_7 hl267_7
      replace p267 := eq_true p267
      replace q267 := eq_true q267
      go_upto_region 4 with (fail)
      go_cut [54] (fun v54 wc => ∃ (kq : Nat) (x54_19 : Bool), v54 = .bool x54_19 ∧ Aside0 (spinetlaw13_TypesOpen.j1 kq l0 a1 a2 ((rd_T40 l0 a1).f0) x54_19 = some r) ∧ Aside0 (kq ≤ kj3) ∧ Aside0 (Below w.heap.size w wc))
      case first =>
       have H := HC20.out
       clear HC20
       by_cases c21 : ((rd_T40 l0 a1).f0) = 0
       ·
        rw [if_pos c21] at H
        have c21b0 : (((rd_T40 l0 a1).f0) == 0) = true := beq_iff_eq.mpr c21
        have c21b1 : (((rd_T40 l0 a1).f0) != 0) = false := bne_eq_false_iff_eq.mpr c21
        clear c21
        (first | rw [c21b0] | (simp only [i64_w, i32_w]; rw [c21b0]) | skip)
        have H' := Aside0.mk H
        clear H
        go_wp2
        go_meet
        case rel => exact ⟨_, (true), (by first | rfl | (simp; done) | (simp [*]; done)), H', ⟨by have := HJ3.out; first | omega | exact Nat.le_refl _⟩, ⟨by repeat (first | (with_reducible first | exact HB.out | apply below_alloc | apply pw_below_drewN | apply below_drew1) | exact HB.out)⟩⟩
       ·
        rw [if_neg c21] at H
        have c21b0 : (((rd_T40 l0 a1).f0) == 0) = false := beq_eq_false_iff_ne.mpr c21
        have c21b1 : (((rd_T40 l0 a1).f0) != 0) = true := bne_iff_ne.mpr c21
        (first | rw [c21b0] | (simp only [i64_w, i32_w]; rw [c21b0]) | skip)
        by_cases c22 : ((rd_T40 l0 a1).f0) = 5
        ·
         rw [if_pos c22] at H
         have c22b0 : (((rd_T40 l0 a1).f0) == 5) = true := beq_iff_eq.mpr c22
         have c22b1 : (((rd_T40 l0 a1).f0) != 5) = false := bne_eq_false_iff_eq.mpr c22
         clear c22
         have H' := Aside0.mk H
         clear H
         go_wp2
         go_meet
         case rel => exact ⟨_, (true), (by first | rfl | (simp; done) | (simp [*]; done)), H', ⟨by have := HJ3.out; first | omega | exact Nat.le_refl _⟩, ⟨by repeat (first | (with_reducible first | exact HB.out | apply below_alloc | apply pw_below_drewN | apply below_drew1) | exact HB.out)⟩⟩
        ·
         rw [if_neg c22] at H
         have c22b0 : (((rd_T40 l0 a1).f0) == 5) = false := beq_eq_false_iff_ne.mpr c22
         have c22b1 : (((rd_T40 l0 a1).f0) != 5) = true := bne_iff_ne.mpr c22
         by_cases c23 : ((rd_T40 l0 a1).f0) = 6
         ·
          rw [if_pos c23] at H
          have c23b0 : (((rd_T40 l0 a1).f0) == 6) = true := beq_iff_eq.mpr c23
          have c23b1 : (((rd_T40 l0 a1).f0) != 6) = false := bne_eq_false_iff_eq.mpr c23
          clear c23
          have H' := Aside0.mk H
          clear H
          go_wp2
          go_meet
          case rel => exact ⟨_, (true), (by first | rfl | (simp; done) | (simp [*]; done)), H', ⟨by have := HJ3.out; first | omega | exact Nat.le_refl _⟩, ⟨by repeat (first | (with_reducible first | exact HB.out | apply below_alloc | apply pw_below_drewN | apply below_drew1) | exact HB.out)⟩⟩
         ·
          rw [if_neg c23] at H
          have c23b0 : (((rd_T40 l0 a1).f0) == 6) = false := beq_eq_false_iff_ne.mpr c23
          have c23b1 : (((rd_T40 l0 a1).f0) != 6) = true := bne_iff_ne.mpr c23
          have H' := Aside0.mk H
          clear H
          go_wp2
          go_meet
          case rel => exact ⟨_, ((((rd_T40 l0 a1).f0) == 8)), (by first | rfl | (simp; done) | (simp [*]; done)), H', ⟨by have := HJ3.out; first | omega | exact Nat.le_refl _⟩, ⟨by repeat (first | (with_reducible first | exact HB.out | apply below_alloc | apply pw_below_drewN | apply below_drew1) | exact HB.out)⟩⟩
      case rest =>
       clear HC20
       try clear c1
       try clear c2
       try clear p2
       try clear q2
       try clear hx2
       try clear c6
       try clear c8
       try clear c9
       try clear c9b0
       try clear c9b1
       try clear c10
       try clear c11
       try clear c11b0
       try clear c12
       try clear c15
       try clear c18
       try clear c18b0
       try clear c19
       try clear c19b0
       try clear c21
       try clear c21b0
       try clear c21b1
       try clear c22
       try clear c22b0
       try clear c22b1
       try clear c23
       try clear c23b0
       try clear c23b1
       try clear hx267_0
       try clear hx267_1
       try clear hx267_2
       try clear hx267_3
       try clear hx267_4
       try clear hx267_5
       try clear hx267_6
       try clear hx267_7
       try clear hx267_8
       try clear hx267_9
       try clear p2
       try clear p267
       try clear q267
       obtain ⟨kq, x54_19, rfl, HA, HJ19, HB⟩ := hcut
       cases kq with
       | zero => exact absurd HA.out (by simp [spinetlaw13_TypesOpen.j1])
       | succ kj19 =>
        have H := HA.out
        clear HA
        simp only [spinetlaw13_TypesOpen.j1] at H
        by_cases c24 : x54_19 = true
        ·
         subst c24
         have H1 : ((spinetlaw13_wakes.f kj19).bind fun t268 => (some t268)) = some r := by rw [if_pos rfl] at H; exact H
         clear H
         have H := H1
         clear H1
         replace H := Option.bind_eq_some_iff.mp H
         obtain ⟨t268, A250, H⟩ := H
         replace H : (some t268) = some r := H
         have A25 := Aside0.mk A250
         clear A250
         obtain rfl := Option.some.inj H
         go_wp2_with (first | ((with_reducible refine gate_callee (f := 24) rfl ?_); refine goesL_ (some 55) rfl rfl Try.func24 (by kernel_rfl) rfl #[] rfl (by (try simp only [List.map_toArray, List.map_cons, List.map_nil]); first | done | rfl | (simp only [List.length_drop, List.length_take]; rfl)) ?_; (with_reducible refine (spinetlaw13_wakes.calls kj19  t268 _ A25.out).mono ?_); rintro e w26 ⟨rfl, hb⟩; refine ⟨_, rfl, ?_⟩; have n0_ := Aside0.mk (below_step (by repeat (first | (with_reducible first | exact HB.out | apply below_alloc | apply pw_below_drewN | apply below_drew1) | exact HB.out)) hb); clear HB; have HB := n0_; clear n0_; (try clear hb); (try clear hb2); (try clear hk); (try clear hi)))
         go_ret
         exact ⟨by first | rfl | (simp [errW_none, errW_some] <;> rfl) | (simp [*, errW_none, errW_some] <;> rfl), by repeat (first | (with_reducible first | exact HB.out | apply below_alloc | apply pw_below_drewN | apply below_drew1) | exact HB.out)⟩
        ·
         replace c24 := Bool.eq_false_iff.mpr c24
         subst c24
         have H1 : ((spinetref13_Copy.f l0).bind fun t269 => ((some (([(⟨7, (⟨#[]⟩ : ByteArray), (⟨#[]⟩ : ByteArray), wrap64 (1 + (wrap64 (Int.tmod (IntKind.u64.wrap (a2)) 4096))), a1, 0, ([] : List (S42)), ([] : List (S47)), 0, 0⟩ : S40), (⟨8, (⟨#[]⟩ : ByteArray), (⟨#[]⟩ : ByteArray), 0, a1, 0, ([] : List (S42)), ([] : List (S47)), 0, 0⟩ : S40), (⟨8, (⟨#[]⟩ : ByteArray), (⟨#[]⟩ : ByteArray), 0, wrap64 ((l0.length : Int) + 1), 0, ([] : List (S42)), ([] : List (S47)), 0, 0⟩ : S40)] : List (S40)) : List (S40))).bind fun y272 => (if t269.length + y272.length < 1099511627776 then ((some (t269 ++ y272 : List (S40))).bind fun y275 => ((spinetref13_Copy.f y275).bind fun t280 => ((types_Good.f t280).bind fun t283 => (if t283 = true then ((types_Fits.f kj19 y275 (l0.length : Int) true (wrap64 ((l0.length : Int) + 1))).bind fun t284 => (if t284 = true then ((types_Fits.f kj19 y275 (l0.length : Int) false (wrap64 ((l0.length : Int) + 1))).bind fun t285 => (if t285 = true then ((types_Assign.f kj19 y275 (l0.length : Int) (wrap64 ((l0.length : Int) + 1))).bind fun t286 => (if t286 = true then (spinetlaw13_TypesOpen.j2 kj19 ((rd_T40 l0 a1).f0) y275 true true (wrap64 ((l0.length : Int) + 1)) false (wrap64 ((l0.length : Int) + 1))) else ((types_Assign.f kj19 y275 (wrap64 ((l0.length : Int) + 1)) (l0.length : Int)).bind fun t287 => (spinetlaw13_TypesOpen.j2 kj19 ((rd_T40 l0 a1).f0) y275 (!t287) true (wrap64 ((l0.length : Int) + 1)) false (wrap64 ((l0.length : Int) + 1)))))) else (spinetlaw13_TypesOpen.j2 kj19 ((rd_T40 l0 a1).f0) y275 true true (wrap64 ((l0.length : Int) + 1)) false (wrap64 ((l0.length : Int) + 1))))) else (spinetlaw13_TypesOpen.j2 kj19 ((rd_T40 l0 a1).f0) y275 true true (wrap64 ((l0.length : Int) + 1)) false (wrap64 ((l0.length : Int) + 1))))) else (spinetlaw13_TypesOpen.j2 kj19 ((rd_T40 l0 a1).f0) y275 true true (wrap64 ((l0.length : Int) + 1)) false (wrap64 ((l0.length : Int) + 1))))))) else (none)))) = some r := by rw [if_neg (show ¬ (false = true) by decide)] at H; exact H
         clear H
         have H := H1
         clear H1
         replace H := Option.bind_eq_some_iff.mp H
         obtain ⟨t269, A270, H⟩ := H
         replace H : ((some (([(⟨7, (⟨#[]⟩ : ByteArray), (⟨#[]⟩ : ByteArray), wrap64 (1 + (wrap64 (Int.tmod (IntKind.u64.wrap (a2)) 4096))), a1, 0, ([] : List (S42)), ([] : List (S47)), 0, 0⟩ : S40), (⟨8, (⟨#[]⟩ : ByteArray), (⟨#[]⟩ : ByteArray), 0, a1, 0, ([] : List (S42)), ([] : List (S47)), 0, 0⟩ : S40), (⟨8, (⟨#[]⟩ : ByteArray), (⟨#[]⟩ : ByteArray), 0, wrap64 ((l0.length : Int) + 1), 0, ([] : List (S42)), ([] : List (S47)), 0, 0⟩ : S40)] : List (S40)) : List (S40))).bind fun y272 => (if t269.length + y272.length < 1099511627776 then ((some (t269 ++ y272 : List (S40))).bind fun y275 => ((spinetref13_Copy.f y275).bind fun t280 => ((types_Good.f t280).bind fun t283 => (if t283 = true then ((types_Fits.f kj19 y275 (l0.length : Int) true (wrap64 ((l0.length : Int) + 1))).bind fun t284 => (if t284 = true then ((types_Fits.f kj19 y275 (l0.length : Int) false (wrap64 ((l0.length : Int) + 1))).bind fun t285 => (if t285 = true then ((types_Assign.f kj19 y275 (l0.length : Int) (wrap64 ((l0.length : Int) + 1))).bind fun t286 => (if t286 = true then (spinetlaw13_TypesOpen.j2 kj19 ((rd_T40 l0 a1).f0) y275 true true (wrap64 ((l0.length : Int) + 1)) false (wrap64 ((l0.length : Int) + 1))) else ((types_Assign.f kj19 y275 (wrap64 ((l0.length : Int) + 1)) (l0.length : Int)).bind fun t287 => (spinetlaw13_TypesOpen.j2 kj19 ((rd_T40 l0 a1).f0) y275 (!t287) true (wrap64 ((l0.length : Int) + 1)) false (wrap64 ((l0.length : Int) + 1)))))) else (spinetlaw13_TypesOpen.j2 kj19 ((rd_T40 l0 a1).f0) y275 true true (wrap64 ((l0.length : Int) + 1)) false (wrap64 ((l0.length : Int) + 1))))) else (spinetlaw13_TypesOpen.j2 kj19 ((rd_T40 l0 a1).f0) y275 true true (wrap64 ((l0.length : Int) + 1)) false (wrap64 ((l0.length : Int) + 1))))) else (spinetlaw13_TypesOpen.j2 kj19 ((rd_T40 l0 a1).f0) y275 true true (wrap64 ((l0.length : Int) + 1)) false (wrap64 ((l0.length : Int) + 1))))))) else (none))) = some r := H
         have A27 := Aside0.mk A270
         clear A270
         obtain ⟨y272, hy272⟩ : ∃ y_ : List (S40), y_ = (([(⟨7, (⟨#[]⟩ : ByteArray), (⟨#[]⟩ : ByteArray), wrap64 (1 + (wrap64 (Int.tmod (IntKind.u64.wrap (a2)) 4096))), a1, 0, ([] : List (S42)), ([] : List (S47)), 0, 0⟩ : S40), (⟨8, (⟨#[]⟩ : ByteArray), (⟨#[]⟩ : ByteArray), 0, a1, 0, ([] : List (S42)), ([] : List (S47)), 0, 0⟩ : S40), (⟨8, (⟨#[]⟩ : ByteArray), (⟨#[]⟩ : ByteArray), 0, wrap64 ((l0.length : Int) + 1), 0, ([] : List (S42)), ([] : List (S47)), 0, 0⟩ : S40)] : List (S40))) := ⟨_, rfl⟩
         replace H : (if t269.length + y272.length < 1099511627776 then ((some (t269 ++ y272 : List (S40))).bind fun y275 => ((spinetref13_Copy.f y275).bind fun t280 => ((types_Good.f t280).bind fun t283 => (if t283 = true then ((types_Fits.f kj19 y275 (l0.length : Int) true (wrap64 ((l0.length : Int) + 1))).bind fun t284 => (if t284 = true then ((types_Fits.f kj19 y275 (l0.length : Int) false (wrap64 ((l0.length : Int) + 1))).bind fun t285 => (if t285 = true then ((types_Assign.f kj19 y275 (l0.length : Int) (wrap64 ((l0.length : Int) + 1))).bind fun t286 => (if t286 = true then (spinetlaw13_TypesOpen.j2 kj19 ((rd_T40 l0 a1).f0) y275 true true (wrap64 ((l0.length : Int) + 1)) false (wrap64 ((l0.length : Int) + 1))) else ((types_Assign.f kj19 y275 (wrap64 ((l0.length : Int) + 1)) (l0.length : Int)).bind fun t287 => (spinetlaw13_TypesOpen.j2 kj19 ((rd_T40 l0 a1).f0) y275 (!t287) true (wrap64 ((l0.length : Int) + 1)) false (wrap64 ((l0.length : Int) + 1)))))) else (spinetlaw13_TypesOpen.j2 kj19 ((rd_T40 l0 a1).f0) y275 true true (wrap64 ((l0.length : Int) + 1)) false (wrap64 ((l0.length : Int) + 1))))) else (spinetlaw13_TypesOpen.j2 kj19 ((rd_T40 l0 a1).f0) y275 true true (wrap64 ((l0.length : Int) + 1)) false (wrap64 ((l0.length : Int) + 1))))) else (spinetlaw13_TypesOpen.j2 kj19 ((rd_T40 l0 a1).f0) y275 true true (wrap64 ((l0.length : Int) + 1)) false (wrap64 ((l0.length : Int) + 1))))))) else (none)) = some r := by first | (rw [hy272]; with_reducible exact H) | (have H2_ := (Option.bind_some _ _).symm.trans H; rw [hy272]; with_reducible exact H2_) | (have H2_ := (Option.bind_some _ _).symm.trans H; with_reducible exact H2_) | with_reducible exact H | (rw [hy272]; exact H) | exact H
         have Ny272 := Aside0.mk hy272
         clear hy272
         by_cases c28 : t269.length + y272.length < 1099511627776
         ·
          rw [if_pos c28] at H
          have LMc28 := Aside0.mk c28
          clear c28
          obtain ⟨y275, hy275⟩ : ∃ y_ : List (S40), y_ = (t269 ++ y272) := ⟨_, rfl⟩
          replace H : ((spinetref13_Copy.f y275).bind fun t280 => ((types_Good.f t280).bind fun t283 => (if t283 = true then ((types_Fits.f kj19 y275 (l0.length : Int) true (wrap64 ((l0.length : Int) + 1))).bind fun t284 => (if t284 = true then ((types_Fits.f kj19 y275 (l0.length : Int) false (wrap64 ((l0.length : Int) + 1))).bind fun t285 => (if t285 = true then ((types_Assign.f kj19 y275 (l0.length : Int) (wrap64 ((l0.length : Int) + 1))).bind fun t286 => (if t286 = true then (spinetlaw13_TypesOpen.j2 kj19 ((rd_T40 l0 a1).f0) y275 true true (wrap64 ((l0.length : Int) + 1)) false (wrap64 ((l0.length : Int) + 1))) else ((types_Assign.f kj19 y275 (wrap64 ((l0.length : Int) + 1)) (l0.length : Int)).bind fun t287 => (spinetlaw13_TypesOpen.j2 kj19 ((rd_T40 l0 a1).f0) y275 (!t287) true (wrap64 ((l0.length : Int) + 1)) false (wrap64 ((l0.length : Int) + 1)))))) else (spinetlaw13_TypesOpen.j2 kj19 ((rd_T40 l0 a1).f0) y275 true true (wrap64 ((l0.length : Int) + 1)) false (wrap64 ((l0.length : Int) + 1))))) else (spinetlaw13_TypesOpen.j2 kj19 ((rd_T40 l0 a1).f0) y275 true true (wrap64 ((l0.length : Int) + 1)) false (wrap64 ((l0.length : Int) + 1))))) else (spinetlaw13_TypesOpen.j2 kj19 ((rd_T40 l0 a1).f0) y275 true true (wrap64 ((l0.length : Int) + 1)) false (wrap64 ((l0.length : Int) + 1)))))) = some r := by first | (rw [hy275]; with_reducible exact H) | (have H2_ := (Option.bind_some _ _).symm.trans H; rw [hy275]; with_reducible exact H2_) | (have H2_ := (Option.bind_some _ _).symm.trans H; with_reducible exact H2_) | with_reducible exact H | (rw [hy275]; exact H) | exact H
          have Ny275 := Aside0.mk hy275
          clear hy275
          have HC29 := Aside0.mk H
          clear H
          go_upto_region 9 with (first | ((with_reducible refine gate_callee (f := 14) rfl ?_); refine goesL_ (some 59) rfl rfl Try.func14 (by kernel_rfl) rfl #[.slice (some ad267) l0.length c0] rfl (by (try simp only [List.map_toArray, List.map_cons, List.map_nil]); first | done | rfl | (simp only [List.length_drop, List.length_take]; rfl)) ?_; (with_reducible refine (spinetref13_Copy.calls _ _ l0 t269 _ ?side1 ?side2 A27.out).mono ?_); (case side1 => repeat (first | exact (Kd.C_below HR0.out HB.out) | (with_reducible refine Kd.C_alloc ?_ _) | (with_reducible refine Kd.C_drewN ?_ _) | (with_reducible refine Kd.C_drew ?_))); (case side2 => exact HC0.out); rintro e w30 ⟨v270, rfl, ho0, hb⟩; refine ⟨_, rfl, ?_⟩; have n0_ := Aside0.mk (Kd.N_lower (Kd.N_mono (ok' := fun k_ => True) (Kd.S_N (Kd.S_bound ho0)) (fun k_ hk_ => trivial)) (below_size (by repeat (first | (with_reducible first | exact HB.out | apply below_alloc | apply pw_below_drewN | apply below_drew1) | exact HB.out)))); have n1_ := Aside0.mk (below_step (by repeat (first | (with_reducible first | exact HB.out | apply below_alloc | apply pw_below_drewN | apply below_drew1) | exact HB.out)) hb); clear HB; have HO271 := n0_; have HB := n1_; clear n0_ n1_; (try clear hb); (try clear hb2); (try clear hk); (try clear hi); (try clear ho0)) | ((with_reducible refine gate_dst (N := 72) rfl ?_); (try (refine gate_guard (by rfl) ?_; dsimp only)); refine Kd.N_lit k40 _ 40 ?hg (N' := 72) ?hd (xs := ([(⟨7, (⟨#[]⟩ : ByteArray), (⟨#[]⟩ : ByteArray), wrap64 (1 + (wrap64 (Int.tmod (IntKind.u64.wrap (a2)) 4096))), a1, 0, ([] : List (S42)), ([] : List (S47)), 0, 0⟩ : S40), (⟨8, (⟨#[]⟩ : ByteArray), (⟨#[]⟩ : ByteArray), 0, a1, 0, ([] : List (S42)), ([] : List (S47)), 0, 0⟩ : S40), (⟨8, (⟨#[]⟩ : ByteArray), (⟨#[]⟩ : ByteArray), 0, wrap64 ((l0.length : Int) + 1), 0, ([] : List (S42)), ([] : List (S47)), 0, 0⟩ : S40)] : List (S40))) (inner := [.int .i64 7, .string (⟨#[]⟩ : ByteArray), .string (⟨#[]⟩ : ByteArray), .int .i64 (wrap64 (1 + (wrap64 (Int.tmod (IntKind.u64.wrap (a2)) 4096)))), .int .i64 a1, .int .i64 0, .slice none 0 0, .slice none 0 0, .int .i64 0, .int .i64 0, .int .i64 8, .string (⟨#[]⟩ : ByteArray), .string (⟨#[]⟩ : ByteArray), .int .i64 0, .int .i64 a1, .int .i64 0, .slice none 0 0, .slice none 0 0, .int .i64 0, .int .i64 0, .int .i64 8, .string (⟨#[]⟩ : ByteArray), .string (⟨#[]⟩ : ByteArray), .int .i64 0, .int .i64 (wrap64 ((l0.length : Int) + 1)), .int .i64 0, .slice none 0 0, .slice none 0 0, .int .i64 0, .int .i64 0]) (ok := (fun k_ => some k_ ≠ (v270 : Value).ownBlock)) (okp := (fun k_ => some k_ ≠ (v270 : Value).ownBlock)) ?hr ?hp (fun _ hk => hk) ((show ∀ k_, w30.heap.size ≤ k_ → (fun k_ => some k_ ≠ (v270 : Value).ownBlock) k_ from fun k_ hk => Kd.fresh' (Kd.N_lt (by (with_reducible repeat (first | apply Kd.N_alloc | apply Kd.N_drewN | apply Kd.N_drew)); exact HO271.out)) k_ hk) _ (Nat.le_refl _)) (Below.refl _ _) (Nat.le_refl _) (by simp) ?_; (case hd => rfl); (case hg => rfl); (case hr => first | (go_simp; done) | (go_simp; rfl)); (case hp => exact (Reps.c10 (show Kd.FK k40 _ _ (⟨7, (⟨#[]⟩ : ByteArray), (⟨#[]⟩ : ByteArray), wrap64 (1 + (wrap64 (Int.tmod (IntKind.u64.wrap (a2)) 4096))), a1, 0, ([] : List (S42)), ([] : List (S47)), 0, 0⟩ : S40) [.int .i64 7, .string (⟨#[]⟩ : ByteArray), .string (⟨#[]⟩ : ByteArray), .int .i64 (wrap64 (1 + (wrap64 (Int.tmod (IntKind.u64.wrap (a2)) 4096)))), .int .i64 a1, .int .i64 0, .slice none 0 0, .slice none 0 0, .int .i64 0, .int .i64 0] from (k40_mkF _ _ (⟨7, (⟨#[]⟩ : ByteArray), (⟨#[]⟩ : ByteArray), wrap64 (1 + (wrap64 (Int.tmod (IntKind.u64.wrap (a2)) 4096))), a1, 0, ([] : List (S42)), ([] : List (S47)), 0, 0⟩ : S40) (Nat.le_refl _) (Kd.F_nil _ _ _) (Nat.le_refl _) (Kd.F_nil _ _ _))) (Reps.c10 (show Kd.FK k40 _ _ (⟨8, (⟨#[]⟩ : ByteArray), (⟨#[]⟩ : ByteArray), 0, a1, 0, ([] : List (S42)), ([] : List (S47)), 0, 0⟩ : S40) [.int .i64 8, .string (⟨#[]⟩ : ByteArray), .string (⟨#[]⟩ : ByteArray), .int .i64 0, .int .i64 a1, .int .i64 0, .slice none 0 0, .slice none 0 0, .int .i64 0, .int .i64 0] from (k40_mkF _ _ (⟨8, (⟨#[]⟩ : ByteArray), (⟨#[]⟩ : ByteArray), 0, a1, 0, ([] : List (S42)), ([] : List (S47)), 0, 0⟩ : S40) (Nat.le_refl _) (Kd.F_nil _ _ _) (Nat.le_refl _) (Kd.F_nil _ _ _))) (Reps.c10 (show Kd.FK k40 _ _ (⟨8, (⟨#[]⟩ : ByteArray), (⟨#[]⟩ : ByteArray), 0, wrap64 ((l0.length : Int) + 1), 0, ([] : List (S42)), ([] : List (S47)), 0, 0⟩ : S40) [.int .i64 8, .string (⟨#[]⟩ : ByteArray), .string (⟨#[]⟩ : ByteArray), .int .i64 0, .int .i64 (wrap64 ((l0.length : Int) + 1)), .int .i64 0, .slice none 0 0, .slice none 0 0, .int .i64 0, .int .i64 0] from (k40_mkF _ _ (⟨8, (⟨#[]⟩ : ByteArray), (⟨#[]⟩ : ByteArray), 0, wrap64 ((l0.length : Int) + 1), 0, ([] : List (S42)), ([] : List (S47)), 0, 0⟩ : S40) (Nat.le_refl _) (Kd.F_nil _ _ _) (Nat.le_refl _) (Kd.F_nil _ _ _))) (Reps.none _ _))))); intro v273 w31 ho32 hb hg_ hnew_; clear hg_ hnew_; (first | rw [← Ny272.out] at ho32 | (simp only [Int.reduceToNat] at ho32; rw [← Ny272.out] at ho32)); have n0_ := Aside0.mk (Kd.N_elder' (by (with_reducible repeat (first | apply Kd.N_alloc | apply Kd.N_drewN | apply Kd.N_drew)); exact HO271.out) (Kd.N_base ho32) hb); have n1_ := Aside0.mk (Kd.N_lower ho32 (below_size (by repeat (first | (with_reducible first | exact HB.out | apply below_alloc | apply pw_below_drewN | apply below_drew1) | exact HB.out)))); have n2_ := Aside0.mk (below_step (by repeat (first | (with_reducible first | exact HB.out | apply below_alloc | apply pw_below_drewN | apply below_drew1) | exact HB.out)) hb); clear HO271; clear HB; have HO271 := n0_; have HO274 := n1_; have HB := n2_; clear n0_ n1_ n2_; clear hb ho32; obtain ⟨Ao34, co34, eo34⟩ := Kd.N_slice HO274.out; subst eo34) | ((with_reducible refine gate_builtin (b := .append) (xs := #[.tmp 59, .tmp 72]) rfl ?_); (try (refine gate_guard (by rfl) ?_; dsimp only)); at_builtin; refine Kd.N_append_rows k40 (w0 := w) w.heap.size rfl (.tmp 59) (.tmp 72) 22 40 (.agg #[(.int .i64 0), (.string ⟨#[]⟩), (.string ⟨#[]⟩), (.int .i64 0), (.int .i64 0), (.int .i64 0), (.slice none 0 0), (.slice none 0 0), (.int .i64 0), (.int .i64 0)]) 128 rfl Try.underlying22 info40 rfl (by decide) (by omega) v270 t269 y272 _ _ _ (fun _ => True) (fun k_ => ((fun _ => True)) k_ ∧ some k_ ≠ (v270 : Value).ownBlock) rfl rfl ?aO ?aR (fun _ hk => hk) ?aF ?aB ?aS ?aL ?_; (case aR => exact (by skip; exact Kd.N_F (Kd.N_mono (ok' := (fun k_ => ((fun _ => True)) k_ ∧ some k_ ≠ (v270 : Value).ownBlock)) (HO274.out) (fun k_ hk => ⟨trivial, hk⟩)))); (case aB => exact (by repeat (first | (with_reducible first | exact HB.out | apply below_alloc | apply pw_below_drewN | apply below_drew1) | exact HB.out))); (case aF => exact (fun _ _ => trivial)); (case aO => exact (by (with_reducible repeat (first | apply Kd.N_alloc | apply Kd.N_drewN | apply Kd.N_drew)); exact Kd.N_mono HO271.out (fun _ hk => trivial))); (case aS => exact (below_size (by repeat (first | (with_reducible first | exact HB.out | apply below_alloc | apply pw_below_drewN | apply below_drew1) | exact HB.out)))); (case aL => have := LMc28.out; omega); intro v276 w33 ho hb hg hat; rw [← Ny275.out] at ho; have n0_ := Aside0.mk (Kd.N_afterv (ok := (fun _ => True)) (by (with_reducible repeat (first | apply Kd.N_alloc | apply Kd.N_drewN | apply Kd.N_drew)); exact Kd.N_mono HO274.out (fun _ hk => ⟨trivial, hk⟩)) hg hat); have n1_ := Aside0.mk (hb); have n2_ := Aside0.mk (ho); clear HO274; clear HB; clear HO271; have HO274 := n0_; have HB := n1_; have HO277 := n2_; clear n0_ n1_ n2_; clear ho hb hg hat) | ((with_reducible refine gate_dst (N := 10) rfl ?_); (try (refine gate_guard (by rfl) ?_; dsimp only)); refine box_event ?hg (N := 10) ?hd (cs := #[.bool false, .int .i64 0]) (t := 47) ?hr ?_; (case hd => rfl); (case hg => rfl); (case hr => first | (go_simp; done) | (go_simp; rfl)); intro gb278 hg w35 hbox hb; have n0_ := Aside0.mk (Kd.N_below (Kd.N_elderB (by (with_reducible repeat (first | apply Kd.N_alloc | apply Kd.N_drewN | apply Kd.N_drew)); exact HO274.out) gb278 (Nat.le_of_eq hg.symm)) hb); have n1_ := Aside0.mk (Kd.N_below (Kd.N_elderB (by (with_reducible repeat (first | apply Kd.N_alloc | apply Kd.N_drewN | apply Kd.N_drew)); exact HO277.out) gb278 (Nat.le_of_eq hg.symm)) hb); have n2_ := Aside0.mk (below_step (by repeat (first | (with_reducible first | exact HB.out | apply below_alloc | apply pw_below_drewN | apply below_drew1) | exact HB.out)) hb); have n3_ := Aside0.mk (hbox); have n4_ := Aside0.mk ((by rw [hg]; exact (below_size (by repeat (first | (with_reducible first | exact HB.out | apply below_alloc | apply pw_below_drewN | apply below_drew1) | exact HB.out))) : w.heap.size ≤ gb278)); have n5_ := Aside0.mk ((by rw [hg]; exact (below_size (by repeat (first | (with_reducible first | exact HB.out | apply below_alloc | apply pw_below_drewN | apply below_drew1) | exact HB.out))) : w.heap.size ≤ gb278)); clear HO274; clear HO277; clear HB; have HO274 := n0_; have HO277 := n1_; have HB := n2_; have BK278 := n3_; have GW278 := n4_; have GE278 := n5_; clear n0_ n1_ n2_ n3_ n4_ n5_; clear hb hbox hg) | ((with_reducible refine gate_dst (N := 11) rfl ?_); (try (refine gate_guard (by rfl) ?_; dsimp only)); refine box_event ?hg (N := 11) ?hd (cs := #[.bool false, .int .i64 0]) (t := 47) ?hr ?_; (case hd => rfl); (case hg => rfl); (case hr => first | (go_simp; done) | (go_simp; rfl)); intro gb279 hg w36 hbox hb; have n0_ := Aside0.mk (Kd.N_below (Kd.N_elderB (by (with_reducible repeat (first | apply Kd.N_alloc | apply Kd.N_drewN | apply Kd.N_drew)); exact HO274.out) gb279 (Nat.le_of_eq hg.symm)) hb); have n1_ := Aside0.mk (Kd.N_below (Kd.N_elderB (by (with_reducible repeat (first | apply Kd.N_alloc | apply Kd.N_drewN | apply Kd.N_drew)); exact HO277.out) gb279 (Nat.le_of_eq hg.symm)) hb); have n2_ := Aside0.mk (blk_below (g := gb278) (o := .cells #[.bool false, .int .i64 0] 47 (0, 0)) (by (with_reducible repeat (first | refine blk_drewN ?_ _ | refine blk_drew ?_ | refine blk_alloc ?_ _)); exact BK278.out) hb); have n3_ := Aside0.mk (below_step (by repeat (first | (with_reducible first | exact HB.out | apply below_alloc | apply pw_below_drewN | apply below_drew1 | refine below_set ?_ GE278.out) | exact HB.out)) hb); have n4_ := Aside0.mk (hbox); have n5_ := Aside0.mk ((by rw [hg]; exact (below_size (by repeat (first | (with_reducible first | exact HB.out | apply below_alloc | apply pw_below_drewN | apply below_drew1 | refine below_set ?_ GE278.out) | exact HB.out))) : w.heap.size ≤ gb279)); have n6_ := Aside0.mk ((by rw [hg]; exact (below_size (by repeat (first | (with_reducible first | exact HB.out | apply below_alloc | apply pw_below_drewN | apply below_drew1 | refine below_set ?_ GE278.out) | exact HB.out))) : w.heap.size ≤ gb279)); have n7_ := Aside0.mk ((by rw [hg]; exact Nat.ne_of_lt (blk_lt (g := gb278) (o := .cells #[.bool false, .int .i64 0] 47 (0, 0)) (by (with_reducible repeat (first | refine blk_drewN ?_ _ | refine blk_drew ?_ | refine blk_alloc ?_ _)); exact BK278.out)) : gb278 ≠ gb279)); have n8_ := Aside0.mk ((by rw [hg]; exact Nat.ne_of_gt (blk_lt (g := gb278) (o := .cells #[.bool false, .int .i64 0] 47 (0, 0)) (by (with_reducible repeat (first | refine blk_drewN ?_ _ | refine blk_drew ?_ | refine blk_alloc ?_ _)); exact BK278.out)) : gb279 ≠ gb278)); clear HO274; clear HO277; clear BK278; clear HB; have HO274 := n0_; have HO277 := n1_; have BK278 := n2_; have HB := n3_; have BK279 := n4_; have GW279 := n5_; have GE279 := n6_; have NB278_279 := n7_; have NB279_278 := n8_; clear n0_ n1_ n2_ n3_ n4_ n5_ n6_ n7_ n8_; clear hb hbox hg; have hnb37 := NB278_279.out; have hnc37 := NB279_278.out; have hcz38_0 : w36.cell? ⟨gb278, 0, none⟩ = some (.bool false) := (blk_cell BK278.out 0).trans rfl; have hcz38_1 : w36.cell? ⟨gb278, 1, none⟩ = some (.int .i64 0) := (blk_cell BK278.out 1).trans rfl; have hfz38_0 := blk_frozen BK278.out 0; have hfz38_1 := blk_frozen BK278.out 1; have hcz39_0 : w36.cell? ⟨gb279, 0, none⟩ = some (.bool false) := (blk_cell BK279.out 0).trans rfl; have hcz39_1 : w36.cell? ⟨gb279, 1, none⟩ = some (.int .i64 0) := (blk_cell BK279.out 1).trans rfl; have hfz39_0 := blk_frozen BK279.out 0; have hfz39_1 := blk_frozen BK279.out 1))
          (try simp only [Act.put, List.setIfInBounds_toArray, List.set_cons_zero, List.set_cons_succ])
          go_cut [112] (fun v112 wc => ∃ (kq : Nat) (x112_28 : Bool), v112 = .bool x112_28 ∧ Aside0 (spinetlaw13_TypesOpen.j2 kq ((rd_T40 l0 a1).f0) y275 x112_28 true (wrap64 ((l0.length : Int) + 1)) false (wrap64 ((l0.length : Int) + 1)) = some r) ∧ Aside0 (kq ≤ kj19) ∧ Aside0 (Kd.N k40 40 wc w.heap.size (fun k_ => k_ ≠ gb278 ∧ k_ ≠ gb279) v276 y275) ∧ Aside0 (wc.heap[gb278]? = some (.cells #[.bool true, .int .i64 (wrap64 ((l0.length : Int) + 1))] 47 (0, 0))) ∧ Aside0 (wc.heap[gb279]? = some (.cells #[.bool false, .int .i64 (wrap64 ((l0.length : Int) + 1))] 47 (0, 0))) ∧ Aside0 (Below w.heap.size w wc))
          case first =>
           have H := HC29.out
           clear HC29
           replace H := Option.bind_eq_some_iff.mp H
           obtain ⟨t280, A400, H⟩ := H
           replace H : ((types_Good.f t280).bind fun t283 => (if t283 = true then ((types_Fits.f kj19 y275 (l0.length : Int) true (wrap64 ((l0.length : Int) + 1))).bind fun t284 => (if t284 = true then ((types_Fits.f kj19 y275 (l0.length : Int) false (wrap64 ((l0.length : Int) + 1))).bind fun t285 => (if t285 = true then ((types_Assign.f kj19 y275 (l0.length : Int) (wrap64 ((l0.length : Int) + 1))).bind fun t286 => (if t286 = true then (spinetlaw13_TypesOpen.j2 kj19 ((rd_T40 l0 a1).f0) y275 true true (wrap64 ((l0.length : Int) + 1)) false (wrap64 ((l0.length : Int) + 1))) else ((types_Assign.f kj19 y275 (wrap64 ((l0.length : Int) + 1)) (l0.length : Int)).bind fun t287 => (spinetlaw13_TypesOpen.j2 kj19 ((rd_T40 l0 a1).f0) y275 (!t287) true (wrap64 ((l0.length : Int) + 1)) false (wrap64 ((l0.length : Int) + 1)))))) else (spinetlaw13_TypesOpen.j2 kj19 ((rd_T40 l0 a1).f0) y275 true true (wrap64 ((l0.length : Int) + 1)) false (wrap64 ((l0.length : Int) + 1))))) else (spinetlaw13_TypesOpen.j2 kj19 ((rd_T40 l0 a1).f0) y275 true true (wrap64 ((l0.length : Int) + 1)) false (wrap64 ((l0.length : Int) + 1))))) else (spinetlaw13_TypesOpen.j2 kj19 ((rd_T40 l0 a1).f0) y275 true true (wrap64 ((l0.length : Int) + 1)) false (wrap64 ((l0.length : Int) + 1))))) = some r := H
           have A40 := Aside0.mk A400
           clear A400
           replace H := Option.bind_eq_some_iff.mp H
           obtain ⟨t283, A410, H⟩ := H
           replace H : (if t283 = true then ((types_Fits.f kj19 y275 (l0.length : Int) true (wrap64 ((l0.length : Int) + 1))).bind fun t284 => (if t284 = true then ((types_Fits.f kj19 y275 (l0.length : Int) false (wrap64 ((l0.length : Int) + 1))).bind fun t285 => (if t285 = true then ((types_Assign.f kj19 y275 (l0.length : Int) (wrap64 ((l0.length : Int) + 1))).bind fun t286 => (if t286 = true then (spinetlaw13_TypesOpen.j2 kj19 ((rd_T40 l0 a1).f0) y275 true true (wrap64 ((l0.length : Int) + 1)) false (wrap64 ((l0.length : Int) + 1))) else ((types_Assign.f kj19 y275 (wrap64 ((l0.length : Int) + 1)) (l0.length : Int)).bind fun t287 => (spinetlaw13_TypesOpen.j2 kj19 ((rd_T40 l0 a1).f0) y275 (!t287) true (wrap64 ((l0.length : Int) + 1)) false (wrap64 ((l0.length : Int) + 1)))))) else (spinetlaw13_TypesOpen.j2 kj19 ((rd_T40 l0 a1).f0) y275 true true (wrap64 ((l0.length : Int) + 1)) false (wrap64 ((l0.length : Int) + 1))))) else (spinetlaw13_TypesOpen.j2 kj19 ((rd_T40 l0 a1).f0) y275 true true (wrap64 ((l0.length : Int) + 1)) false (wrap64 ((l0.length : Int) + 1))))) else (spinetlaw13_TypesOpen.j2 kj19 ((rd_T40 l0 a1).f0) y275 true true (wrap64 ((l0.length : Int) + 1)) false (wrap64 ((l0.length : Int) + 1)))) = some r := H
           have A41 := Aside0.mk A410
           clear A410
           by_cases c42 : t283 = true
           ·
            subst c42
            have H1 : ((types_Fits.f kj19 y275 (l0.length : Int) true (wrap64 ((l0.length : Int) + 1))).bind fun t284 => (if t284 = true then ((types_Fits.f kj19 y275 (l0.length : Int) false (wrap64 ((l0.length : Int) + 1))).bind fun t285 => (if t285 = true then ((types_Assign.f kj19 y275 (l0.length : Int) (wrap64 ((l0.length : Int) + 1))).bind fun t286 => (if t286 = true then (spinetlaw13_TypesOpen.j2 kj19 ((rd_T40 l0 a1).f0) y275 true true (wrap64 ((l0.length : Int) + 1)) false (wrap64 ((l0.length : Int) + 1))) else ((types_Assign.f kj19 y275 (wrap64 ((l0.length : Int) + 1)) (l0.length : Int)).bind fun t287 => (spinetlaw13_TypesOpen.j2 kj19 ((rd_T40 l0 a1).f0) y275 (!t287) true (wrap64 ((l0.length : Int) + 1)) false (wrap64 ((l0.length : Int) + 1)))))) else (spinetlaw13_TypesOpen.j2 kj19 ((rd_T40 l0 a1).f0) y275 true true (wrap64 ((l0.length : Int) + 1)) false (wrap64 ((l0.length : Int) + 1))))) else (spinetlaw13_TypesOpen.j2 kj19 ((rd_T40 l0 a1).f0) y275 true true (wrap64 ((l0.length : Int) + 1)) false (wrap64 ((l0.length : Int) + 1))))) = some r := by rw [if_pos rfl] at H; exact H
            clear H
            have H := H1
            clear H1
            replace H := Option.bind_eq_some_iff.mp H
            obtain ⟨t284, A430, H⟩ := H
            replace H : (if t284 = true then ((types_Fits.f kj19 y275 (l0.length : Int) false (wrap64 ((l0.length : Int) + 1))).bind fun t285 => (if t285 = true then ((types_Assign.f kj19 y275 (l0.length : Int) (wrap64 ((l0.length : Int) + 1))).bind fun t286 => (if t286 = true then (spinetlaw13_TypesOpen.j2 kj19 ((rd_T40 l0 a1).f0) y275 true true (wrap64 ((l0.length : Int) + 1)) false (wrap64 ((l0.length : Int) + 1))) else ((types_Assign.f kj19 y275 (wrap64 ((l0.length : Int) + 1)) (l0.length : Int)).bind fun t287 => (spinetlaw13_TypesOpen.j2 kj19 ((rd_T40 l0 a1).f0) y275 (!t287) true (wrap64 ((l0.length : Int) + 1)) false (wrap64 ((l0.length : Int) + 1)))))) else (spinetlaw13_TypesOpen.j2 kj19 ((rd_T40 l0 a1).f0) y275 true true (wrap64 ((l0.length : Int) + 1)) false (wrap64 ((l0.length : Int) + 1))))) else (spinetlaw13_TypesOpen.j2 kj19 ((rd_T40 l0 a1).f0) y275 true true (wrap64 ((l0.length : Int) + 1)) false (wrap64 ((l0.length : Int) + 1)))) = some r := H
            have A43 := Aside0.mk A430
            clear A430
            by_cases c44 : t284 = true
            ·
             subst c44
             have H1 : ((types_Fits.f kj19 y275 (l0.length : Int) false (wrap64 ((l0.length : Int) + 1))).bind fun t285 => (if t285 = true then ((types_Assign.f kj19 y275 (l0.length : Int) (wrap64 ((l0.length : Int) + 1))).bind fun t286 => (if t286 = true then (spinetlaw13_TypesOpen.j2 kj19 ((rd_T40 l0 a1).f0) y275 true true (wrap64 ((l0.length : Int) + 1)) false (wrap64 ((l0.length : Int) + 1))) else ((types_Assign.f kj19 y275 (wrap64 ((l0.length : Int) + 1)) (l0.length : Int)).bind fun t287 => (spinetlaw13_TypesOpen.j2 kj19 ((rd_T40 l0 a1).f0) y275 (!t287) true (wrap64 ((l0.length : Int) + 1)) false (wrap64 ((l0.length : Int) + 1)))))) else (spinetlaw13_TypesOpen.j2 kj19 ((rd_T40 l0 a1).f0) y275 true true (wrap64 ((l0.length : Int) + 1)) false (wrap64 ((l0.length : Int) + 1))))) = some r := by rw [if_pos rfl] at H; exact H
             clear H
             have H := H1
             clear H1
             replace H := Option.bind_eq_some_iff.mp H
             obtain ⟨t285, A450, H⟩ := H
             replace H : (if t285 = true then ((types_Assign.f kj19 y275 (l0.length : Int) (wrap64 ((l0.length : Int) + 1))).bind fun t286 => (if t286 = true then (spinetlaw13_TypesOpen.j2 kj19 ((rd_T40 l0 a1).f0) y275 true true (wrap64 ((l0.length : Int) + 1)) false (wrap64 ((l0.length : Int) + 1))) else ((types_Assign.f kj19 y275 (wrap64 ((l0.length : Int) + 1)) (l0.length : Int)).bind fun t287 => (spinetlaw13_TypesOpen.j2 kj19 ((rd_T40 l0 a1).f0) y275 (!t287) true (wrap64 ((l0.length : Int) + 1)) false (wrap64 ((l0.length : Int) + 1)))))) else (spinetlaw13_TypesOpen.j2 kj19 ((rd_T40 l0 a1).f0) y275 true true (wrap64 ((l0.length : Int) + 1)) false (wrap64 ((l0.length : Int) + 1)))) = some r := H
             have A45 := Aside0.mk A450
             clear A450
             by_cases c46 : t285 = true
             ·
              subst c46
              have H1 : ((types_Assign.f kj19 y275 (l0.length : Int) (wrap64 ((l0.length : Int) + 1))).bind fun t286 => (if t286 = true then (spinetlaw13_TypesOpen.j2 kj19 ((rd_T40 l0 a1).f0) y275 true true (wrap64 ((l0.length : Int) + 1)) false (wrap64 ((l0.length : Int) + 1))) else ((types_Assign.f kj19 y275 (wrap64 ((l0.length : Int) + 1)) (l0.length : Int)).bind fun t287 => (spinetlaw13_TypesOpen.j2 kj19 ((rd_T40 l0 a1).f0) y275 (!t287) true (wrap64 ((l0.length : Int) + 1)) false (wrap64 ((l0.length : Int) + 1)))))) = some r := by rw [if_pos rfl] at H; exact H
              clear H
              have H := H1
              clear H1
              replace H := Option.bind_eq_some_iff.mp H
              obtain ⟨t286, A470, H⟩ := H
              replace H : (if t286 = true then (spinetlaw13_TypesOpen.j2 kj19 ((rd_T40 l0 a1).f0) y275 true true (wrap64 ((l0.length : Int) + 1)) false (wrap64 ((l0.length : Int) + 1))) else ((types_Assign.f kj19 y275 (wrap64 ((l0.length : Int) + 1)) (l0.length : Int)).bind fun t287 => (spinetlaw13_TypesOpen.j2 kj19 ((rd_T40 l0 a1).f0) y275 (!t287) true (wrap64 ((l0.length : Int) + 1)) false (wrap64 ((l0.length : Int) + 1))))) = some r := H
              have A47 := Aside0.mk A470
              clear A470
              by_cases c48 : t286 = true
              ·
               subst c48
               have H1 : (spinetlaw13_TypesOpen.j2 kj19 ((rd_T40 l0 a1).f0) y275 true true (wrap64 ((l0.length : Int) + 1)) false (wrap64 ((l0.length : Int) + 1))) = some r := by rw [if_pos rfl] at H; exact H
               clear H
               have H := H1
               clear H1
               have H' := Aside0.mk H
               clear H
               obtain ⟨Ao49, co49, eo49⟩ := Kd.N_slice HO277.out
               subst eo49
               go_wp2_with (first | ((with_reducible refine gate_callee (f := 14) rfl ?_); refine goesL_ (some 81) rfl rfl Try.func14 (by kernel_rfl) rfl #[.slice Ao49 y275.length co49] rfl (by (try simp only [List.map_toArray, List.map_cons, List.map_nil]); first | done | rfl | (simp only [List.length_drop, List.length_take]; rfl)) ?_; (with_reducible refine (spinetref13_Copy.calls _ _ y275 t280 _ ?side1 ?side2 A40.out).mono ?_); (case side1 => refine (Kd.N_reads' (e := 40) (base := w.heap.size) (ok := fun k_ => ((True ∧ k_ ≠ gb278) ∧ k_ ≠ gb279)) (n := y275.length) (c := co49) ?_).2.2; exact (by (with_reducible repeat (first | apply Kd.N_alloc | apply Kd.N_drewN | apply Kd.N_drew)); exact (Kd.N_mono (Kd.N_mono (Kd.N_far (p := ⟨gb279, 1, none⟩) (Kd.N_far (p := ⟨gb279, 0, none⟩) (Kd.N_far (p := ⟨gb278, 1, none⟩) (Kd.N_far (p := ⟨gb278, 0, none⟩) (Kd.N_mono (Kd.N_mono HO277.out (fun k_ hk => (⟨hk, hk.1.2⟩ : _ ∧ k_ ≠ gb278))) (fun k_ hk => (⟨hk, hk.1.2⟩ : _ ∧ k_ ≠ gb279))) (fun _ hk => hk.1.2) (.bool true)) (fun _ hk => hk.1.2) (.int .i64 (wrap64 ((l0.length : Int) + 1)))) (fun _ hk => hk.2) (.bool false)) (fun _ hk => hk.2) (.int .i64 (wrap64 ((l0.length : Int) + 1)))) (fun _ h_ => h_.1)) (fun _ h_ => h_.1)))); (case side2 => exact (Kd.N_reads' HO277.out).2.1); rintro e w50 ⟨v281, rfl, ho0, hb⟩; refine ⟨_, rfl, ?_⟩; have n0_ := Aside0.mk (Kd.N_elder' (by (with_reducible repeat (first | apply Kd.N_alloc | apply Kd.N_drewN | apply Kd.N_drew)); exact (Kd.N_mono (Kd.N_mono (Kd.N_far (p := ⟨gb279, 1, none⟩) (Kd.N_far (p := ⟨gb279, 0, none⟩) (Kd.N_far (p := ⟨gb278, 1, none⟩) (Kd.N_far (p := ⟨gb278, 0, none⟩) (Kd.N_mono (Kd.N_mono HO274.out (fun k_ hk => (⟨hk, hk.1.2⟩ : _ ∧ k_ ≠ gb278))) (fun k_ hk => (⟨hk, hk.1.2⟩ : _ ∧ k_ ≠ gb279))) (fun _ hk => hk.1.2) (.bool true)) (fun _ hk => hk.1.2) (.int .i64 (wrap64 ((l0.length : Int) + 1)))) (fun _ hk => hk.2) (.bool false)) (fun _ hk => hk.2) (.int .i64 (wrap64 ((l0.length : Int) + 1)))) (fun _ h_ => h_.1)) (fun _ h_ => h_.1))) (Kd.N_base (Kd.S_N ho0)) hb); have n1_ := Aside0.mk (Kd.N_elder' (by (with_reducible repeat (first | apply Kd.N_alloc | apply Kd.N_drewN | apply Kd.N_drew)); exact (Kd.N_mono (Kd.N_mono (Kd.N_far (p := ⟨gb279, 1, none⟩) (Kd.N_far (p := ⟨gb279, 0, none⟩) (Kd.N_far (p := ⟨gb278, 1, none⟩) (Kd.N_far (p := ⟨gb278, 0, none⟩) (Kd.N_mono (Kd.N_mono HO277.out (fun k_ hk => (⟨hk, hk.1.2⟩ : _ ∧ k_ ≠ gb278))) (fun k_ hk => (⟨hk, hk.1.2⟩ : _ ∧ k_ ≠ gb279))) (fun _ hk => hk.1.2) (.bool true)) (fun _ hk => hk.1.2) (.int .i64 (wrap64 ((l0.length : Int) + 1)))) (fun _ hk => hk.2) (.bool false)) (fun _ hk => hk.2) (.int .i64 (wrap64 ((l0.length : Int) + 1)))) (fun _ h_ => h_.1)) (fun _ h_ => h_.1))) (Kd.N_base (Kd.S_N ho0)) hb); have n2_ := Aside0.mk (Kd.N_lower (Kd.N_mono (ok' := fun k_ => some k_ ≠ (.slice Ao34 y272.length co34 : Value).ownBlock ∧ some k_ ≠ (.slice Ao49 y275.length co49 : Value).ownBlock ∧ k_ ≠ gb278 ∧ k_ ≠ gb279) (Kd.S_N (Kd.S_bound ho0)) (fun k_ hk_ => ⟨(Kd.fresh' (Kd.N_lt (by (with_reducible repeat (first | apply Kd.N_alloc | apply Kd.N_drewN | apply Kd.N_drew)); exact (Kd.N_mono (Kd.N_mono (Kd.N_far (p := ⟨gb279, 1, none⟩) (Kd.N_far (p := ⟨gb279, 0, none⟩) (Kd.N_far (p := ⟨gb278, 1, none⟩) (Kd.N_far (p := ⟨gb278, 0, none⟩) (Kd.N_mono (Kd.N_mono HO274.out (fun k_ hk => (⟨hk, hk.1.2⟩ : _ ∧ k_ ≠ gb278))) (fun k_ hk => (⟨hk, hk.1.2⟩ : _ ∧ k_ ≠ gb279))) (fun _ hk => hk.1.2) (.bool true)) (fun _ hk => hk.1.2) (.int .i64 (wrap64 ((l0.length : Int) + 1)))) (fun _ hk => hk.2) (.bool false)) (fun _ hk => hk.2) (.int .i64 (wrap64 ((l0.length : Int) + 1)))) (fun _ h_ => h_.1)) (fun _ h_ => h_.1)))) k_ hk_.2.1), (Kd.fresh' (Kd.N_lt (by (with_reducible repeat (first | apply Kd.N_alloc | apply Kd.N_drewN | apply Kd.N_drew)); exact (Kd.N_mono (Kd.N_mono (Kd.N_far (p := ⟨gb279, 1, none⟩) (Kd.N_far (p := ⟨gb279, 0, none⟩) (Kd.N_far (p := ⟨gb278, 1, none⟩) (Kd.N_far (p := ⟨gb278, 0, none⟩) (Kd.N_mono (Kd.N_mono HO277.out (fun k_ hk => (⟨hk, hk.1.2⟩ : _ ∧ k_ ≠ gb278))) (fun k_ hk => (⟨hk, hk.1.2⟩ : _ ∧ k_ ≠ gb279))) (fun _ hk => hk.1.2) (.bool true)) (fun _ hk => hk.1.2) (.int .i64 (wrap64 ((l0.length : Int) + 1)))) (fun _ hk => hk.2) (.bool false)) (fun _ hk => hk.2) (.int .i64 (wrap64 ((l0.length : Int) + 1)))) (fun _ h_ => h_.1)) (fun _ h_ => h_.1)))) k_ hk_.2.1), (Kd.freshB (g := gb278) (o := .cells #[.bool true, .int .i64 (wrap64 ((l0.length : Int) + 1))] 47 (0, 0)) (by (with_reducible repeat (first | refine blk_drewN ?_ _ | refine blk_drew ?_ | refine blk_alloc ?_ _)); refine blk_far ?_ NB278_279.out _; (with_reducible repeat (first | refine blk_drewN ?_ _ | refine blk_drew ?_ | refine blk_alloc ?_ _)); refine blk_far ?_ NB278_279.out _; (with_reducible repeat (first | refine blk_drewN ?_ _ | refine blk_drew ?_ | refine blk_alloc ?_ _)); refine blk_put (cs := #[.bool true, .int .i64 0]) ?_ 1 _ rfl; (with_reducible repeat (first | refine blk_drewN ?_ _ | refine blk_drew ?_ | refine blk_alloc ?_ _)); refine blk_put (cs := #[.bool false, .int .i64 0]) ?_ 0 _ rfl; (with_reducible repeat (first | refine blk_drewN ?_ _ | refine blk_drew ?_ | refine blk_alloc ?_ _)); exact BK278.out) k_ hk_.2.1), (Kd.freshB (g := gb279) (o := .cells #[.bool false, .int .i64 (wrap64 ((l0.length : Int) + 1))] 47 (0, 0)) (by (with_reducible repeat (first | refine blk_drewN ?_ _ | refine blk_drew ?_ | refine blk_alloc ?_ _)); refine blk_put (cs := #[.bool false, .int .i64 0]) ?_ 1 _ rfl; (with_reducible repeat (first | refine blk_drewN ?_ _ | refine blk_drew ?_ | refine blk_alloc ?_ _)); refine blk_put (cs := #[.bool false, .int .i64 0]) ?_ 0 _ rfl; (with_reducible repeat (first | refine blk_drewN ?_ _ | refine blk_drew ?_ | refine blk_alloc ?_ _)); refine blk_far ?_ NB279_278.out _; (with_reducible repeat (first | refine blk_drewN ?_ _ | refine blk_drew ?_ | refine blk_alloc ?_ _)); refine blk_far ?_ NB279_278.out _; (with_reducible repeat (first | refine blk_drewN ?_ _ | refine blk_drew ?_ | refine blk_alloc ?_ _)); exact BK279.out) k_ hk_.2.1)⟩)) (below_size (by repeat (first | (with_reducible first | exact HB.out | apply below_alloc | apply pw_below_drewN | apply below_drew1 | refine below_set ?_ GE278.out | refine below_set ?_ GE279.out) | exact HB.out)))); have n3_ := Aside0.mk (blk_below (g := gb278) (o := .cells #[.bool true, .int .i64 (wrap64 ((l0.length : Int) + 1))] 47 (0, 0)) (by (with_reducible repeat (first | refine blk_drewN ?_ _ | refine blk_drew ?_ | refine blk_alloc ?_ _)); refine blk_far ?_ NB278_279.out _; (with_reducible repeat (first | refine blk_drewN ?_ _ | refine blk_drew ?_ | refine blk_alloc ?_ _)); refine blk_far ?_ NB278_279.out _; (with_reducible repeat (first | refine blk_drewN ?_ _ | refine blk_drew ?_ | refine blk_alloc ?_ _)); refine blk_put (cs := #[.bool true, .int .i64 0]) ?_ 1 _ rfl; (with_reducible repeat (first | refine blk_drewN ?_ _ | refine blk_drew ?_ | refine blk_alloc ?_ _)); refine blk_put (cs := #[.bool false, .int .i64 0]) ?_ 0 _ rfl; (with_reducible repeat (first | refine blk_drewN ?_ _ | refine blk_drew ?_ | refine blk_alloc ?_ _)); exact BK278.out) hb); have n4_ := Aside0.mk (blk_below (g := gb279) (o := .cells #[.bool false, .int .i64 (wrap64 ((l0.length : Int) + 1))] 47 (0, 0)) (by (with_reducible repeat (first | refine blk_drewN ?_ _ | refine blk_drew ?_ | refine blk_alloc ?_ _)); refine blk_put (cs := #[.bool false, .int .i64 0]) ?_ 1 _ rfl; (with_reducible repeat (first | refine blk_drewN ?_ _ | refine blk_drew ?_ | refine blk_alloc ?_ _)); refine blk_put (cs := #[.bool false, .int .i64 0]) ?_ 0 _ rfl; (with_reducible repeat (first | refine blk_drewN ?_ _ | refine blk_drew ?_ | refine blk_alloc ?_ _)); refine blk_far ?_ NB279_278.out _; (with_reducible repeat (first | refine blk_drewN ?_ _ | refine blk_drew ?_ | refine blk_alloc ?_ _)); refine blk_far ?_ NB279_278.out _; (with_reducible repeat (first | refine blk_drewN ?_ _ | refine blk_drew ?_ | refine blk_alloc ?_ _)); exact BK279.out) hb); have n5_ := Aside0.mk (below_step (by repeat (first | (with_reducible first | exact HB.out | apply below_alloc | apply pw_below_drewN | apply below_drew1 | refine below_set ?_ GE278.out | refine below_set ?_ GE279.out) | exact HB.out)) hb); clear HO274; clear HO277; clear BK278; clear BK279; clear HB; have HO274 := n0_; have HO277 := n1_; have HO282 := n2_; have BK278 := n3_; have BK279 := n4_; have HB := n5_; clear n0_ n1_ n2_ n3_ n4_ n5_; (try clear hb); (try clear hb2); (try clear hk); (try clear hi); (try clear ho0); obtain ⟨Ao51, co51, eo51⟩ := Kd.N_slice HO282.out; subst eo51) | ((with_reducible refine gate_callee (f := 25) rfl ?_); refine goesL_ (some 82) rfl rfl Try.func25 (by kernel_rfl) rfl #[.slice Ao51 t280.length co51] rfl (by (try simp only [List.map_toArray, List.map_cons, List.map_nil]); first | done | rfl | (simp only [List.length_drop, List.length_take]; rfl)) ?_; (with_reducible refine (types_Good.calls _ _ t280 true _ ?side1 ?side2 A41.out).mono ?_); (case side1 => repeat (first | exact (Kd.N_reads' HO282.out).2.2 | (with_reducible refine Kd.C_alloc ?_ _) | (with_reducible refine Kd.C_drewN ?_ _) | (with_reducible refine Kd.C_drew ?_))); (case side2 => exact (Kd.N_reads' HO282.out).2.1); rintro e w52 ⟨rfl, hb⟩; refine ⟨_, rfl, ?_⟩; have n0_ := Aside0.mk (Kd.N_below (by (with_reducible repeat (first | apply Kd.N_alloc | apply Kd.N_drewN | apply Kd.N_drew)); exact HO274.out) hb); have n1_ := Aside0.mk (Kd.N_below (by (with_reducible repeat (first | apply Kd.N_alloc | apply Kd.N_drewN | apply Kd.N_drew)); exact HO277.out) hb); have n2_ := Aside0.mk (Kd.N_below (by (with_reducible repeat (first | apply Kd.N_alloc | apply Kd.N_drewN | apply Kd.N_drew)); exact HO282.out) hb); have n3_ := Aside0.mk (blk_below (g := gb278) (o := .cells #[.bool true, .int .i64 (wrap64 ((l0.length : Int) + 1))] 47 (0, 0)) (by (with_reducible repeat (first | refine blk_drewN ?_ _ | refine blk_drew ?_ | refine blk_alloc ?_ _)); exact BK278.out) hb); have n4_ := Aside0.mk (blk_below (g := gb279) (o := .cells #[.bool false, .int .i64 (wrap64 ((l0.length : Int) + 1))] 47 (0, 0)) (by (with_reducible repeat (first | refine blk_drewN ?_ _ | refine blk_drew ?_ | refine blk_alloc ?_ _)); exact BK279.out) hb); have n5_ := Aside0.mk (below_step (by repeat (first | (with_reducible first | exact HB.out | apply below_alloc | apply pw_below_drewN | apply below_drew1 | refine below_set ?_ GE278.out | refine below_set ?_ GE279.out) | exact HB.out)) hb); clear HO274; clear HO277; clear HO282; clear BK278; clear BK279; clear HB; have HO274 := n0_; have HO277 := n1_; have HO282 := n2_; have BK278 := n3_; have BK279 := n4_; have HB := n5_; clear n0_ n1_ n2_ n3_ n4_ n5_; (try clear hb); (try clear hb2); (try clear hk); (try clear hi); have hnb53 := NB278_279.out; have hnc53 := NB279_278.out; have hcz54_0 : w52.cell? ⟨gb278, 0, none⟩ = some (.bool true) := (blk_cell BK278.out 0).trans rfl; have hcz54_1 : w52.cell? ⟨gb278, 1, none⟩ = some (.int .i64 (wrap64 ((l0.length : Int) + 1))) := (blk_cell BK278.out 1).trans rfl; have hfz54_0 := blk_frozen BK278.out 0; have hfz54_1 := blk_frozen BK278.out 1) | (go_at_call 32; (with_reducible refine (types_Fits.calls kj19 _ _ y275 (l0.length : Int) true (wrap64 ((l0.length : Int) + 1)) true _ ?side1 ?side2 A43.out).mono ?_); (case side1 => repeat (first | exact (Kd.N_reads' HO277.out).2.2 | (with_reducible refine Kd.C_alloc ?_ _) | (with_reducible refine Kd.C_drewN ?_ _) | (with_reducible refine Kd.C_drew ?_))); (case side2 => exact (Kd.N_reads' HO277.out).2.1); rintro e w55 ⟨rfl, hb⟩; have n0_ := Aside0.mk (Kd.N_below (by (with_reducible repeat (first | apply Kd.N_alloc | apply Kd.N_drewN | apply Kd.N_drew)); exact HO274.out) hb); have n1_ := Aside0.mk (Kd.N_below (by (with_reducible repeat (first | apply Kd.N_alloc | apply Kd.N_drewN | apply Kd.N_drew)); exact HO277.out) hb); have n2_ := Aside0.mk (Kd.N_below (by (with_reducible repeat (first | apply Kd.N_alloc | apply Kd.N_drewN | apply Kd.N_drew)); exact HO282.out) hb); have n3_ := Aside0.mk (blk_below (g := gb278) (o := .cells #[.bool true, .int .i64 (wrap64 ((l0.length : Int) + 1))] 47 (0, 0)) (by (with_reducible repeat (first | refine blk_drewN ?_ _ | refine blk_drew ?_ | refine blk_alloc ?_ _)); exact BK278.out) hb); have n4_ := Aside0.mk (blk_below (g := gb279) (o := .cells #[.bool false, .int .i64 (wrap64 ((l0.length : Int) + 1))] 47 (0, 0)) (by (with_reducible repeat (first | refine blk_drewN ?_ _ | refine blk_drew ?_ | refine blk_alloc ?_ _)); exact BK279.out) hb); have n5_ := Aside0.mk (below_step (by repeat (first | (with_reducible first | exact HB.out | apply below_alloc | apply pw_below_drewN | apply below_drew1 | refine below_set ?_ GE278.out | refine below_set ?_ GE279.out) | exact HB.out)) hb); clear HO274; clear HO277; clear HO282; clear BK278; clear BK279; clear HB; have HO274 := n0_; have HO277 := n1_; have HO282 := n2_; have BK278 := n3_; have BK279 := n4_; have HB := n5_; clear n0_ n1_ n2_ n3_ n4_ n5_; (try clear hb); (try clear hb2); (try clear hk); (try clear hi); have hcz56_0 : w55.cell? ⟨gb279, 0, none⟩ = some (.bool false) := (blk_cell BK279.out 0).trans rfl; have hcz56_1 : w55.cell? ⟨gb279, 1, none⟩ = some (.int .i64 (wrap64 ((l0.length : Int) + 1))) := (blk_cell BK279.out 1).trans rfl; have hfz56_0 := blk_frozen BK279.out 0; have hfz56_1 := blk_frozen BK279.out 1) | (go_at_call 32; (with_reducible refine (types_Fits.calls kj19 _ _ y275 (l0.length : Int) false (wrap64 ((l0.length : Int) + 1)) true _ ?side1 ?side2 A45.out).mono ?_); (case side1 => repeat (first | exact (Kd.N_reads' HO277.out).2.2 | (with_reducible refine Kd.C_alloc ?_ _) | (with_reducible refine Kd.C_drewN ?_ _) | (with_reducible refine Kd.C_drew ?_))); (case side2 => exact (Kd.N_reads' HO277.out).2.1); rintro e w57 ⟨rfl, hb⟩; have n0_ := Aside0.mk (Kd.N_below (by (with_reducible repeat (first | apply Kd.N_alloc | apply Kd.N_drewN | apply Kd.N_drew)); exact HO274.out) hb); have n1_ := Aside0.mk (Kd.N_below (by (with_reducible repeat (first | apply Kd.N_alloc | apply Kd.N_drewN | apply Kd.N_drew)); exact HO277.out) hb); have n2_ := Aside0.mk (Kd.N_below (by (with_reducible repeat (first | apply Kd.N_alloc | apply Kd.N_drewN | apply Kd.N_drew)); exact HO282.out) hb); have n3_ := Aside0.mk (blk_below (g := gb278) (o := .cells #[.bool true, .int .i64 (wrap64 ((l0.length : Int) + 1))] 47 (0, 0)) (by (with_reducible repeat (first | refine blk_drewN ?_ _ | refine blk_drew ?_ | refine blk_alloc ?_ _)); exact BK278.out) hb); have n4_ := Aside0.mk (blk_below (g := gb279) (o := .cells #[.bool false, .int .i64 (wrap64 ((l0.length : Int) + 1))] 47 (0, 0)) (by (with_reducible repeat (first | refine blk_drewN ?_ _ | refine blk_drew ?_ | refine blk_alloc ?_ _)); exact BK279.out) hb); have n5_ := Aside0.mk (below_step (by repeat (first | (with_reducible first | exact HB.out | apply below_alloc | apply pw_below_drewN | apply below_drew1 | refine below_set ?_ GE278.out | refine below_set ?_ GE279.out) | exact HB.out)) hb); clear HO274; clear HO277; clear HO282; clear BK278; clear BK279; clear HB; have HO274 := n0_; have HO277 := n1_; have HO282 := n2_; have BK278 := n3_; have BK279 := n4_; have HB := n5_; clear n0_ n1_ n2_ n3_ n4_ n5_; (try clear hb); (try clear hb2); (try clear hk); (try clear hi)) | (go_at_call 30; (with_reducible refine (types_Assign.calls kj19 _ _ y275 (l0.length : Int) (wrap64 ((l0.length : Int) + 1)) true _ ?side1 ?side2 A47.out).mono ?_); (case side1 => repeat (first | exact (Kd.N_reads' HO277.out).2.2 | (with_reducible refine Kd.C_alloc ?_ _) | (with_reducible refine Kd.C_drewN ?_ _) | (with_reducible refine Kd.C_drew ?_))); (case side2 => exact (Kd.N_reads' HO277.out).2.1); rintro e w58 ⟨rfl, hb⟩; have n0_ := Aside0.mk (Kd.N_below (by (with_reducible repeat (first | apply Kd.N_alloc | apply Kd.N_drewN | apply Kd.N_drew)); exact HO274.out) hb); have n1_ := Aside0.mk (Kd.N_below (by (with_reducible repeat (first | apply Kd.N_alloc | apply Kd.N_drewN | apply Kd.N_drew)); exact HO277.out) hb); have n2_ := Aside0.mk (Kd.N_below (by (with_reducible repeat (first | apply Kd.N_alloc | apply Kd.N_drewN | apply Kd.N_drew)); exact HO282.out) hb); have n3_ := Aside0.mk (blk_below (g := gb278) (o := .cells #[.bool true, .int .i64 (wrap64 ((l0.length : Int) + 1))] 47 (0, 0)) (by (with_reducible repeat (first | refine blk_drewN ?_ _ | refine blk_drew ?_ | refine blk_alloc ?_ _)); exact BK278.out) hb); have n4_ := Aside0.mk (blk_below (g := gb279) (o := .cells #[.bool false, .int .i64 (wrap64 ((l0.length : Int) + 1))] 47 (0, 0)) (by (with_reducible repeat (first | refine blk_drewN ?_ _ | refine blk_drew ?_ | refine blk_alloc ?_ _)); exact BK279.out) hb); have n5_ := Aside0.mk (below_step (by repeat (first | (with_reducible first | exact HB.out | apply below_alloc | apply pw_below_drewN | apply below_drew1 | refine below_set ?_ GE278.out | refine below_set ?_ GE279.out) | exact HB.out)) hb); clear HO274; clear HO277; clear HO282; clear BK278; clear BK279; clear HB; have HO274 := n0_; have HO277 := n1_; have HO282 := n2_; have BK278 := n3_; have BK279 := n4_; have HB := n5_; clear n0_ n1_ n2_ n3_ n4_ n5_; (try clear hb); (try clear hb2); (try clear hk); (try clear hi)))
               go_meet
               case rel => exact ⟨_, (true), (by first | rfl | (simp; done) | (simp [*]; done)), H', ⟨by have := HJ3.out; have := HJ19.out; first | omega | exact Nat.le_refl _⟩, ⟨by (with_reducible repeat (first | apply Kd.N_alloc | apply Kd.N_drewN | apply Kd.N_drew)); exact Kd.N_mono HO277.out (fun _ hk => ⟨hk.1.1.2, hk.1.2⟩)⟩, ⟨by (with_reducible repeat (first | refine blk_drewN ?_ _ | refine blk_drew ?_ | refine blk_alloc ?_ _)); exact BK278.out⟩, ⟨by (with_reducible repeat (first | refine blk_drewN ?_ _ | refine blk_drew ?_ | refine blk_alloc ?_ _)); exact BK279.out⟩, ⟨by repeat (first | (with_reducible first | exact HB.out | apply below_alloc | apply pw_below_drewN | apply below_drew1 | refine below_set ?_ GE278.out | refine below_set ?_ GE279.out) | exact HB.out)⟩⟩
              ·
               replace c48 := Bool.eq_false_iff.mpr c48
               subst c48
               have H1 : ((types_Assign.f kj19 y275 (wrap64 ((l0.length : Int) + 1)) (l0.length : Int)).bind fun t287 => (spinetlaw13_TypesOpen.j2 kj19 ((rd_T40 l0 a1).f0) y275 (!t287) true (wrap64 ((l0.length : Int) + 1)) false (wrap64 ((l0.length : Int) + 1)))) = some r := by rw [if_neg (show ¬ (false = true) by decide)] at H; exact H
               clear H
               have H := H1
               clear H1
               replace H := Option.bind_eq_some_iff.mp H
               obtain ⟨t287, A590, H⟩ := H
               replace H : (spinetlaw13_TypesOpen.j2 kj19 ((rd_T40 l0 a1).f0) y275 (!t287) true (wrap64 ((l0.length : Int) + 1)) false (wrap64 ((l0.length : Int) + 1))) = some r := H
               have A59 := Aside0.mk A590
               clear A590
               have H' := Aside0.mk H
               clear H
               obtain ⟨Ao60, co60, eo60⟩ := Kd.N_slice HO277.out
               subst eo60
               go_wp2_with (first | ((with_reducible refine gate_callee (f := 14) rfl ?_); refine goesL_ (some 81) rfl rfl Try.func14 (by kernel_rfl) rfl #[.slice Ao60 y275.length co60] rfl (by (try simp only [List.map_toArray, List.map_cons, List.map_nil]); first | done | rfl | (simp only [List.length_drop, List.length_take]; rfl)) ?_; (with_reducible refine (spinetref13_Copy.calls _ _ y275 t280 _ ?side1 ?side2 A40.out).mono ?_); (case side1 => refine (Kd.N_reads' (e := 40) (base := w.heap.size) (ok := fun k_ => ((True ∧ k_ ≠ gb278) ∧ k_ ≠ gb279)) (n := y275.length) (c := co60) ?_).2.2; exact (by (with_reducible repeat (first | apply Kd.N_alloc | apply Kd.N_drewN | apply Kd.N_drew)); exact (Kd.N_mono (Kd.N_mono (Kd.N_far (p := ⟨gb279, 1, none⟩) (Kd.N_far (p := ⟨gb279, 0, none⟩) (Kd.N_far (p := ⟨gb278, 1, none⟩) (Kd.N_far (p := ⟨gb278, 0, none⟩) (Kd.N_mono (Kd.N_mono HO277.out (fun k_ hk => (⟨hk, hk.1.2⟩ : _ ∧ k_ ≠ gb278))) (fun k_ hk => (⟨hk, hk.1.2⟩ : _ ∧ k_ ≠ gb279))) (fun _ hk => hk.1.2) (.bool true)) (fun _ hk => hk.1.2) (.int .i64 (wrap64 ((l0.length : Int) + 1)))) (fun _ hk => hk.2) (.bool false)) (fun _ hk => hk.2) (.int .i64 (wrap64 ((l0.length : Int) + 1)))) (fun _ h_ => h_.1)) (fun _ h_ => h_.1)))); (case side2 => exact (Kd.N_reads' HO277.out).2.1); rintro e w61 ⟨v281, rfl, ho0, hb⟩; refine ⟨_, rfl, ?_⟩; have n0_ := Aside0.mk (Kd.N_elder' (by (with_reducible repeat (first | apply Kd.N_alloc | apply Kd.N_drewN | apply Kd.N_drew)); exact (Kd.N_mono (Kd.N_mono (Kd.N_far (p := ⟨gb279, 1, none⟩) (Kd.N_far (p := ⟨gb279, 0, none⟩) (Kd.N_far (p := ⟨gb278, 1, none⟩) (Kd.N_far (p := ⟨gb278, 0, none⟩) (Kd.N_mono (Kd.N_mono HO274.out (fun k_ hk => (⟨hk, hk.1.2⟩ : _ ∧ k_ ≠ gb278))) (fun k_ hk => (⟨hk, hk.1.2⟩ : _ ∧ k_ ≠ gb279))) (fun _ hk => hk.1.2) (.bool true)) (fun _ hk => hk.1.2) (.int .i64 (wrap64 ((l0.length : Int) + 1)))) (fun _ hk => hk.2) (.bool false)) (fun _ hk => hk.2) (.int .i64 (wrap64 ((l0.length : Int) + 1)))) (fun _ h_ => h_.1)) (fun _ h_ => h_.1))) (Kd.N_base (Kd.S_N ho0)) hb); have n1_ := Aside0.mk (Kd.N_elder' (by (with_reducible repeat (first | apply Kd.N_alloc | apply Kd.N_drewN | apply Kd.N_drew)); exact (Kd.N_mono (Kd.N_mono (Kd.N_far (p := ⟨gb279, 1, none⟩) (Kd.N_far (p := ⟨gb279, 0, none⟩) (Kd.N_far (p := ⟨gb278, 1, none⟩) (Kd.N_far (p := ⟨gb278, 0, none⟩) (Kd.N_mono (Kd.N_mono HO277.out (fun k_ hk => (⟨hk, hk.1.2⟩ : _ ∧ k_ ≠ gb278))) (fun k_ hk => (⟨hk, hk.1.2⟩ : _ ∧ k_ ≠ gb279))) (fun _ hk => hk.1.2) (.bool true)) (fun _ hk => hk.1.2) (.int .i64 (wrap64 ((l0.length : Int) + 1)))) (fun _ hk => hk.2) (.bool false)) (fun _ hk => hk.2) (.int .i64 (wrap64 ((l0.length : Int) + 1)))) (fun _ h_ => h_.1)) (fun _ h_ => h_.1))) (Kd.N_base (Kd.S_N ho0)) hb); have n2_ := Aside0.mk (Kd.N_lower (Kd.N_mono (ok' := fun k_ => some k_ ≠ (.slice Ao34 y272.length co34 : Value).ownBlock ∧ some k_ ≠ (.slice Ao60 y275.length co60 : Value).ownBlock ∧ k_ ≠ gb278 ∧ k_ ≠ gb279) (Kd.S_N (Kd.S_bound ho0)) (fun k_ hk_ => ⟨(Kd.fresh' (Kd.N_lt (by (with_reducible repeat (first | apply Kd.N_alloc | apply Kd.N_drewN | apply Kd.N_drew)); exact (Kd.N_mono (Kd.N_mono (Kd.N_far (p := ⟨gb279, 1, none⟩) (Kd.N_far (p := ⟨gb279, 0, none⟩) (Kd.N_far (p := ⟨gb278, 1, none⟩) (Kd.N_far (p := ⟨gb278, 0, none⟩) (Kd.N_mono (Kd.N_mono HO274.out (fun k_ hk => (⟨hk, hk.1.2⟩ : _ ∧ k_ ≠ gb278))) (fun k_ hk => (⟨hk, hk.1.2⟩ : _ ∧ k_ ≠ gb279))) (fun _ hk => hk.1.2) (.bool true)) (fun _ hk => hk.1.2) (.int .i64 (wrap64 ((l0.length : Int) + 1)))) (fun _ hk => hk.2) (.bool false)) (fun _ hk => hk.2) (.int .i64 (wrap64 ((l0.length : Int) + 1)))) (fun _ h_ => h_.1)) (fun _ h_ => h_.1)))) k_ hk_.2.1), (Kd.fresh' (Kd.N_lt (by (with_reducible repeat (first | apply Kd.N_alloc | apply Kd.N_drewN | apply Kd.N_drew)); exact (Kd.N_mono (Kd.N_mono (Kd.N_far (p := ⟨gb279, 1, none⟩) (Kd.N_far (p := ⟨gb279, 0, none⟩) (Kd.N_far (p := ⟨gb278, 1, none⟩) (Kd.N_far (p := ⟨gb278, 0, none⟩) (Kd.N_mono (Kd.N_mono HO277.out (fun k_ hk => (⟨hk, hk.1.2⟩ : _ ∧ k_ ≠ gb278))) (fun k_ hk => (⟨hk, hk.1.2⟩ : _ ∧ k_ ≠ gb279))) (fun _ hk => hk.1.2) (.bool true)) (fun _ hk => hk.1.2) (.int .i64 (wrap64 ((l0.length : Int) + 1)))) (fun _ hk => hk.2) (.bool false)) (fun _ hk => hk.2) (.int .i64 (wrap64 ((l0.length : Int) + 1)))) (fun _ h_ => h_.1)) (fun _ h_ => h_.1)))) k_ hk_.2.1), (Kd.freshB (g := gb278) (o := .cells #[.bool true, .int .i64 (wrap64 ((l0.length : Int) + 1))] 47 (0, 0)) (by (with_reducible repeat (first | refine blk_drewN ?_ _ | refine blk_drew ?_ | refine blk_alloc ?_ _)); refine blk_far ?_ NB278_279.out _; (with_reducible repeat (first | refine blk_drewN ?_ _ | refine blk_drew ?_ | refine blk_alloc ?_ _)); refine blk_far ?_ NB278_279.out _; (with_reducible repeat (first | refine blk_drewN ?_ _ | refine blk_drew ?_ | refine blk_alloc ?_ _)); refine blk_put (cs := #[.bool true, .int .i64 0]) ?_ 1 _ rfl; (with_reducible repeat (first | refine blk_drewN ?_ _ | refine blk_drew ?_ | refine blk_alloc ?_ _)); refine blk_put (cs := #[.bool false, .int .i64 0]) ?_ 0 _ rfl; (with_reducible repeat (first | refine blk_drewN ?_ _ | refine blk_drew ?_ | refine blk_alloc ?_ _)); exact BK278.out) k_ hk_.2.1), (Kd.freshB (g := gb279) (o := .cells #[.bool false, .int .i64 (wrap64 ((l0.length : Int) + 1))] 47 (0, 0)) (by (with_reducible repeat (first | refine blk_drewN ?_ _ | refine blk_drew ?_ | refine blk_alloc ?_ _)); refine blk_put (cs := #[.bool false, .int .i64 0]) ?_ 1 _ rfl; (with_reducible repeat (first | refine blk_drewN ?_ _ | refine blk_drew ?_ | refine blk_alloc ?_ _)); refine blk_put (cs := #[.bool false, .int .i64 0]) ?_ 0 _ rfl; (with_reducible repeat (first | refine blk_drewN ?_ _ | refine blk_drew ?_ | refine blk_alloc ?_ _)); refine blk_far ?_ NB279_278.out _; (with_reducible repeat (first | refine blk_drewN ?_ _ | refine blk_drew ?_ | refine blk_alloc ?_ _)); refine blk_far ?_ NB279_278.out _; (with_reducible repeat (first | refine blk_drewN ?_ _ | refine blk_drew ?_ | refine blk_alloc ?_ _)); exact BK279.out) k_ hk_.2.1)⟩)) (below_size (by repeat (first | (with_reducible first | exact HB.out | apply below_alloc | apply pw_below_drewN | apply below_drew1 | refine below_set ?_ GE278.out | refine below_set ?_ GE279.out) | exact HB.out)))); have n3_ := Aside0.mk (blk_below (g := gb278) (o := .cells #[.bool true, .int .i64 (wrap64 ((l0.length : Int) + 1))] 47 (0, 0)) (by (with_reducible repeat (first | refine blk_drewN ?_ _ | refine blk_drew ?_ | refine blk_alloc ?_ _)); refine blk_far ?_ NB278_279.out _; (with_reducible repeat (first | refine blk_drewN ?_ _ | refine blk_drew ?_ | refine blk_alloc ?_ _)); refine blk_far ?_ NB278_279.out _; (with_reducible repeat (first | refine blk_drewN ?_ _ | refine blk_drew ?_ | refine blk_alloc ?_ _)); refine blk_put (cs := #[.bool true, .int .i64 0]) ?_ 1 _ rfl; (with_reducible repeat (first | refine blk_drewN ?_ _ | refine blk_drew ?_ | refine blk_alloc ?_ _)); refine blk_put (cs := #[.bool false, .int .i64 0]) ?_ 0 _ rfl; (with_reducible repeat (first | refine blk_drewN ?_ _ | refine blk_drew ?_ | refine blk_alloc ?_ _)); exact BK278.out) hb); have n4_ := Aside0.mk (blk_below (g := gb279) (o := .cells #[.bool false, .int .i64 (wrap64 ((l0.length : Int) + 1))] 47 (0, 0)) (by (with_reducible repeat (first | refine blk_drewN ?_ _ | refine blk_drew ?_ | refine blk_alloc ?_ _)); refine blk_put (cs := #[.bool false, .int .i64 0]) ?_ 1 _ rfl; (with_reducible repeat (first | refine blk_drewN ?_ _ | refine blk_drew ?_ | refine blk_alloc ?_ _)); refine blk_put (cs := #[.bool false, .int .i64 0]) ?_ 0 _ rfl; (with_reducible repeat (first | refine blk_drewN ?_ _ | refine blk_drew ?_ | refine blk_alloc ?_ _)); refine blk_far ?_ NB279_278.out _; (with_reducible repeat (first | refine blk_drewN ?_ _ | refine blk_drew ?_ | refine blk_alloc ?_ _)); refine blk_far ?_ NB279_278.out _; (with_reducible repeat (first | refine blk_drewN ?_ _ | refine blk_drew ?_ | refine blk_alloc ?_ _)); exact BK279.out) hb); have n5_ := Aside0.mk (below_step (by repeat (first | (with_reducible first | exact HB.out | apply below_alloc | apply pw_below_drewN | apply below_drew1 | refine below_set ?_ GE278.out | refine below_set ?_ GE279.out) | exact HB.out)) hb); clear HO274; clear HO277; clear BK278; clear BK279; clear HB; have HO274 := n0_; have HO277 := n1_; have HO282 := n2_; have BK278 := n3_; have BK279 := n4_; have HB := n5_; clear n0_ n1_ n2_ n3_ n4_ n5_; (try clear hb); (try clear hb2); (try clear hk); (try clear hi); (try clear ho0); obtain ⟨Ao62, co62, eo62⟩ := Kd.N_slice HO282.out; subst eo62) | ((with_reducible refine gate_callee (f := 25) rfl ?_); refine goesL_ (some 82) rfl rfl Try.func25 (by kernel_rfl) rfl #[.slice Ao62 t280.length co62] rfl (by (try simp only [List.map_toArray, List.map_cons, List.map_nil]); first | done | rfl | (simp only [List.length_drop, List.length_take]; rfl)) ?_; (with_reducible refine (types_Good.calls _ _ t280 true _ ?side1 ?side2 A41.out).mono ?_); (case side1 => repeat (first | exact (Kd.N_reads' HO282.out).2.2 | (with_reducible refine Kd.C_alloc ?_ _) | (with_reducible refine Kd.C_drewN ?_ _) | (with_reducible refine Kd.C_drew ?_))); (case side2 => exact (Kd.N_reads' HO282.out).2.1); rintro e w63 ⟨rfl, hb⟩; refine ⟨_, rfl, ?_⟩; have n0_ := Aside0.mk (Kd.N_below (by (with_reducible repeat (first | apply Kd.N_alloc | apply Kd.N_drewN | apply Kd.N_drew)); exact HO274.out) hb); have n1_ := Aside0.mk (Kd.N_below (by (with_reducible repeat (first | apply Kd.N_alloc | apply Kd.N_drewN | apply Kd.N_drew)); exact HO277.out) hb); have n2_ := Aside0.mk (Kd.N_below (by (with_reducible repeat (first | apply Kd.N_alloc | apply Kd.N_drewN | apply Kd.N_drew)); exact HO282.out) hb); have n3_ := Aside0.mk (blk_below (g := gb278) (o := .cells #[.bool true, .int .i64 (wrap64 ((l0.length : Int) + 1))] 47 (0, 0)) (by (with_reducible repeat (first | refine blk_drewN ?_ _ | refine blk_drew ?_ | refine blk_alloc ?_ _)); exact BK278.out) hb); have n4_ := Aside0.mk (blk_below (g := gb279) (o := .cells #[.bool false, .int .i64 (wrap64 ((l0.length : Int) + 1))] 47 (0, 0)) (by (with_reducible repeat (first | refine blk_drewN ?_ _ | refine blk_drew ?_ | refine blk_alloc ?_ _)); exact BK279.out) hb); have n5_ := Aside0.mk (below_step (by repeat (first | (with_reducible first | exact HB.out | apply below_alloc | apply pw_below_drewN | apply below_drew1 | refine below_set ?_ GE278.out | refine below_set ?_ GE279.out) | exact HB.out)) hb); clear HO274; clear HO277; clear HO282; clear BK278; clear BK279; clear HB; have HO274 := n0_; have HO277 := n1_; have HO282 := n2_; have BK278 := n3_; have BK279 := n4_; have HB := n5_; clear n0_ n1_ n2_ n3_ n4_ n5_; (try clear hb); (try clear hb2); (try clear hk); (try clear hi); have hnb64 := NB278_279.out; have hnc64 := NB279_278.out; have hcz65_0 : w63.cell? ⟨gb278, 0, none⟩ = some (.bool true) := (blk_cell BK278.out 0).trans rfl; have hcz65_1 : w63.cell? ⟨gb278, 1, none⟩ = some (.int .i64 (wrap64 ((l0.length : Int) + 1))) := (blk_cell BK278.out 1).trans rfl; have hfz65_0 := blk_frozen BK278.out 0; have hfz65_1 := blk_frozen BK278.out 1) | (go_at_call 32; (with_reducible refine (types_Fits.calls kj19 _ _ y275 (l0.length : Int) true (wrap64 ((l0.length : Int) + 1)) true _ ?side1 ?side2 A43.out).mono ?_); (case side1 => repeat (first | exact (Kd.N_reads' HO277.out).2.2 | (with_reducible refine Kd.C_alloc ?_ _) | (with_reducible refine Kd.C_drewN ?_ _) | (with_reducible refine Kd.C_drew ?_))); (case side2 => exact (Kd.N_reads' HO277.out).2.1); rintro e w66 ⟨rfl, hb⟩; have n0_ := Aside0.mk (Kd.N_below (by (with_reducible repeat (first | apply Kd.N_alloc | apply Kd.N_drewN | apply Kd.N_drew)); exact HO274.out) hb); have n1_ := Aside0.mk (Kd.N_below (by (with_reducible repeat (first | apply Kd.N_alloc | apply Kd.N_drewN | apply Kd.N_drew)); exact HO277.out) hb); have n2_ := Aside0.mk (Kd.N_below (by (with_reducible repeat (first | apply Kd.N_alloc | apply Kd.N_drewN | apply Kd.N_drew)); exact HO282.out) hb); have n3_ := Aside0.mk (blk_below (g := gb278) (o := .cells #[.bool true, .int .i64 (wrap64 ((l0.length : Int) + 1))] 47 (0, 0)) (by (with_reducible repeat (first | refine blk_drewN ?_ _ | refine blk_drew ?_ | refine blk_alloc ?_ _)); exact BK278.out) hb); have n4_ := Aside0.mk (blk_below (g := gb279) (o := .cells #[.bool false, .int .i64 (wrap64 ((l0.length : Int) + 1))] 47 (0, 0)) (by (with_reducible repeat (first | refine blk_drewN ?_ _ | refine blk_drew ?_ | refine blk_alloc ?_ _)); exact BK279.out) hb); have n5_ := Aside0.mk (below_step (by repeat (first | (with_reducible first | exact HB.out | apply below_alloc | apply pw_below_drewN | apply below_drew1 | refine below_set ?_ GE278.out | refine below_set ?_ GE279.out) | exact HB.out)) hb); clear HO274; clear HO277; clear HO282; clear BK278; clear BK279; clear HB; have HO274 := n0_; have HO277 := n1_; have HO282 := n2_; have BK278 := n3_; have BK279 := n4_; have HB := n5_; clear n0_ n1_ n2_ n3_ n4_ n5_; (try clear hb); (try clear hb2); (try clear hk); (try clear hi); have hcz67_0 : w66.cell? ⟨gb279, 0, none⟩ = some (.bool false) := (blk_cell BK279.out 0).trans rfl; have hcz67_1 : w66.cell? ⟨gb279, 1, none⟩ = some (.int .i64 (wrap64 ((l0.length : Int) + 1))) := (blk_cell BK279.out 1).trans rfl; have hfz67_0 := blk_frozen BK279.out 0; have hfz67_1 := blk_frozen BK279.out 1) | (go_at_call 32; (with_reducible refine (types_Fits.calls kj19 _ _ y275 (l0.length : Int) false (wrap64 ((l0.length : Int) + 1)) true _ ?side1 ?side2 A45.out).mono ?_); (case side1 => repeat (first | exact (Kd.N_reads' HO277.out).2.2 | (with_reducible refine Kd.C_alloc ?_ _) | (with_reducible refine Kd.C_drewN ?_ _) | (with_reducible refine Kd.C_drew ?_))); (case side2 => exact (Kd.N_reads' HO277.out).2.1); rintro e w68 ⟨rfl, hb⟩; have n0_ := Aside0.mk (Kd.N_below (by (with_reducible repeat (first | apply Kd.N_alloc | apply Kd.N_drewN | apply Kd.N_drew)); exact HO274.out) hb); have n1_ := Aside0.mk (Kd.N_below (by (with_reducible repeat (first | apply Kd.N_alloc | apply Kd.N_drewN | apply Kd.N_drew)); exact HO277.out) hb); have n2_ := Aside0.mk (Kd.N_below (by (with_reducible repeat (first | apply Kd.N_alloc | apply Kd.N_drewN | apply Kd.N_drew)); exact HO282.out) hb); have n3_ := Aside0.mk (blk_below (g := gb278) (o := .cells #[.bool true, .int .i64 (wrap64 ((l0.length : Int) + 1))] 47 (0, 0)) (by (with_reducible repeat (first | refine blk_drewN ?_ _ | refine blk_drew ?_ | refine blk_alloc ?_ _)); exact BK278.out) hb); have n4_ := Aside0.mk (blk_below (g := gb279) (o := .cells #[.bool false, .int .i64 (wrap64 ((l0.length : Int) + 1))] 47 (0, 0)) (by (with_reducible repeat (first | refine blk_drewN ?_ _ | refine blk_drew ?_ | refine blk_alloc ?_ _)); exact BK279.out) hb); have n5_ := Aside0.mk (below_step (by repeat (first | (with_reducible first | exact HB.out | apply below_alloc | apply pw_below_drewN | apply below_drew1 | refine below_set ?_ GE278.out | refine below_set ?_ GE279.out) | exact HB.out)) hb); clear HO274; clear HO277; clear HO282; clear BK278; clear BK279; clear HB; have HO274 := n0_; have HO277 := n1_; have HO282 := n2_; have BK278 := n3_; have BK279 := n4_; have HB := n5_; clear n0_ n1_ n2_ n3_ n4_ n5_; (try clear hb); (try clear hb2); (try clear hk); (try clear hi)) | (go_at_call 30; (with_reducible refine (types_Assign.calls kj19 _ _ y275 (l0.length : Int) (wrap64 ((l0.length : Int) + 1)) false _ ?side1 ?side2 A47.out).mono ?_); (case side1 => repeat (first | exact (Kd.N_reads' HO277.out).2.2 | (with_reducible refine Kd.C_alloc ?_ _) | (with_reducible refine Kd.C_drewN ?_ _) | (with_reducible refine Kd.C_drew ?_))); (case side2 => exact (Kd.N_reads' HO277.out).2.1); rintro e w69 ⟨rfl, hb⟩; have n0_ := Aside0.mk (Kd.N_below (by (with_reducible repeat (first | apply Kd.N_alloc | apply Kd.N_drewN | apply Kd.N_drew)); exact HO274.out) hb); have n1_ := Aside0.mk (Kd.N_below (by (with_reducible repeat (first | apply Kd.N_alloc | apply Kd.N_drewN | apply Kd.N_drew)); exact HO277.out) hb); have n2_ := Aside0.mk (Kd.N_below (by (with_reducible repeat (first | apply Kd.N_alloc | apply Kd.N_drewN | apply Kd.N_drew)); exact HO282.out) hb); have n3_ := Aside0.mk (blk_below (g := gb278) (o := .cells #[.bool true, .int .i64 (wrap64 ((l0.length : Int) + 1))] 47 (0, 0)) (by (with_reducible repeat (first | refine blk_drewN ?_ _ | refine blk_drew ?_ | refine blk_alloc ?_ _)); exact BK278.out) hb); have n4_ := Aside0.mk (blk_below (g := gb279) (o := .cells #[.bool false, .int .i64 (wrap64 ((l0.length : Int) + 1))] 47 (0, 0)) (by (with_reducible repeat (first | refine blk_drewN ?_ _ | refine blk_drew ?_ | refine blk_alloc ?_ _)); exact BK279.out) hb); have n5_ := Aside0.mk (below_step (by repeat (first | (with_reducible first | exact HB.out | apply below_alloc | apply pw_below_drewN | apply below_drew1 | refine below_set ?_ GE278.out | refine below_set ?_ GE279.out) | exact HB.out)) hb); clear HO274; clear HO277; clear HO282; clear BK278; clear BK279; clear HB; have HO274 := n0_; have HO277 := n1_; have HO282 := n2_; have BK278 := n3_; have BK279 := n4_; have HB := n5_; clear n0_ n1_ n2_ n3_ n4_ n5_; (try clear hb); (try clear hb2); (try clear hk); (try clear hi)) | (go_at_call 30; (with_reducible refine (types_Assign.calls kj19 _ _ y275 (wrap64 ((l0.length : Int) + 1)) (l0.length : Int) t287 _ ?side1 ?side2 A59.out).mono ?_); (case side1 => repeat (first | exact (Kd.N_reads' HO277.out).2.2 | (with_reducible refine Kd.C_alloc ?_ _) | (with_reducible refine Kd.C_drewN ?_ _) | (with_reducible refine Kd.C_drew ?_))); (case side2 => exact (Kd.N_reads' HO277.out).2.1); rintro e w70 ⟨rfl, hb⟩; have n0_ := Aside0.mk (Kd.N_below (by (with_reducible repeat (first | apply Kd.N_alloc | apply Kd.N_drewN | apply Kd.N_drew)); exact HO274.out) hb); have n1_ := Aside0.mk (Kd.N_below (by (with_reducible repeat (first | apply Kd.N_alloc | apply Kd.N_drewN | apply Kd.N_drew)); exact HO277.out) hb); have n2_ := Aside0.mk (Kd.N_below (by (with_reducible repeat (first | apply Kd.N_alloc | apply Kd.N_drewN | apply Kd.N_drew)); exact HO282.out) hb); have n3_ := Aside0.mk (blk_below (g := gb278) (o := .cells #[.bool true, .int .i64 (wrap64 ((l0.length : Int) + 1))] 47 (0, 0)) (by (with_reducible repeat (first | refine blk_drewN ?_ _ | refine blk_drew ?_ | refine blk_alloc ?_ _)); exact BK278.out) hb); have n4_ := Aside0.mk (blk_below (g := gb279) (o := .cells #[.bool false, .int .i64 (wrap64 ((l0.length : Int) + 1))] 47 (0, 0)) (by (with_reducible repeat (first | refine blk_drewN ?_ _ | refine blk_drew ?_ | refine blk_alloc ?_ _)); exact BK279.out) hb); have n5_ := Aside0.mk (below_step (by repeat (first | (with_reducible first | exact HB.out | apply below_alloc | apply pw_below_drewN | apply below_drew1 | refine below_set ?_ GE278.out | refine below_set ?_ GE279.out) | exact HB.out)) hb); clear HO274; clear HO277; clear HO282; clear BK278; clear BK279; clear HB; have HO274 := n0_; have HO277 := n1_; have HO282 := n2_; have BK278 := n3_; have BK279 := n4_; have HB := n5_; clear n0_ n1_ n2_ n3_ n4_ n5_; (try clear hb); (try clear hb2); (try clear hk); (try clear hi)))
               go_meet
               case rel => exact ⟨_, (!t287), (by first | rfl | (simp; done) | (simp [*]; done)), H', ⟨by have := HJ3.out; have := HJ19.out; first | omega | exact Nat.le_refl _⟩, ⟨by (with_reducible repeat (first | apply Kd.N_alloc | apply Kd.N_drewN | apply Kd.N_drew)); exact Kd.N_mono HO277.out (fun _ hk => ⟨hk.1.1.2, hk.1.2⟩)⟩, ⟨by (with_reducible repeat (first | refine blk_drewN ?_ _ | refine blk_drew ?_ | refine blk_alloc ?_ _)); exact BK278.out⟩, ⟨by (with_reducible repeat (first | refine blk_drewN ?_ _ | refine blk_drew ?_ | refine blk_alloc ?_ _)); exact BK279.out⟩, ⟨by repeat (first | (with_reducible first | exact HB.out | apply below_alloc | apply pw_below_drewN | apply below_drew1 | refine below_set ?_ GE278.out | refine below_set ?_ GE279.out) | exact HB.out)⟩⟩
             ·
              replace c46 := Bool.eq_false_iff.mpr c46
              subst c46
              have H1 : (spinetlaw13_TypesOpen.j2 kj19 ((rd_T40 l0 a1).f0) y275 true true (wrap64 ((l0.length : Int) + 1)) false (wrap64 ((l0.length : Int) + 1))) = some r := by rw [if_neg (show ¬ (false = true) by decide)] at H; exact H
              clear H
              have H := H1
              clear H1
              have H' := Aside0.mk H
              clear H
              obtain ⟨Ao71, co71, eo71⟩ := Kd.N_slice HO277.out
              subst eo71
              go_wp2_with (first | ((with_reducible refine gate_callee (f := 14) rfl ?_); refine goesL_ (some 81) rfl rfl Try.func14 (by kernel_rfl) rfl #[.slice Ao71 y275.length co71] rfl (by (try simp only [List.map_toArray, List.map_cons, List.map_nil]); first | done | rfl | (simp only [List.length_drop, List.length_take]; rfl)) ?_; (with_reducible refine (spinetref13_Copy.calls _ _ y275 t280 _ ?side1 ?side2 A40.out).mono ?_); (case side1 => refine (Kd.N_reads' (e := 40) (base := w.heap.size) (ok := fun k_ => ((True ∧ k_ ≠ gb278) ∧ k_ ≠ gb279)) (n := y275.length) (c := co71) ?_).2.2; exact (by (with_reducible repeat (first | apply Kd.N_alloc | apply Kd.N_drewN | apply Kd.N_drew)); exact (Kd.N_mono (Kd.N_mono (Kd.N_far (p := ⟨gb279, 1, none⟩) (Kd.N_far (p := ⟨gb279, 0, none⟩) (Kd.N_far (p := ⟨gb278, 1, none⟩) (Kd.N_far (p := ⟨gb278, 0, none⟩) (Kd.N_mono (Kd.N_mono HO277.out (fun k_ hk => (⟨hk, hk.1.2⟩ : _ ∧ k_ ≠ gb278))) (fun k_ hk => (⟨hk, hk.1.2⟩ : _ ∧ k_ ≠ gb279))) (fun _ hk => hk.1.2) (.bool true)) (fun _ hk => hk.1.2) (.int .i64 (wrap64 ((l0.length : Int) + 1)))) (fun _ hk => hk.2) (.bool false)) (fun _ hk => hk.2) (.int .i64 (wrap64 ((l0.length : Int) + 1)))) (fun _ h_ => h_.1)) (fun _ h_ => h_.1)))); (case side2 => exact (Kd.N_reads' HO277.out).2.1); rintro e w72 ⟨v281, rfl, ho0, hb⟩; refine ⟨_, rfl, ?_⟩; have n0_ := Aside0.mk (Kd.N_elder' (by (with_reducible repeat (first | apply Kd.N_alloc | apply Kd.N_drewN | apply Kd.N_drew)); exact (Kd.N_mono (Kd.N_mono (Kd.N_far (p := ⟨gb279, 1, none⟩) (Kd.N_far (p := ⟨gb279, 0, none⟩) (Kd.N_far (p := ⟨gb278, 1, none⟩) (Kd.N_far (p := ⟨gb278, 0, none⟩) (Kd.N_mono (Kd.N_mono HO274.out (fun k_ hk => (⟨hk, hk.1.2⟩ : _ ∧ k_ ≠ gb278))) (fun k_ hk => (⟨hk, hk.1.2⟩ : _ ∧ k_ ≠ gb279))) (fun _ hk => hk.1.2) (.bool true)) (fun _ hk => hk.1.2) (.int .i64 (wrap64 ((l0.length : Int) + 1)))) (fun _ hk => hk.2) (.bool false)) (fun _ hk => hk.2) (.int .i64 (wrap64 ((l0.length : Int) + 1)))) (fun _ h_ => h_.1)) (fun _ h_ => h_.1))) (Kd.N_base (Kd.S_N ho0)) hb); have n1_ := Aside0.mk (Kd.N_elder' (by (with_reducible repeat (first | apply Kd.N_alloc | apply Kd.N_drewN | apply Kd.N_drew)); exact (Kd.N_mono (Kd.N_mono (Kd.N_far (p := ⟨gb279, 1, none⟩) (Kd.N_far (p := ⟨gb279, 0, none⟩) (Kd.N_far (p := ⟨gb278, 1, none⟩) (Kd.N_far (p := ⟨gb278, 0, none⟩) (Kd.N_mono (Kd.N_mono HO277.out (fun k_ hk => (⟨hk, hk.1.2⟩ : _ ∧ k_ ≠ gb278))) (fun k_ hk => (⟨hk, hk.1.2⟩ : _ ∧ k_ ≠ gb279))) (fun _ hk => hk.1.2) (.bool true)) (fun _ hk => hk.1.2) (.int .i64 (wrap64 ((l0.length : Int) + 1)))) (fun _ hk => hk.2) (.bool false)) (fun _ hk => hk.2) (.int .i64 (wrap64 ((l0.length : Int) + 1)))) (fun _ h_ => h_.1)) (fun _ h_ => h_.1))) (Kd.N_base (Kd.S_N ho0)) hb); have n2_ := Aside0.mk (Kd.N_lower (Kd.N_mono (ok' := fun k_ => some k_ ≠ (.slice Ao34 y272.length co34 : Value).ownBlock ∧ some k_ ≠ (.slice Ao71 y275.length co71 : Value).ownBlock ∧ k_ ≠ gb278 ∧ k_ ≠ gb279) (Kd.S_N (Kd.S_bound ho0)) (fun k_ hk_ => ⟨(Kd.fresh' (Kd.N_lt (by (with_reducible repeat (first | apply Kd.N_alloc | apply Kd.N_drewN | apply Kd.N_drew)); exact (Kd.N_mono (Kd.N_mono (Kd.N_far (p := ⟨gb279, 1, none⟩) (Kd.N_far (p := ⟨gb279, 0, none⟩) (Kd.N_far (p := ⟨gb278, 1, none⟩) (Kd.N_far (p := ⟨gb278, 0, none⟩) (Kd.N_mono (Kd.N_mono HO274.out (fun k_ hk => (⟨hk, hk.1.2⟩ : _ ∧ k_ ≠ gb278))) (fun k_ hk => (⟨hk, hk.1.2⟩ : _ ∧ k_ ≠ gb279))) (fun _ hk => hk.1.2) (.bool true)) (fun _ hk => hk.1.2) (.int .i64 (wrap64 ((l0.length : Int) + 1)))) (fun _ hk => hk.2) (.bool false)) (fun _ hk => hk.2) (.int .i64 (wrap64 ((l0.length : Int) + 1)))) (fun _ h_ => h_.1)) (fun _ h_ => h_.1)))) k_ hk_.2.1), (Kd.fresh' (Kd.N_lt (by (with_reducible repeat (first | apply Kd.N_alloc | apply Kd.N_drewN | apply Kd.N_drew)); exact (Kd.N_mono (Kd.N_mono (Kd.N_far (p := ⟨gb279, 1, none⟩) (Kd.N_far (p := ⟨gb279, 0, none⟩) (Kd.N_far (p := ⟨gb278, 1, none⟩) (Kd.N_far (p := ⟨gb278, 0, none⟩) (Kd.N_mono (Kd.N_mono HO277.out (fun k_ hk => (⟨hk, hk.1.2⟩ : _ ∧ k_ ≠ gb278))) (fun k_ hk => (⟨hk, hk.1.2⟩ : _ ∧ k_ ≠ gb279))) (fun _ hk => hk.1.2) (.bool true)) (fun _ hk => hk.1.2) (.int .i64 (wrap64 ((l0.length : Int) + 1)))) (fun _ hk => hk.2) (.bool false)) (fun _ hk => hk.2) (.int .i64 (wrap64 ((l0.length : Int) + 1)))) (fun _ h_ => h_.1)) (fun _ h_ => h_.1)))) k_ hk_.2.1), (Kd.freshB (g := gb278) (o := .cells #[.bool true, .int .i64 (wrap64 ((l0.length : Int) + 1))] 47 (0, 0)) (by (with_reducible repeat (first | refine blk_drewN ?_ _ | refine blk_drew ?_ | refine blk_alloc ?_ _)); refine blk_far ?_ NB278_279.out _; (with_reducible repeat (first | refine blk_drewN ?_ _ | refine blk_drew ?_ | refine blk_alloc ?_ _)); refine blk_far ?_ NB278_279.out _; (with_reducible repeat (first | refine blk_drewN ?_ _ | refine blk_drew ?_ | refine blk_alloc ?_ _)); refine blk_put (cs := #[.bool true, .int .i64 0]) ?_ 1 _ rfl; (with_reducible repeat (first | refine blk_drewN ?_ _ | refine blk_drew ?_ | refine blk_alloc ?_ _)); refine blk_put (cs := #[.bool false, .int .i64 0]) ?_ 0 _ rfl; (with_reducible repeat (first | refine blk_drewN ?_ _ | refine blk_drew ?_ | refine blk_alloc ?_ _)); exact BK278.out) k_ hk_.2.1), (Kd.freshB (g := gb279) (o := .cells #[.bool false, .int .i64 (wrap64 ((l0.length : Int) + 1))] 47 (0, 0)) (by (with_reducible repeat (first | refine blk_drewN ?_ _ | refine blk_drew ?_ | refine blk_alloc ?_ _)); refine blk_put (cs := #[.bool false, .int .i64 0]) ?_ 1 _ rfl; (with_reducible repeat (first | refine blk_drewN ?_ _ | refine blk_drew ?_ | refine blk_alloc ?_ _)); refine blk_put (cs := #[.bool false, .int .i64 0]) ?_ 0 _ rfl; (with_reducible repeat (first | refine blk_drewN ?_ _ | refine blk_drew ?_ | refine blk_alloc ?_ _)); refine blk_far ?_ NB279_278.out _; (with_reducible repeat (first | refine blk_drewN ?_ _ | refine blk_drew ?_ | refine blk_alloc ?_ _)); refine blk_far ?_ NB279_278.out _; (with_reducible repeat (first | refine blk_drewN ?_ _ | refine blk_drew ?_ | refine blk_alloc ?_ _)); exact BK279.out) k_ hk_.2.1)⟩)) (below_size (by repeat (first | (with_reducible first | exact HB.out | apply below_alloc | apply pw_below_drewN | apply below_drew1 | refine below_set ?_ GE278.out | refine below_set ?_ GE279.out) | exact HB.out)))); have n3_ := Aside0.mk (blk_below (g := gb278) (o := .cells #[.bool true, .int .i64 (wrap64 ((l0.length : Int) + 1))] 47 (0, 0)) (by (with_reducible repeat (first | refine blk_drewN ?_ _ | refine blk_drew ?_ | refine blk_alloc ?_ _)); refine blk_far ?_ NB278_279.out _; (with_reducible repeat (first | refine blk_drewN ?_ _ | refine blk_drew ?_ | refine blk_alloc ?_ _)); refine blk_far ?_ NB278_279.out _; (with_reducible repeat (first | refine blk_drewN ?_ _ | refine blk_drew ?_ | refine blk_alloc ?_ _)); refine blk_put (cs := #[.bool true, .int .i64 0]) ?_ 1 _ rfl; (with_reducible repeat (first | refine blk_drewN ?_ _ | refine blk_drew ?_ | refine blk_alloc ?_ _)); refine blk_put (cs := #[.bool false, .int .i64 0]) ?_ 0 _ rfl; (with_reducible repeat (first | refine blk_drewN ?_ _ | refine blk_drew ?_ | refine blk_alloc ?_ _)); exact BK278.out) hb); have n4_ := Aside0.mk (blk_below (g := gb279) (o := .cells #[.bool false, .int .i64 (wrap64 ((l0.length : Int) + 1))] 47 (0, 0)) (by (with_reducible repeat (first | refine blk_drewN ?_ _ | refine blk_drew ?_ | refine blk_alloc ?_ _)); refine blk_put (cs := #[.bool false, .int .i64 0]) ?_ 1 _ rfl; (with_reducible repeat (first | refine blk_drewN ?_ _ | refine blk_drew ?_ | refine blk_alloc ?_ _)); refine blk_put (cs := #[.bool false, .int .i64 0]) ?_ 0 _ rfl; (with_reducible repeat (first | refine blk_drewN ?_ _ | refine blk_drew ?_ | refine blk_alloc ?_ _)); refine blk_far ?_ NB279_278.out _; (with_reducible repeat (first | refine blk_drewN ?_ _ | refine blk_drew ?_ | refine blk_alloc ?_ _)); refine blk_far ?_ NB279_278.out _; (with_reducible repeat (first | refine blk_drewN ?_ _ | refine blk_drew ?_ | refine blk_alloc ?_ _)); exact BK279.out) hb); have n5_ := Aside0.mk (below_step (by repeat (first | (with_reducible first | exact HB.out | apply below_alloc | apply pw_below_drewN | apply below_drew1 | refine below_set ?_ GE278.out | refine below_set ?_ GE279.out) | exact HB.out)) hb); clear HO274; clear HO277; clear BK278; clear BK279; clear HB; have HO274 := n0_; have HO277 := n1_; have HO282 := n2_; have BK278 := n3_; have BK279 := n4_; have HB := n5_; clear n0_ n1_ n2_ n3_ n4_ n5_; (try clear hb); (try clear hb2); (try clear hk); (try clear hi); (try clear ho0); obtain ⟨Ao73, co73, eo73⟩ := Kd.N_slice HO282.out; subst eo73) | ((with_reducible refine gate_callee (f := 25) rfl ?_); refine goesL_ (some 82) rfl rfl Try.func25 (by kernel_rfl) rfl #[.slice Ao73 t280.length co73] rfl (by (try simp only [List.map_toArray, List.map_cons, List.map_nil]); first | done | rfl | (simp only [List.length_drop, List.length_take]; rfl)) ?_; (with_reducible refine (types_Good.calls _ _ t280 true _ ?side1 ?side2 A41.out).mono ?_); (case side1 => repeat (first | exact (Kd.N_reads' HO282.out).2.2 | (with_reducible refine Kd.C_alloc ?_ _) | (with_reducible refine Kd.C_drewN ?_ _) | (with_reducible refine Kd.C_drew ?_))); (case side2 => exact (Kd.N_reads' HO282.out).2.1); rintro e w74 ⟨rfl, hb⟩; refine ⟨_, rfl, ?_⟩; have n0_ := Aside0.mk (Kd.N_below (by (with_reducible repeat (first | apply Kd.N_alloc | apply Kd.N_drewN | apply Kd.N_drew)); exact HO274.out) hb); have n1_ := Aside0.mk (Kd.N_below (by (with_reducible repeat (first | apply Kd.N_alloc | apply Kd.N_drewN | apply Kd.N_drew)); exact HO277.out) hb); have n2_ := Aside0.mk (Kd.N_below (by (with_reducible repeat (first | apply Kd.N_alloc | apply Kd.N_drewN | apply Kd.N_drew)); exact HO282.out) hb); have n3_ := Aside0.mk (blk_below (g := gb278) (o := .cells #[.bool true, .int .i64 (wrap64 ((l0.length : Int) + 1))] 47 (0, 0)) (by (with_reducible repeat (first | refine blk_drewN ?_ _ | refine blk_drew ?_ | refine blk_alloc ?_ _)); exact BK278.out) hb); have n4_ := Aside0.mk (blk_below (g := gb279) (o := .cells #[.bool false, .int .i64 (wrap64 ((l0.length : Int) + 1))] 47 (0, 0)) (by (with_reducible repeat (first | refine blk_drewN ?_ _ | refine blk_drew ?_ | refine blk_alloc ?_ _)); exact BK279.out) hb); have n5_ := Aside0.mk (below_step (by repeat (first | (with_reducible first | exact HB.out | apply below_alloc | apply pw_below_drewN | apply below_drew1 | refine below_set ?_ GE278.out | refine below_set ?_ GE279.out) | exact HB.out)) hb); clear HO274; clear HO277; clear HO282; clear BK278; clear BK279; clear HB; have HO274 := n0_; have HO277 := n1_; have HO282 := n2_; have BK278 := n3_; have BK279 := n4_; have HB := n5_; clear n0_ n1_ n2_ n3_ n4_ n5_; (try clear hb); (try clear hb2); (try clear hk); (try clear hi); have hnb75 := NB278_279.out; have hnc75 := NB279_278.out; have hcz76_0 : w74.cell? ⟨gb278, 0, none⟩ = some (.bool true) := (blk_cell BK278.out 0).trans rfl; have hcz76_1 : w74.cell? ⟨gb278, 1, none⟩ = some (.int .i64 (wrap64 ((l0.length : Int) + 1))) := (blk_cell BK278.out 1).trans rfl; have hfz76_0 := blk_frozen BK278.out 0; have hfz76_1 := blk_frozen BK278.out 1) | (go_at_call 32; (with_reducible refine (types_Fits.calls kj19 _ _ y275 (l0.length : Int) true (wrap64 ((l0.length : Int) + 1)) true _ ?side1 ?side2 A43.out).mono ?_); (case side1 => repeat (first | exact (Kd.N_reads' HO277.out).2.2 | (with_reducible refine Kd.C_alloc ?_ _) | (with_reducible refine Kd.C_drewN ?_ _) | (with_reducible refine Kd.C_drew ?_))); (case side2 => exact (Kd.N_reads' HO277.out).2.1); rintro e w77 ⟨rfl, hb⟩; have n0_ := Aside0.mk (Kd.N_below (by (with_reducible repeat (first | apply Kd.N_alloc | apply Kd.N_drewN | apply Kd.N_drew)); exact HO274.out) hb); have n1_ := Aside0.mk (Kd.N_below (by (with_reducible repeat (first | apply Kd.N_alloc | apply Kd.N_drewN | apply Kd.N_drew)); exact HO277.out) hb); have n2_ := Aside0.mk (Kd.N_below (by (with_reducible repeat (first | apply Kd.N_alloc | apply Kd.N_drewN | apply Kd.N_drew)); exact HO282.out) hb); have n3_ := Aside0.mk (blk_below (g := gb278) (o := .cells #[.bool true, .int .i64 (wrap64 ((l0.length : Int) + 1))] 47 (0, 0)) (by (with_reducible repeat (first | refine blk_drewN ?_ _ | refine blk_drew ?_ | refine blk_alloc ?_ _)); exact BK278.out) hb); have n4_ := Aside0.mk (blk_below (g := gb279) (o := .cells #[.bool false, .int .i64 (wrap64 ((l0.length : Int) + 1))] 47 (0, 0)) (by (with_reducible repeat (first | refine blk_drewN ?_ _ | refine blk_drew ?_ | refine blk_alloc ?_ _)); exact BK279.out) hb); have n5_ := Aside0.mk (below_step (by repeat (first | (with_reducible first | exact HB.out | apply below_alloc | apply pw_below_drewN | apply below_drew1 | refine below_set ?_ GE278.out | refine below_set ?_ GE279.out) | exact HB.out)) hb); clear HO274; clear HO277; clear HO282; clear BK278; clear BK279; clear HB; have HO274 := n0_; have HO277 := n1_; have HO282 := n2_; have BK278 := n3_; have BK279 := n4_; have HB := n5_; clear n0_ n1_ n2_ n3_ n4_ n5_; (try clear hb); (try clear hb2); (try clear hk); (try clear hi); have hcz78_0 : w77.cell? ⟨gb279, 0, none⟩ = some (.bool false) := (blk_cell BK279.out 0).trans rfl; have hcz78_1 : w77.cell? ⟨gb279, 1, none⟩ = some (.int .i64 (wrap64 ((l0.length : Int) + 1))) := (blk_cell BK279.out 1).trans rfl; have hfz78_0 := blk_frozen BK279.out 0; have hfz78_1 := blk_frozen BK279.out 1) | (go_at_call 32; (with_reducible refine (types_Fits.calls kj19 _ _ y275 (l0.length : Int) false (wrap64 ((l0.length : Int) + 1)) false _ ?side1 ?side2 A45.out).mono ?_); (case side1 => repeat (first | exact (Kd.N_reads' HO277.out).2.2 | (with_reducible refine Kd.C_alloc ?_ _) | (with_reducible refine Kd.C_drewN ?_ _) | (with_reducible refine Kd.C_drew ?_))); (case side2 => exact (Kd.N_reads' HO277.out).2.1); rintro e w79 ⟨rfl, hb⟩; have n0_ := Aside0.mk (Kd.N_below (by (with_reducible repeat (first | apply Kd.N_alloc | apply Kd.N_drewN | apply Kd.N_drew)); exact HO274.out) hb); have n1_ := Aside0.mk (Kd.N_below (by (with_reducible repeat (first | apply Kd.N_alloc | apply Kd.N_drewN | apply Kd.N_drew)); exact HO277.out) hb); have n2_ := Aside0.mk (Kd.N_below (by (with_reducible repeat (first | apply Kd.N_alloc | apply Kd.N_drewN | apply Kd.N_drew)); exact HO282.out) hb); have n3_ := Aside0.mk (blk_below (g := gb278) (o := .cells #[.bool true, .int .i64 (wrap64 ((l0.length : Int) + 1))] 47 (0, 0)) (by (with_reducible repeat (first | refine blk_drewN ?_ _ | refine blk_drew ?_ | refine blk_alloc ?_ _)); exact BK278.out) hb); have n4_ := Aside0.mk (blk_below (g := gb279) (o := .cells #[.bool false, .int .i64 (wrap64 ((l0.length : Int) + 1))] 47 (0, 0)) (by (with_reducible repeat (first | refine blk_drewN ?_ _ | refine blk_drew ?_ | refine blk_alloc ?_ _)); exact BK279.out) hb); have n5_ := Aside0.mk (below_step (by repeat (first | (with_reducible first | exact HB.out | apply below_alloc | apply pw_below_drewN | apply below_drew1 | refine below_set ?_ GE278.out | refine below_set ?_ GE279.out) | exact HB.out)) hb); clear HO274; clear HO277; clear HO282; clear BK278; clear BK279; clear HB; have HO274 := n0_; have HO277 := n1_; have HO282 := n2_; have BK278 := n3_; have BK279 := n4_; have HB := n5_; clear n0_ n1_ n2_ n3_ n4_ n5_; (try clear hb); (try clear hb2); (try clear hk); (try clear hi)))
              go_meet
              case rel => exact ⟨_, (true), (by first | rfl | (simp; done) | (simp [*]; done)), H', ⟨by have := HJ3.out; have := HJ19.out; first | omega | exact Nat.le_refl _⟩, ⟨by (with_reducible repeat (first | apply Kd.N_alloc | apply Kd.N_drewN | apply Kd.N_drew)); exact Kd.N_mono HO277.out (fun _ hk => ⟨hk.1.1.2, hk.1.2⟩)⟩, ⟨by (with_reducible repeat (first | refine blk_drewN ?_ _ | refine blk_drew ?_ | refine blk_alloc ?_ _)); exact BK278.out⟩, ⟨by (with_reducible repeat (first | refine blk_drewN ?_ _ | refine blk_drew ?_ | refine blk_alloc ?_ _)); exact BK279.out⟩, ⟨by repeat (first | (with_reducible first | exact HB.out | apply below_alloc | apply pw_below_drewN | apply below_drew1 | refine below_set ?_ GE278.out | refine below_set ?_ GE279.out) | exact HB.out)⟩⟩
            ·
             replace c44 := Bool.eq_false_iff.mpr c44
             subst c44
             have H1 : (spinetlaw13_TypesOpen.j2 kj19 ((rd_T40 l0 a1).f0) y275 true true (wrap64 ((l0.length : Int) + 1)) false (wrap64 ((l0.length : Int) + 1))) = some r := by rw [if_neg (show ¬ (false = true) by decide)] at H; exact H
             clear H
             have H := H1
             clear H1
             have H' := Aside0.mk H
             clear H
             obtain ⟨Ao80, co80, eo80⟩ := Kd.N_slice HO277.out
             subst eo80
             go_wp2_with (first | ((with_reducible refine gate_callee (f := 14) rfl ?_); refine goesL_ (some 81) rfl rfl Try.func14 (by kernel_rfl) rfl #[.slice Ao80 y275.length co80] rfl (by (try simp only [List.map_toArray, List.map_cons, List.map_nil]); first | done | rfl | (simp only [List.length_drop, List.length_take]; rfl)) ?_; (with_reducible refine (spinetref13_Copy.calls _ _ y275 t280 _ ?side1 ?side2 A40.out).mono ?_); (case side1 => refine (Kd.N_reads' (e := 40) (base := w.heap.size) (ok := fun k_ => ((True ∧ k_ ≠ gb278) ∧ k_ ≠ gb279)) (n := y275.length) (c := co80) ?_).2.2; exact (by (with_reducible repeat (first | apply Kd.N_alloc | apply Kd.N_drewN | apply Kd.N_drew)); exact (Kd.N_mono (Kd.N_mono (Kd.N_far (p := ⟨gb279, 1, none⟩) (Kd.N_far (p := ⟨gb279, 0, none⟩) (Kd.N_far (p := ⟨gb278, 1, none⟩) (Kd.N_far (p := ⟨gb278, 0, none⟩) (Kd.N_mono (Kd.N_mono HO277.out (fun k_ hk => (⟨hk, hk.1.2⟩ : _ ∧ k_ ≠ gb278))) (fun k_ hk => (⟨hk, hk.1.2⟩ : _ ∧ k_ ≠ gb279))) (fun _ hk => hk.1.2) (.bool true)) (fun _ hk => hk.1.2) (.int .i64 (wrap64 ((l0.length : Int) + 1)))) (fun _ hk => hk.2) (.bool false)) (fun _ hk => hk.2) (.int .i64 (wrap64 ((l0.length : Int) + 1)))) (fun _ h_ => h_.1)) (fun _ h_ => h_.1)))); (case side2 => exact (Kd.N_reads' HO277.out).2.1); rintro e w81 ⟨v281, rfl, ho0, hb⟩; refine ⟨_, rfl, ?_⟩; have n0_ := Aside0.mk (Kd.N_elder' (by (with_reducible repeat (first | apply Kd.N_alloc | apply Kd.N_drewN | apply Kd.N_drew)); exact (Kd.N_mono (Kd.N_mono (Kd.N_far (p := ⟨gb279, 1, none⟩) (Kd.N_far (p := ⟨gb279, 0, none⟩) (Kd.N_far (p := ⟨gb278, 1, none⟩) (Kd.N_far (p := ⟨gb278, 0, none⟩) (Kd.N_mono (Kd.N_mono HO274.out (fun k_ hk => (⟨hk, hk.1.2⟩ : _ ∧ k_ ≠ gb278))) (fun k_ hk => (⟨hk, hk.1.2⟩ : _ ∧ k_ ≠ gb279))) (fun _ hk => hk.1.2) (.bool true)) (fun _ hk => hk.1.2) (.int .i64 (wrap64 ((l0.length : Int) + 1)))) (fun _ hk => hk.2) (.bool false)) (fun _ hk => hk.2) (.int .i64 (wrap64 ((l0.length : Int) + 1)))) (fun _ h_ => h_.1)) (fun _ h_ => h_.1))) (Kd.N_base (Kd.S_N ho0)) hb); have n1_ := Aside0.mk (Kd.N_elder' (by (with_reducible repeat (first | apply Kd.N_alloc | apply Kd.N_drewN | apply Kd.N_drew)); exact (Kd.N_mono (Kd.N_mono (Kd.N_far (p := ⟨gb279, 1, none⟩) (Kd.N_far (p := ⟨gb279, 0, none⟩) (Kd.N_far (p := ⟨gb278, 1, none⟩) (Kd.N_far (p := ⟨gb278, 0, none⟩) (Kd.N_mono (Kd.N_mono HO277.out (fun k_ hk => (⟨hk, hk.1.2⟩ : _ ∧ k_ ≠ gb278))) (fun k_ hk => (⟨hk, hk.1.2⟩ : _ ∧ k_ ≠ gb279))) (fun _ hk => hk.1.2) (.bool true)) (fun _ hk => hk.1.2) (.int .i64 (wrap64 ((l0.length : Int) + 1)))) (fun _ hk => hk.2) (.bool false)) (fun _ hk => hk.2) (.int .i64 (wrap64 ((l0.length : Int) + 1)))) (fun _ h_ => h_.1)) (fun _ h_ => h_.1))) (Kd.N_base (Kd.S_N ho0)) hb); have n2_ := Aside0.mk (Kd.N_lower (Kd.N_mono (ok' := fun k_ => some k_ ≠ (.slice Ao34 y272.length co34 : Value).ownBlock ∧ some k_ ≠ (.slice Ao80 y275.length co80 : Value).ownBlock ∧ k_ ≠ gb278 ∧ k_ ≠ gb279) (Kd.S_N (Kd.S_bound ho0)) (fun k_ hk_ => ⟨(Kd.fresh' (Kd.N_lt (by (with_reducible repeat (first | apply Kd.N_alloc | apply Kd.N_drewN | apply Kd.N_drew)); exact (Kd.N_mono (Kd.N_mono (Kd.N_far (p := ⟨gb279, 1, none⟩) (Kd.N_far (p := ⟨gb279, 0, none⟩) (Kd.N_far (p := ⟨gb278, 1, none⟩) (Kd.N_far (p := ⟨gb278, 0, none⟩) (Kd.N_mono (Kd.N_mono HO274.out (fun k_ hk => (⟨hk, hk.1.2⟩ : _ ∧ k_ ≠ gb278))) (fun k_ hk => (⟨hk, hk.1.2⟩ : _ ∧ k_ ≠ gb279))) (fun _ hk => hk.1.2) (.bool true)) (fun _ hk => hk.1.2) (.int .i64 (wrap64 ((l0.length : Int) + 1)))) (fun _ hk => hk.2) (.bool false)) (fun _ hk => hk.2) (.int .i64 (wrap64 ((l0.length : Int) + 1)))) (fun _ h_ => h_.1)) (fun _ h_ => h_.1)))) k_ hk_.2.1), (Kd.fresh' (Kd.N_lt (by (with_reducible repeat (first | apply Kd.N_alloc | apply Kd.N_drewN | apply Kd.N_drew)); exact (Kd.N_mono (Kd.N_mono (Kd.N_far (p := ⟨gb279, 1, none⟩) (Kd.N_far (p := ⟨gb279, 0, none⟩) (Kd.N_far (p := ⟨gb278, 1, none⟩) (Kd.N_far (p := ⟨gb278, 0, none⟩) (Kd.N_mono (Kd.N_mono HO277.out (fun k_ hk => (⟨hk, hk.1.2⟩ : _ ∧ k_ ≠ gb278))) (fun k_ hk => (⟨hk, hk.1.2⟩ : _ ∧ k_ ≠ gb279))) (fun _ hk => hk.1.2) (.bool true)) (fun _ hk => hk.1.2) (.int .i64 (wrap64 ((l0.length : Int) + 1)))) (fun _ hk => hk.2) (.bool false)) (fun _ hk => hk.2) (.int .i64 (wrap64 ((l0.length : Int) + 1)))) (fun _ h_ => h_.1)) (fun _ h_ => h_.1)))) k_ hk_.2.1), (Kd.freshB (g := gb278) (o := .cells #[.bool true, .int .i64 (wrap64 ((l0.length : Int) + 1))] 47 (0, 0)) (by (with_reducible repeat (first | refine blk_drewN ?_ _ | refine blk_drew ?_ | refine blk_alloc ?_ _)); refine blk_far ?_ NB278_279.out _; (with_reducible repeat (first | refine blk_drewN ?_ _ | refine blk_drew ?_ | refine blk_alloc ?_ _)); refine blk_far ?_ NB278_279.out _; (with_reducible repeat (first | refine blk_drewN ?_ _ | refine blk_drew ?_ | refine blk_alloc ?_ _)); refine blk_put (cs := #[.bool true, .int .i64 0]) ?_ 1 _ rfl; (with_reducible repeat (first | refine blk_drewN ?_ _ | refine blk_drew ?_ | refine blk_alloc ?_ _)); refine blk_put (cs := #[.bool false, .int .i64 0]) ?_ 0 _ rfl; (with_reducible repeat (first | refine blk_drewN ?_ _ | refine blk_drew ?_ | refine blk_alloc ?_ _)); exact BK278.out) k_ hk_.2.1), (Kd.freshB (g := gb279) (o := .cells #[.bool false, .int .i64 (wrap64 ((l0.length : Int) + 1))] 47 (0, 0)) (by (with_reducible repeat (first | refine blk_drewN ?_ _ | refine blk_drew ?_ | refine blk_alloc ?_ _)); refine blk_put (cs := #[.bool false, .int .i64 0]) ?_ 1 _ rfl; (with_reducible repeat (first | refine blk_drewN ?_ _ | refine blk_drew ?_ | refine blk_alloc ?_ _)); refine blk_put (cs := #[.bool false, .int .i64 0]) ?_ 0 _ rfl; (with_reducible repeat (first | refine blk_drewN ?_ _ | refine blk_drew ?_ | refine blk_alloc ?_ _)); refine blk_far ?_ NB279_278.out _; (with_reducible repeat (first | refine blk_drewN ?_ _ | refine blk_drew ?_ | refine blk_alloc ?_ _)); refine blk_far ?_ NB279_278.out _; (with_reducible repeat (first | refine blk_drewN ?_ _ | refine blk_drew ?_ | refine blk_alloc ?_ _)); exact BK279.out) k_ hk_.2.1)⟩)) (below_size (by repeat (first | (with_reducible first | exact HB.out | apply below_alloc | apply pw_below_drewN | apply below_drew1 | refine below_set ?_ GE278.out | refine below_set ?_ GE279.out) | exact HB.out)))); have n3_ := Aside0.mk (blk_below (g := gb278) (o := .cells #[.bool true, .int .i64 (wrap64 ((l0.length : Int) + 1))] 47 (0, 0)) (by (with_reducible repeat (first | refine blk_drewN ?_ _ | refine blk_drew ?_ | refine blk_alloc ?_ _)); refine blk_far ?_ NB278_279.out _; (with_reducible repeat (first | refine blk_drewN ?_ _ | refine blk_drew ?_ | refine blk_alloc ?_ _)); refine blk_far ?_ NB278_279.out _; (with_reducible repeat (first | refine blk_drewN ?_ _ | refine blk_drew ?_ | refine blk_alloc ?_ _)); refine blk_put (cs := #[.bool true, .int .i64 0]) ?_ 1 _ rfl; (with_reducible repeat (first | refine blk_drewN ?_ _ | refine blk_drew ?_ | refine blk_alloc ?_ _)); refine blk_put (cs := #[.bool false, .int .i64 0]) ?_ 0 _ rfl; (with_reducible repeat (first | refine blk_drewN ?_ _ | refine blk_drew ?_ | refine blk_alloc ?_ _)); exact BK278.out) hb); have n4_ := Aside0.mk (blk_below (g := gb279) (o := .cells #[.bool false, .int .i64 (wrap64 ((l0.length : Int) + 1))] 47 (0, 0)) (by (with_reducible repeat (first | refine blk_drewN ?_ _ | refine blk_drew ?_ | refine blk_alloc ?_ _)); refine blk_put (cs := #[.bool false, .int .i64 0]) ?_ 1 _ rfl; (with_reducible repeat (first | refine blk_drewN ?_ _ | refine blk_drew ?_ | refine blk_alloc ?_ _)); refine blk_put (cs := #[.bool false, .int .i64 0]) ?_ 0 _ rfl; (with_reducible repeat (first | refine blk_drewN ?_ _ | refine blk_drew ?_ | refine blk_alloc ?_ _)); refine blk_far ?_ NB279_278.out _; (with_reducible repeat (first | refine blk_drewN ?_ _ | refine blk_drew ?_ | refine blk_alloc ?_ _)); refine blk_far ?_ NB279_278.out _; (with_reducible repeat (first | refine blk_drewN ?_ _ | refine blk_drew ?_ | refine blk_alloc ?_ _)); exact BK279.out) hb); have n5_ := Aside0.mk (below_step (by repeat (first | (with_reducible first | exact HB.out | apply below_alloc | apply pw_below_drewN | apply below_drew1 | refine below_set ?_ GE278.out | refine below_set ?_ GE279.out) | exact HB.out)) hb); clear HO274; clear HO277; clear BK278; clear BK279; clear HB; have HO274 := n0_; have HO277 := n1_; have HO282 := n2_; have BK278 := n3_; have BK279 := n4_; have HB := n5_; clear n0_ n1_ n2_ n3_ n4_ n5_; (try clear hb); (try clear hb2); (try clear hk); (try clear hi); (try clear ho0); obtain ⟨Ao82, co82, eo82⟩ := Kd.N_slice HO282.out; subst eo82) | ((with_reducible refine gate_callee (f := 25) rfl ?_); refine goesL_ (some 82) rfl rfl Try.func25 (by kernel_rfl) rfl #[.slice Ao82 t280.length co82] rfl (by (try simp only [List.map_toArray, List.map_cons, List.map_nil]); first | done | rfl | (simp only [List.length_drop, List.length_take]; rfl)) ?_; (with_reducible refine (types_Good.calls _ _ t280 true _ ?side1 ?side2 A41.out).mono ?_); (case side1 => repeat (first | exact (Kd.N_reads' HO282.out).2.2 | (with_reducible refine Kd.C_alloc ?_ _) | (with_reducible refine Kd.C_drewN ?_ _) | (with_reducible refine Kd.C_drew ?_))); (case side2 => exact (Kd.N_reads' HO282.out).2.1); rintro e w83 ⟨rfl, hb⟩; refine ⟨_, rfl, ?_⟩; have n0_ := Aside0.mk (Kd.N_below (by (with_reducible repeat (first | apply Kd.N_alloc | apply Kd.N_drewN | apply Kd.N_drew)); exact HO274.out) hb); have n1_ := Aside0.mk (Kd.N_below (by (with_reducible repeat (first | apply Kd.N_alloc | apply Kd.N_drewN | apply Kd.N_drew)); exact HO277.out) hb); have n2_ := Aside0.mk (Kd.N_below (by (with_reducible repeat (first | apply Kd.N_alloc | apply Kd.N_drewN | apply Kd.N_drew)); exact HO282.out) hb); have n3_ := Aside0.mk (blk_below (g := gb278) (o := .cells #[.bool true, .int .i64 (wrap64 ((l0.length : Int) + 1))] 47 (0, 0)) (by (with_reducible repeat (first | refine blk_drewN ?_ _ | refine blk_drew ?_ | refine blk_alloc ?_ _)); exact BK278.out) hb); have n4_ := Aside0.mk (blk_below (g := gb279) (o := .cells #[.bool false, .int .i64 (wrap64 ((l0.length : Int) + 1))] 47 (0, 0)) (by (with_reducible repeat (first | refine blk_drewN ?_ _ | refine blk_drew ?_ | refine blk_alloc ?_ _)); exact BK279.out) hb); have n5_ := Aside0.mk (below_step (by repeat (first | (with_reducible first | exact HB.out | apply below_alloc | apply pw_below_drewN | apply below_drew1 | refine below_set ?_ GE278.out | refine below_set ?_ GE279.out) | exact HB.out)) hb); clear HO274; clear HO277; clear HO282; clear BK278; clear BK279; clear HB; have HO274 := n0_; have HO277 := n1_; have HO282 := n2_; have BK278 := n3_; have BK279 := n4_; have HB := n5_; clear n0_ n1_ n2_ n3_ n4_ n5_; (try clear hb); (try clear hb2); (try clear hk); (try clear hi); have hnb84 := NB278_279.out; have hnc84 := NB279_278.out; have hcz85_0 : w83.cell? ⟨gb278, 0, none⟩ = some (.bool true) := (blk_cell BK278.out 0).trans rfl; have hcz85_1 : w83.cell? ⟨gb278, 1, none⟩ = some (.int .i64 (wrap64 ((l0.length : Int) + 1))) := (blk_cell BK278.out 1).trans rfl; have hfz85_0 := blk_frozen BK278.out 0; have hfz85_1 := blk_frozen BK278.out 1) | (go_at_call 32; (with_reducible refine (types_Fits.calls kj19 _ _ y275 (l0.length : Int) true (wrap64 ((l0.length : Int) + 1)) false _ ?side1 ?side2 A43.out).mono ?_); (case side1 => repeat (first | exact (Kd.N_reads' HO277.out).2.2 | (with_reducible refine Kd.C_alloc ?_ _) | (with_reducible refine Kd.C_drewN ?_ _) | (with_reducible refine Kd.C_drew ?_))); (case side2 => exact (Kd.N_reads' HO277.out).2.1); rintro e w86 ⟨rfl, hb⟩; have n0_ := Aside0.mk (Kd.N_below (by (with_reducible repeat (first | apply Kd.N_alloc | apply Kd.N_drewN | apply Kd.N_drew)); exact HO274.out) hb); have n1_ := Aside0.mk (Kd.N_below (by (with_reducible repeat (first | apply Kd.N_alloc | apply Kd.N_drewN | apply Kd.N_drew)); exact HO277.out) hb); have n2_ := Aside0.mk (Kd.N_below (by (with_reducible repeat (first | apply Kd.N_alloc | apply Kd.N_drewN | apply Kd.N_drew)); exact HO282.out) hb); have n3_ := Aside0.mk (blk_below (g := gb278) (o := .cells #[.bool true, .int .i64 (wrap64 ((l0.length : Int) + 1))] 47 (0, 0)) (by (with_reducible repeat (first | refine blk_drewN ?_ _ | refine blk_drew ?_ | refine blk_alloc ?_ _)); exact BK278.out) hb); have n4_ := Aside0.mk (blk_below (g := gb279) (o := .cells #[.bool false, .int .i64 (wrap64 ((l0.length : Int) + 1))] 47 (0, 0)) (by (with_reducible repeat (first | refine blk_drewN ?_ _ | refine blk_drew ?_ | refine blk_alloc ?_ _)); exact BK279.out) hb); have n5_ := Aside0.mk (below_step (by repeat (first | (with_reducible first | exact HB.out | apply below_alloc | apply pw_below_drewN | apply below_drew1 | refine below_set ?_ GE278.out | refine below_set ?_ GE279.out) | exact HB.out)) hb); clear HO274; clear HO277; clear HO282; clear BK278; clear BK279; clear HB; have HO274 := n0_; have HO277 := n1_; have HO282 := n2_; have BK278 := n3_; have BK279 := n4_; have HB := n5_; clear n0_ n1_ n2_ n3_ n4_ n5_; (try clear hb); (try clear hb2); (try clear hk); (try clear hi)))
             go_meet
             case rel => exact ⟨_, (true), (by first | rfl | (simp; done) | (simp [*]; done)), H', ⟨by have := HJ3.out; have := HJ19.out; first | omega | exact Nat.le_refl _⟩, ⟨by (with_reducible repeat (first | apply Kd.N_alloc | apply Kd.N_drewN | apply Kd.N_drew)); exact Kd.N_mono HO277.out (fun _ hk => ⟨hk.1.1.2, hk.1.2⟩)⟩, ⟨by (with_reducible repeat (first | refine blk_drewN ?_ _ | refine blk_drew ?_ | refine blk_alloc ?_ _)); exact BK278.out⟩, ⟨by (with_reducible repeat (first | refine blk_drewN ?_ _ | refine blk_drew ?_ | refine blk_alloc ?_ _)); exact BK279.out⟩, ⟨by repeat (first | (with_reducible first | exact HB.out | apply below_alloc | apply pw_below_drewN | apply below_drew1 | refine below_set ?_ GE278.out | refine below_set ?_ GE279.out) | exact HB.out)⟩⟩
           ·
            replace c42 := Bool.eq_false_iff.mpr c42
            subst c42
            have H1 : (spinetlaw13_TypesOpen.j2 kj19 ((rd_T40 l0 a1).f0) y275 true true (wrap64 ((l0.length : Int) + 1)) false (wrap64 ((l0.length : Int) + 1))) = some r := by rw [if_neg (show ¬ (false = true) by decide)] at H; exact H
            clear H
            have H := H1
            clear H1
            have H' := Aside0.mk H
            clear H
            obtain ⟨Ao87, co87, eo87⟩ := Kd.N_slice HO277.out
            subst eo87
            go_wp2_with (first | ((with_reducible refine gate_callee (f := 14) rfl ?_); refine goesL_ (some 81) rfl rfl Try.func14 (by kernel_rfl) rfl #[.slice Ao87 y275.length co87] rfl (by (try simp only [List.map_toArray, List.map_cons, List.map_nil]); first | done | rfl | (simp only [List.length_drop, List.length_take]; rfl)) ?_; (with_reducible refine (spinetref13_Copy.calls _ _ y275 t280 _ ?side1 ?side2 A40.out).mono ?_); (case side1 => refine (Kd.N_reads' (e := 40) (base := w.heap.size) (ok := fun k_ => ((True ∧ k_ ≠ gb278) ∧ k_ ≠ gb279)) (n := y275.length) (c := co87) ?_).2.2; exact (by (with_reducible repeat (first | apply Kd.N_alloc | apply Kd.N_drewN | apply Kd.N_drew)); exact (Kd.N_mono (Kd.N_mono (Kd.N_far (p := ⟨gb279, 1, none⟩) (Kd.N_far (p := ⟨gb279, 0, none⟩) (Kd.N_far (p := ⟨gb278, 1, none⟩) (Kd.N_far (p := ⟨gb278, 0, none⟩) (Kd.N_mono (Kd.N_mono HO277.out (fun k_ hk => (⟨hk, hk.1.2⟩ : _ ∧ k_ ≠ gb278))) (fun k_ hk => (⟨hk, hk.1.2⟩ : _ ∧ k_ ≠ gb279))) (fun _ hk => hk.1.2) (.bool true)) (fun _ hk => hk.1.2) (.int .i64 (wrap64 ((l0.length : Int) + 1)))) (fun _ hk => hk.2) (.bool false)) (fun _ hk => hk.2) (.int .i64 (wrap64 ((l0.length : Int) + 1)))) (fun _ h_ => h_.1)) (fun _ h_ => h_.1)))); (case side2 => exact (Kd.N_reads' HO277.out).2.1); rintro e w88 ⟨v281, rfl, ho0, hb⟩; refine ⟨_, rfl, ?_⟩; have n0_ := Aside0.mk (Kd.N_elder' (by (with_reducible repeat (first | apply Kd.N_alloc | apply Kd.N_drewN | apply Kd.N_drew)); exact (Kd.N_mono (Kd.N_mono (Kd.N_far (p := ⟨gb279, 1, none⟩) (Kd.N_far (p := ⟨gb279, 0, none⟩) (Kd.N_far (p := ⟨gb278, 1, none⟩) (Kd.N_far (p := ⟨gb278, 0, none⟩) (Kd.N_mono (Kd.N_mono HO274.out (fun k_ hk => (⟨hk, hk.1.2⟩ : _ ∧ k_ ≠ gb278))) (fun k_ hk => (⟨hk, hk.1.2⟩ : _ ∧ k_ ≠ gb279))) (fun _ hk => hk.1.2) (.bool true)) (fun _ hk => hk.1.2) (.int .i64 (wrap64 ((l0.length : Int) + 1)))) (fun _ hk => hk.2) (.bool false)) (fun _ hk => hk.2) (.int .i64 (wrap64 ((l0.length : Int) + 1)))) (fun _ h_ => h_.1)) (fun _ h_ => h_.1))) (Kd.N_base (Kd.S_N ho0)) hb); have n1_ := Aside0.mk (Kd.N_elder' (by (with_reducible repeat (first | apply Kd.N_alloc | apply Kd.N_drewN | apply Kd.N_drew)); exact (Kd.N_mono (Kd.N_mono (Kd.N_far (p := ⟨gb279, 1, none⟩) (Kd.N_far (p := ⟨gb279, 0, none⟩) (Kd.N_far (p := ⟨gb278, 1, none⟩) (Kd.N_far (p := ⟨gb278, 0, none⟩) (Kd.N_mono (Kd.N_mono HO277.out (fun k_ hk => (⟨hk, hk.1.2⟩ : _ ∧ k_ ≠ gb278))) (fun k_ hk => (⟨hk, hk.1.2⟩ : _ ∧ k_ ≠ gb279))) (fun _ hk => hk.1.2) (.bool true)) (fun _ hk => hk.1.2) (.int .i64 (wrap64 ((l0.length : Int) + 1)))) (fun _ hk => hk.2) (.bool false)) (fun _ hk => hk.2) (.int .i64 (wrap64 ((l0.length : Int) + 1)))) (fun _ h_ => h_.1)) (fun _ h_ => h_.1))) (Kd.N_base (Kd.S_N ho0)) hb); have n2_ := Aside0.mk (Kd.N_lower (Kd.N_mono (ok' := fun k_ => some k_ ≠ (.slice Ao34 y272.length co34 : Value).ownBlock ∧ some k_ ≠ (.slice Ao87 y275.length co87 : Value).ownBlock ∧ k_ ≠ gb278 ∧ k_ ≠ gb279) (Kd.S_N (Kd.S_bound ho0)) (fun k_ hk_ => ⟨(Kd.fresh' (Kd.N_lt (by (with_reducible repeat (first | apply Kd.N_alloc | apply Kd.N_drewN | apply Kd.N_drew)); exact (Kd.N_mono (Kd.N_mono (Kd.N_far (p := ⟨gb279, 1, none⟩) (Kd.N_far (p := ⟨gb279, 0, none⟩) (Kd.N_far (p := ⟨gb278, 1, none⟩) (Kd.N_far (p := ⟨gb278, 0, none⟩) (Kd.N_mono (Kd.N_mono HO274.out (fun k_ hk => (⟨hk, hk.1.2⟩ : _ ∧ k_ ≠ gb278))) (fun k_ hk => (⟨hk, hk.1.2⟩ : _ ∧ k_ ≠ gb279))) (fun _ hk => hk.1.2) (.bool true)) (fun _ hk => hk.1.2) (.int .i64 (wrap64 ((l0.length : Int) + 1)))) (fun _ hk => hk.2) (.bool false)) (fun _ hk => hk.2) (.int .i64 (wrap64 ((l0.length : Int) + 1)))) (fun _ h_ => h_.1)) (fun _ h_ => h_.1)))) k_ hk_.2.1), (Kd.fresh' (Kd.N_lt (by (with_reducible repeat (first | apply Kd.N_alloc | apply Kd.N_drewN | apply Kd.N_drew)); exact (Kd.N_mono (Kd.N_mono (Kd.N_far (p := ⟨gb279, 1, none⟩) (Kd.N_far (p := ⟨gb279, 0, none⟩) (Kd.N_far (p := ⟨gb278, 1, none⟩) (Kd.N_far (p := ⟨gb278, 0, none⟩) (Kd.N_mono (Kd.N_mono HO277.out (fun k_ hk => (⟨hk, hk.1.2⟩ : _ ∧ k_ ≠ gb278))) (fun k_ hk => (⟨hk, hk.1.2⟩ : _ ∧ k_ ≠ gb279))) (fun _ hk => hk.1.2) (.bool true)) (fun _ hk => hk.1.2) (.int .i64 (wrap64 ((l0.length : Int) + 1)))) (fun _ hk => hk.2) (.bool false)) (fun _ hk => hk.2) (.int .i64 (wrap64 ((l0.length : Int) + 1)))) (fun _ h_ => h_.1)) (fun _ h_ => h_.1)))) k_ hk_.2.1), (Kd.freshB (g := gb278) (o := .cells #[.bool true, .int .i64 (wrap64 ((l0.length : Int) + 1))] 47 (0, 0)) (by (with_reducible repeat (first | refine blk_drewN ?_ _ | refine blk_drew ?_ | refine blk_alloc ?_ _)); refine blk_far ?_ NB278_279.out _; (with_reducible repeat (first | refine blk_drewN ?_ _ | refine blk_drew ?_ | refine blk_alloc ?_ _)); refine blk_far ?_ NB278_279.out _; (with_reducible repeat (first | refine blk_drewN ?_ _ | refine blk_drew ?_ | refine blk_alloc ?_ _)); refine blk_put (cs := #[.bool true, .int .i64 0]) ?_ 1 _ rfl; (with_reducible repeat (first | refine blk_drewN ?_ _ | refine blk_drew ?_ | refine blk_alloc ?_ _)); refine blk_put (cs := #[.bool false, .int .i64 0]) ?_ 0 _ rfl; (with_reducible repeat (first | refine blk_drewN ?_ _ | refine blk_drew ?_ | refine blk_alloc ?_ _)); exact BK278.out) k_ hk_.2.1), (Kd.freshB (g := gb279) (o := .cells #[.bool false, .int .i64 (wrap64 ((l0.length : Int) + 1))] 47 (0, 0)) (by (with_reducible repeat (first | refine blk_drewN ?_ _ | refine blk_drew ?_ | refine blk_alloc ?_ _)); refine blk_put (cs := #[.bool false, .int .i64 0]) ?_ 1 _ rfl; (with_reducible repeat (first | refine blk_drewN ?_ _ | refine blk_drew ?_ | refine blk_alloc ?_ _)); refine blk_put (cs := #[.bool false, .int .i64 0]) ?_ 0 _ rfl; (with_reducible repeat (first | refine blk_drewN ?_ _ | refine blk_drew ?_ | refine blk_alloc ?_ _)); refine blk_far ?_ NB279_278.out _; (with_reducible repeat (first | refine blk_drewN ?_ _ | refine blk_drew ?_ | refine blk_alloc ?_ _)); refine blk_far ?_ NB279_278.out _; (with_reducible repeat (first | refine blk_drewN ?_ _ | refine blk_drew ?_ | refine blk_alloc ?_ _)); exact BK279.out) k_ hk_.2.1)⟩)) (below_size (by repeat (first | (with_reducible first | exact HB.out | apply below_alloc | apply pw_below_drewN | apply below_drew1 | refine below_set ?_ GE278.out | refine below_set ?_ GE279.out) | exact HB.out)))); have n3_ := Aside0.mk (blk_below (g := gb278) (o := .cells #[.bool true, .int .i64 (wrap64 ((l0.length : Int) + 1))] 47 (0, 0)) (by (with_reducible repeat (first | refine blk_drewN ?_ _ | refine blk_drew ?_ | refine blk_alloc ?_ _)); refine blk_far ?_ NB278_279.out _; (with_reducible repeat (first | refine blk_drewN ?_ _ | refine blk_drew ?_ | refine blk_alloc ?_ _)); refine blk_far ?_ NB278_279.out _; (with_reducible repeat (first | refine blk_drewN ?_ _ | refine blk_drew ?_ | refine blk_alloc ?_ _)); refine blk_put (cs := #[.bool true, .int .i64 0]) ?_ 1 _ rfl; (with_reducible repeat (first | refine blk_drewN ?_ _ | refine blk_drew ?_ | refine blk_alloc ?_ _)); refine blk_put (cs := #[.bool false, .int .i64 0]) ?_ 0 _ rfl; (with_reducible repeat (first | refine blk_drewN ?_ _ | refine blk_drew ?_ | refine blk_alloc ?_ _)); exact BK278.out) hb); have n4_ := Aside0.mk (blk_below (g := gb279) (o := .cells #[.bool false, .int .i64 (wrap64 ((l0.length : Int) + 1))] 47 (0, 0)) (by (with_reducible repeat (first | refine blk_drewN ?_ _ | refine blk_drew ?_ | refine blk_alloc ?_ _)); refine blk_put (cs := #[.bool false, .int .i64 0]) ?_ 1 _ rfl; (with_reducible repeat (first | refine blk_drewN ?_ _ | refine blk_drew ?_ | refine blk_alloc ?_ _)); refine blk_put (cs := #[.bool false, .int .i64 0]) ?_ 0 _ rfl; (with_reducible repeat (first | refine blk_drewN ?_ _ | refine blk_drew ?_ | refine blk_alloc ?_ _)); refine blk_far ?_ NB279_278.out _; (with_reducible repeat (first | refine blk_drewN ?_ _ | refine blk_drew ?_ | refine blk_alloc ?_ _)); refine blk_far ?_ NB279_278.out _; (with_reducible repeat (first | refine blk_drewN ?_ _ | refine blk_drew ?_ | refine blk_alloc ?_ _)); exact BK279.out) hb); have n5_ := Aside0.mk (below_step (by repeat (first | (with_reducible first | exact HB.out | apply below_alloc | apply pw_below_drewN | apply below_drew1 | refine below_set ?_ GE278.out | refine below_set ?_ GE279.out) | exact HB.out)) hb); clear HO274; clear HO277; clear BK278; clear BK279; clear HB; have HO274 := n0_; have HO277 := n1_; have HO282 := n2_; have BK278 := n3_; have BK279 := n4_; have HB := n5_; clear n0_ n1_ n2_ n3_ n4_ n5_; (try clear hb); (try clear hb2); (try clear hk); (try clear hi); (try clear ho0); obtain ⟨Ao89, co89, eo89⟩ := Kd.N_slice HO282.out; subst eo89) | ((with_reducible refine gate_callee (f := 25) rfl ?_); refine goesL_ (some 82) rfl rfl Try.func25 (by kernel_rfl) rfl #[.slice Ao89 t280.length co89] rfl (by (try simp only [List.map_toArray, List.map_cons, List.map_nil]); first | done | rfl | (simp only [List.length_drop, List.length_take]; rfl)) ?_; (with_reducible refine (types_Good.calls _ _ t280 false _ ?side1 ?side2 A41.out).mono ?_); (case side1 => repeat (first | exact (Kd.N_reads' HO282.out).2.2 | (with_reducible refine Kd.C_alloc ?_ _) | (with_reducible refine Kd.C_drewN ?_ _) | (with_reducible refine Kd.C_drew ?_))); (case side2 => exact (Kd.N_reads' HO282.out).2.1); rintro e w90 ⟨rfl, hb⟩; refine ⟨_, rfl, ?_⟩; have n0_ := Aside0.mk (Kd.N_below (by (with_reducible repeat (first | apply Kd.N_alloc | apply Kd.N_drewN | apply Kd.N_drew)); exact HO274.out) hb); have n1_ := Aside0.mk (Kd.N_below (by (with_reducible repeat (first | apply Kd.N_alloc | apply Kd.N_drewN | apply Kd.N_drew)); exact HO277.out) hb); have n2_ := Aside0.mk (Kd.N_below (by (with_reducible repeat (first | apply Kd.N_alloc | apply Kd.N_drewN | apply Kd.N_drew)); exact HO282.out) hb); have n3_ := Aside0.mk (blk_below (g := gb278) (o := .cells #[.bool true, .int .i64 (wrap64 ((l0.length : Int) + 1))] 47 (0, 0)) (by (with_reducible repeat (first | refine blk_drewN ?_ _ | refine blk_drew ?_ | refine blk_alloc ?_ _)); exact BK278.out) hb); have n4_ := Aside0.mk (blk_below (g := gb279) (o := .cells #[.bool false, .int .i64 (wrap64 ((l0.length : Int) + 1))] 47 (0, 0)) (by (with_reducible repeat (first | refine blk_drewN ?_ _ | refine blk_drew ?_ | refine blk_alloc ?_ _)); exact BK279.out) hb); have n5_ := Aside0.mk (below_step (by repeat (first | (with_reducible first | exact HB.out | apply below_alloc | apply pw_below_drewN | apply below_drew1 | refine below_set ?_ GE278.out | refine below_set ?_ GE279.out) | exact HB.out)) hb); clear HO274; clear HO277; clear HO282; clear BK278; clear BK279; clear HB; have HO274 := n0_; have HO277 := n1_; have HO282 := n2_; have BK278 := n3_; have BK279 := n4_; have HB := n5_; clear n0_ n1_ n2_ n3_ n4_ n5_; (try clear hb); (try clear hb2); (try clear hk); (try clear hi)))
            go_meet
            case rel => exact ⟨_, (true), (by first | rfl | (simp; done) | (simp [*]; done)), H', ⟨by have := HJ3.out; have := HJ19.out; first | omega | exact Nat.le_refl _⟩, ⟨by (with_reducible repeat (first | apply Kd.N_alloc | apply Kd.N_drewN | apply Kd.N_drew)); exact Kd.N_mono HO277.out (fun _ hk => ⟨hk.1.1.2, hk.1.2⟩)⟩, ⟨by (with_reducible repeat (first | refine blk_drewN ?_ _ | refine blk_drew ?_ | refine blk_alloc ?_ _)); exact BK278.out⟩, ⟨by (with_reducible repeat (first | refine blk_drewN ?_ _ | refine blk_drew ?_ | refine blk_alloc ?_ _)); exact BK279.out⟩, ⟨by repeat (first | (with_reducible first | exact HB.out | apply below_alloc | apply pw_below_drewN | apply below_drew1 | refine below_set ?_ GE278.out | refine below_set ?_ GE279.out) | exact HB.out)⟩⟩
          case rest =>
           clear HC29
           try clear c1
           try clear c2
           try clear p2
           try clear q2
           try clear hx2
           try clear c3
           try clear c4
           try clear c5
           try clear c6
           try clear p6
           try clear c7
           try clear c8
           try clear c9
           try clear c9b0
           try clear c9b1
           try clear c10
           try clear c11
           try clear c11b0
           try clear c12
           try clear c14
           try clear c15
           try clear c18
           try clear c18b0
           try clear c19
           try clear c19b0
           try clear c21
           try clear c21b0
           try clear c21b1
           try clear c22
           try clear c22b0
           try clear c22b1
           try clear c23
           try clear c23b0
           try clear c23b1
           try clear c24
           try clear c25
           try clear c26
           try clear p26
           try clear q26
           try clear hx26
           try clear c28
           try clear c37
           try clear c42
           try clear c44
           try clear c46
           try clear c48
           try clear c53
           try clear c64
           try clear p64
           try clear c75
           try clear c84
           try clear hcz38_0
           try clear hcz38_1
           try clear hcz39_0
           try clear hcz39_1
           try clear hcz54_0
           try clear hcz54_1
           try clear hcz56_0
           try clear hcz56_1
           try clear hcz65_0
           try clear hcz65_1
           try clear hcz67_0
           try clear hcz67_1
           try clear hcz76_0
           try clear hcz76_1
           try clear hcz78_0
           try clear hcz78_1
           try clear hcz85_0
           try clear hcz85_1
           try clear hfz38_0
           try clear hfz38_1
           try clear hfz39_0
           try clear hfz39_1
           try clear hfz54_0
           try clear hfz54_1
           try clear hfz56_0
           try clear hfz56_1
           try clear hfz65_0
           try clear hfz65_1
           try clear hfz67_0
           try clear hfz67_1
           try clear hfz76_0
           try clear hfz76_1
           try clear hfz78_0
           try clear hfz78_1
           try clear hfz85_0
           try clear hfz85_1
           try clear hx267_0
           try clear hx267_1
           try clear hx267_2
           try clear hx267_3
           try clear hx267_4
           try clear hx267_5
           try clear hx267_6
           try clear hx267_7
           try clear hx267_8
           try clear hx267_9
           try clear p2
           try clear p267
           try clear q2
           try clear q267
           obtain ⟨kq, x112_28, rfl, HA, HJ28, HO_9, BK278, BK279, HB⟩ := hcut
           cases kq with
           | zero => exact absurd HA.out (by simp [spinetlaw13_TypesOpen.j2])
           | succ kj28 =>
            have H := HA.out
            clear HA
            simp only [spinetlaw13_TypesOpen.j2] at H
            by_cases c91 : x112_28 = true
            ·
             subst c91
             have H1 : (some false) = some r := by rw [if_pos rfl] at H; exact H
             exact absurd ((Option.some.inj H1).trans hrt.out) (by decide)
            ·
             replace c91 := Bool.eq_false_iff.mpr c91
             subst c91
             have H1 : (spinetlaw13_TypesOpen.l0 kj28 ((rd_T40 l0 a1).f0) y275 0 true (wrap64 ((l0.length : Int) + 1)) false (wrap64 ((l0.length : Int) + 1))) = some r := by rw [if_neg (show ¬ (false = true) by decide)] at H; exact H
             clear H
             have H := H1
             clear H1
             have H' := Aside0.mk H
             clear H
             go_wp2
             go_loopg [12] kj28 (fun kq v12 w' => ∃ (x12_4 : Int), v12 = .int .i64 x12_4 ∧ Aside0 (spinetlaw13_TypesOpen.l0 kq ((rd_T40 l0 a1).f0) y275 x12_4 true (wrap64 ((l0.length : Int) + 1)) false (wrap64 ((l0.length : Int) + 1)) = some r) ∧ Aside0 (kq ≤ kj28) ∧ Aside0 (Kd.N k40 40 w' w.heap.size (fun k_ => k_ ≠ gb278 ∧ k_ ≠ gb279) v276 y275) ∧ Aside0 (w'.heap[gb278]? = some (.cells #[.bool true, .int .i64 (wrap64 ((l0.length : Int) + 1))] 47 (0, 0))) ∧ Aside0 (w'.heap[gb279]? = some (.cells #[.bool false, .int .i64 (wrap64 ((l0.length : Int) + 1))] 47 (0, 0))) ∧ Aside0 (Below w.heap.size w w'))
             case atStart => exact ⟨(0), (by first | rfl | (simp; done) | (simp [*]; done)), H', ⟨Nat.le_refl _⟩, ⟨by (with_reducible repeat (first | apply Kd.N_alloc | apply Kd.N_drewN | apply Kd.N_drew)); exact HO_9.out⟩, ⟨by (with_reducible repeat (first | refine blk_drewN ?_ _ | refine blk_drew ?_ | refine blk_alloc ?_ _)); exact BK278.out⟩, ⟨by (with_reducible repeat (first | refine blk_drewN ?_ _ | refine blk_drew ?_ | refine blk_alloc ?_ _)); exact BK279.out⟩, ⟨by repeat (first | (with_reducible first | exact HB.out | apply below_alloc | apply pw_below_drewN | apply below_drew1 | refine below_set ?_ GE278.out | refine below_set ?_ GE279.out) | exact HB.out)⟩⟩
             case round =>
              clear H'
              try clear c1
              try clear c2
              try clear p2
              try clear q2
              try clear hx2
              try clear c3
              try clear c4
              try clear c5
              try clear c6
              try clear p6
              try clear c7
              try clear c8
              try clear c9
              try clear c9b0
              try clear c9b1
              try clear c10
              try clear c11
              try clear c11b0
              try clear c12
              try clear c14
              try clear c15
              try clear c18
              try clear c18b0
              try clear c19
              try clear c19b0
              try clear c21
              try clear c21b0
              try clear c21b1
              try clear c22
              try clear c22b0
              try clear c22b1
              try clear c23
              try clear c23b0
              try clear c23b1
              try clear c24
              try clear c25
              try clear c26
              try clear p26
              try clear q26
              try clear hx26
              try clear c28
              try clear c37
              try clear c42
              try clear c44
              try clear c46
              try clear c48
              try clear c53
              try clear c64
              try clear p64
              try clear c75
              try clear c84
              try clear c91
              try clear hcz38_0
              try clear hcz38_1
              try clear hcz39_0
              try clear hcz39_1
              try clear hcz54_0
              try clear hcz54_1
              try clear hcz56_0
              try clear hcz56_1
              try clear hcz65_0
              try clear hcz65_1
              try clear hcz67_0
              try clear hcz67_1
              try clear hcz76_0
              try clear hcz76_1
              try clear hcz78_0
              try clear hcz78_1
              try clear hcz85_0
              try clear hcz85_1
              try clear hfz38_0
              try clear hfz38_1
              try clear hfz39_0
              try clear hfz39_1
              try clear hfz54_0
              try clear hfz54_1
              try clear hfz56_0
              try clear hfz56_1
              try clear hfz65_0
              try clear hfz65_1
              try clear hfz67_0
              try clear hfz67_1
              try clear hfz76_0
              try clear hfz76_1
              try clear hfz78_0
              try clear hfz78_1
              try clear hfz85_0
              try clear hfz85_1
              try clear hx267_0
              try clear hx267_1
              try clear hx267_2
              try clear hx267_3
              try clear hx267_4
              try clear hx267_5
              try clear hx267_6
              try clear hx267_7
              try clear hx267_8
              try clear hx267_9
              try clear p2
              try clear p26
              try clear p267
              try clear p6
              try clear p64
              try clear q2
              try clear q26
              try clear q267
              obtain ⟨x12_4, rfl, HA, HK4, HO_9, BK278, BK279, HB⟩ := hrel
              cases gk with
              | zero => exact absurd HA.out (by simp [spinetlaw13_TypesOpen.l0])
              | succ k4 =>
               have H := HA.out
               clear HA
               simp only [spinetlaw13_TypesOpen.l0] at H
               have HC92 := Aside0.mk H
               clear H
               go_upto_region 12 with (fail)
               go_cut [120] (fun v120 wc => ∃ (kq : Nat) (x120_91 : Bool), v120 = .bool x120_91 ∧ Aside0 (spinetlaw13_TypesOpen.j4 kq ((rd_T40 l0 a1).f0) y275 x12_4 x120_91 true (wrap64 ((l0.length : Int) + 1)) false (wrap64 ((l0.length : Int) + 1)) = some r) ∧ Aside0 (kq ≤ k4) ∧ Aside0 (Kd.N k40 40 wc w.heap.size (fun k_ => k_ ≠ gb278 ∧ k_ ≠ gb279) v276 y275) ∧ Aside0 (wc.heap[gb278]? = some (.cells #[.bool true, .int .i64 (wrap64 ((l0.length : Int) + 1))] 47 (0, 0))) ∧ Aside0 (wc.heap[gb279]? = some (.cells #[.bool false, .int .i64 (wrap64 ((l0.length : Int) + 1))] 47 (0, 0))) ∧ Aside0 (Below w.heap.size w wc))
               case first =>
                have H := HC92.out
                clear HC92
                by_cases c93 : x12_4 < (y275.length : Int)
                ·
                 rw [if_pos c93] at H
                 have c93b0 : decide (x12_4 < (y275.length : Int)) = true := decide_eq_true c93
                 clear c93
                 (first | rw [c93b0] | (simp only [i64_w, i32_w]; rw [c93b0]) | skip)
                 have H' := Aside0.mk H
                 clear H
                 obtain ⟨Ao94, co94, eo94⟩ := Kd.N_slice HO_9.out
                 subst eo94
                 go_wp2
                 go_meet
                 case rel => exact ⟨_, (decide (x12_4 < 40)), (by first | rfl | (simp; done) | (simp [*]; done)), H', ⟨by have := HJ3.out; have := HJ19.out; have := HJ28.out; have := HK4.out; first | omega | exact Nat.le_refl _⟩, ⟨by (with_reducible repeat (first | apply Kd.N_alloc | apply Kd.N_drewN | apply Kd.N_drew)); exact HO_9.out⟩, ⟨by (with_reducible repeat (first | refine blk_drewN ?_ _ | refine blk_drew ?_ | refine blk_alloc ?_ _)); exact BK278.out⟩, ⟨by (with_reducible repeat (first | refine blk_drewN ?_ _ | refine blk_drew ?_ | refine blk_alloc ?_ _)); exact BK279.out⟩, ⟨by repeat (first | (with_reducible first | exact HB.out | apply below_alloc | apply pw_below_drewN | apply below_drew1 | refine below_set ?_ GE278.out | refine below_set ?_ GE279.out) | exact HB.out)⟩⟩
                ·
                 rw [if_neg c93] at H
                 have c93b0 : decide (x12_4 < (y275.length : Int)) = false := decide_eq_false c93
                 clear c93
                 (first | rw [c93b0] | (simp only [i64_w, i32_w]; rw [c93b0]) | skip)
                 have H' := Aside0.mk H
                 clear H
                 obtain ⟨Ao95, co95, eo95⟩ := Kd.N_slice HO_9.out
                 subst eo95
                 go_wp2
                 go_meet
                 case rel => exact ⟨_, (false), (by first | rfl | (simp; done) | (simp [*]; done)), H', ⟨by have := HJ3.out; have := HJ19.out; have := HJ28.out; have := HK4.out; first | omega | exact Nat.le_refl _⟩, ⟨by (with_reducible repeat (first | apply Kd.N_alloc | apply Kd.N_drewN | apply Kd.N_drew)); exact HO_9.out⟩, ⟨by (with_reducible repeat (first | refine blk_drewN ?_ _ | refine blk_drew ?_ | refine blk_alloc ?_ _)); exact BK278.out⟩, ⟨by (with_reducible repeat (first | refine blk_drewN ?_ _ | refine blk_drew ?_ | refine blk_alloc ?_ _)); exact BK279.out⟩, ⟨by repeat (first | (with_reducible first | exact HB.out | apply below_alloc | apply pw_below_drewN | apply below_drew1 | refine below_set ?_ GE278.out | refine below_set ?_ GE279.out) | exact HB.out)⟩⟩
               case rest =>
                clear HC92
                try clear c1
                try clear c2
                try clear p2
                try clear q2
                try clear hx2
                try clear c3
                try clear c4
                try clear c5
                try clear c6
                try clear p6
                try clear c7
                try clear c8
                try clear c9
                try clear c9b0
                try clear c9b1
                try clear c10
                try clear c11
                try clear c11b0
                try clear c12
                try clear c14
                try clear c15
                try clear c18
                try clear c18b0
                try clear c19
                try clear c19b0
                try clear c21
                try clear c21b0
                try clear c21b1
                try clear c22
                try clear c22b0
                try clear c22b1
                try clear c23
                try clear c23b0
                try clear c23b1
                try clear c24
                try clear c25
                try clear c26
                try clear p26
                try clear q26
                try clear hx26
                try clear c28
                try clear c37
                try clear c42
                try clear c44
                try clear c46
                try clear c48
                try clear c53
                try clear c64
                try clear p64
                try clear c75
                try clear c84
                try clear c91
                try clear c93
                try clear c93b0
                try clear hcz38_0
                try clear hcz38_1
                try clear hcz39_0
                try clear hcz39_1
                try clear hcz54_0
                try clear hcz54_1
                try clear hcz56_0
                try clear hcz56_1
                try clear hcz65_0
                try clear hcz65_1
                try clear hcz67_0
                try clear hcz67_1
                try clear hcz76_0
                try clear hcz76_1
                try clear hcz78_0
                try clear hcz78_1
                try clear hcz85_0
                try clear hcz85_1
                try clear hfz38_0
                try clear hfz38_1
                try clear hfz39_0
                try clear hfz39_1
                try clear hfz54_0
                try clear hfz54_1
                try clear hfz56_0
                try clear hfz56_1
                try clear hfz65_0
                try clear hfz65_1
                try clear hfz67_0
                try clear hfz67_1
                try clear hfz76_0
                try clear hfz76_1
                try clear hfz78_0
                try clear hfz78_1
                try clear hfz85_0
                try clear hfz85_1
                try clear hx267_0
                try clear hx267_1
                try clear hx267_2
                try clear hx267_3
                try clear hx267_4
                try clear hx267_5
                try clear hx267_6
                try clear hx267_7
                try clear hx267_8
                try clear hx267_9
                try clear p2
                try clear p26
                try clear p267
                try clear p6
                try clear p64
                try clear q2
                try clear q26
                try clear q267
                obtain ⟨kq, x120_91, rfl, HA, HJ91, HO_9, BK278, BK279, HB⟩ := hcut
                cases kq with
                | zero => exact absurd HA.out (by simp [spinetlaw13_TypesOpen.j4])
                | succ kj91 =>
                 have H := HA.out
                 clear HA
                 simp only [spinetlaw13_TypesOpen.j4] at H
                 by_cases c96 : x120_91 = true
                 ·
                  subst c96
                  have H1 : ((types_Fits.f kj91 y275 x12_4 true (wrap64 ((l0.length : Int) + 1))).bind fun t291 => (if t291 = true then ((types_Fits.f kj91 y275 x12_4 false (wrap64 ((l0.length : Int) + 1))).bind fun t292 => (if t292 = true then (spinetlaw13_TypesOpen.l0 kj91 ((rd_T40 l0 a1).f0) y275 (wrap64 (x12_4 + 1)) true (wrap64 ((l0.length : Int) + 1)) false (wrap64 ((l0.length : Int) + 1))) else (some false))) else (spinetlaw13_TypesOpen.l0 kj91 ((rd_T40 l0 a1).f0) y275 (wrap64 (x12_4 + 1)) true (wrap64 ((l0.length : Int) + 1)) false (wrap64 ((l0.length : Int) + 1))))) = some r := by rw [if_pos rfl] at H; exact H
                  clear H
                  have H := H1
                  clear H1
                  replace H := Option.bind_eq_some_iff.mp H
                  obtain ⟨t291, A970, H⟩ := H
                  replace H : (if t291 = true then ((types_Fits.f kj91 y275 x12_4 false (wrap64 ((l0.length : Int) + 1))).bind fun t292 => (if t292 = true then (spinetlaw13_TypesOpen.l0 kj91 ((rd_T40 l0 a1).f0) y275 (wrap64 (x12_4 + 1)) true (wrap64 ((l0.length : Int) + 1)) false (wrap64 ((l0.length : Int) + 1))) else (some false))) else (spinetlaw13_TypesOpen.l0 kj91 ((rd_T40 l0 a1).f0) y275 (wrap64 (x12_4 + 1)) true (wrap64 ((l0.length : Int) + 1)) false (wrap64 ((l0.length : Int) + 1)))) = some r := H
                  have A97 := Aside0.mk A970
                  clear A970
                  by_cases c98 : t291 = true
                  ·
                   subst c98
                   have H1 : ((types_Fits.f kj91 y275 x12_4 false (wrap64 ((l0.length : Int) + 1))).bind fun t292 => (if t292 = true then (spinetlaw13_TypesOpen.l0 kj91 ((rd_T40 l0 a1).f0) y275 (wrap64 (x12_4 + 1)) true (wrap64 ((l0.length : Int) + 1)) false (wrap64 ((l0.length : Int) + 1))) else (some false))) = some r := by rw [if_pos rfl] at H; exact H
                   clear H
                   have H := H1
                   clear H1
                   replace H := Option.bind_eq_some_iff.mp H
                   obtain ⟨t292, A990, H⟩ := H
                   replace H : (if t292 = true then (spinetlaw13_TypesOpen.l0 kj91 ((rd_T40 l0 a1).f0) y275 (wrap64 (x12_4 + 1)) true (wrap64 ((l0.length : Int) + 1)) false (wrap64 ((l0.length : Int) + 1))) else (some false)) = some r := H
                   have A99 := Aside0.mk A990
                   clear A990
                   by_cases c100 : t292 = true
                   ·
                    subst c100
                    have H1 : (spinetlaw13_TypesOpen.l0 kj91 ((rd_T40 l0 a1).f0) y275 (wrap64 (x12_4 + 1)) true (wrap64 ((l0.length : Int) + 1)) false (wrap64 ((l0.length : Int) + 1))) = some r := by rw [if_pos rfl] at H; exact H
                    clear H
                    have H := H1
                    clear H1
                    have H' := Aside0.mk H
                    clear H
                    have hnb101 := NB278_279.out
                    have hnc101 := NB279_278.out
                    have hcz102_0 : wc.cell? ⟨gb278, 0, none⟩ = some (.bool true) := (blk_cell BK278.out 0).trans rfl
                    have hcz102_1 : wc.cell? ⟨gb278, 1, none⟩ = some (.int .i64 (wrap64 ((l0.length : Int) + 1))) := (blk_cell BK278.out 1).trans rfl
                    have hfz102_0 := blk_frozen BK278.out 0
                    have hfz102_1 := blk_frozen BK278.out 1
                    obtain ⟨Ao103, co103, eo103⟩ := Kd.N_slice HO_9.out
                    subst eo103
                    go_wp2_with (first | ((with_reducible refine gate_callee (f := 32) rfl ?_); refine goesL_ (some 126) rfl rfl Try.func32 (by kernel_rfl) rfl #[.slice Ao103 y275.length co103, .int .i64 x12_4, .agg #[.bool true, .int .i64 (wrap64 ((l0.length : Int) + 1))]] rfl (by (try simp only [List.map_toArray, List.map_cons, List.map_nil]); first | done | rfl | (simp only [List.length_drop, List.length_take]; rfl)) ?_; (with_reducible refine (types_Fits.calls kj91 _ _ y275 x12_4 true (wrap64 ((l0.length : Int) + 1)) true _ ?side1 ?side2 A97.out).mono ?_); (case side1 => repeat (first | exact (Kd.N_reads' HO_9.out).2.2 | (with_reducible refine Kd.C_alloc ?_ _) | (with_reducible refine Kd.C_drewN ?_ _) | (with_reducible refine Kd.C_drew ?_))); (case side2 => exact (Kd.N_reads' HO_9.out).2.1); rintro e w104 ⟨rfl, hb⟩; refine ⟨_, rfl, ?_⟩; have n0_ := Aside0.mk (Kd.N_below (by (with_reducible repeat (first | apply Kd.N_alloc | apply Kd.N_drewN | apply Kd.N_drew)); exact HO_9.out) hb); have n1_ := Aside0.mk (blk_below (g := gb278) (o := .cells #[.bool true, .int .i64 (wrap64 ((l0.length : Int) + 1))] 47 (0, 0)) (by (with_reducible repeat (first | refine blk_drewN ?_ _ | refine blk_drew ?_ | refine blk_alloc ?_ _)); exact BK278.out) hb); have n2_ := Aside0.mk (blk_below (g := gb279) (o := .cells #[.bool false, .int .i64 (wrap64 ((l0.length : Int) + 1))] 47 (0, 0)) (by (with_reducible repeat (first | refine blk_drewN ?_ _ | refine blk_drew ?_ | refine blk_alloc ?_ _)); exact BK279.out) hb); have n3_ := Aside0.mk (below_step (by repeat (first | (with_reducible first | exact HB.out | apply below_alloc | apply pw_below_drewN | apply below_drew1 | refine below_set ?_ GE278.out | refine below_set ?_ GE279.out) | exact HB.out)) hb); clear HO_9; clear BK278; clear BK279; clear HB; have HO_9 := n0_; have BK278 := n1_; have BK279 := n2_; have HB := n3_; clear n0_ n1_ n2_ n3_; (try clear hb); (try clear hb2); (try clear hk); (try clear hi); have hcz105_0 : w104.cell? ⟨gb279, 0, none⟩ = some (.bool false) := (blk_cell BK279.out 0).trans rfl; have hcz105_1 : w104.cell? ⟨gb279, 1, none⟩ = some (.int .i64 (wrap64 ((l0.length : Int) + 1))) := (blk_cell BK279.out 1).trans rfl; have hfz105_0 := blk_frozen BK279.out 0; have hfz105_1 := blk_frozen BK279.out 1) | (go_at_call 32; (with_reducible refine (types_Fits.calls kj91 _ _ y275 x12_4 false (wrap64 ((l0.length : Int) + 1)) true _ ?side1 ?side2 A99.out).mono ?_); (case side1 => repeat (first | exact (Kd.N_reads' HO_9.out).2.2 | (with_reducible refine Kd.C_alloc ?_ _) | (with_reducible refine Kd.C_drewN ?_ _) | (with_reducible refine Kd.C_drew ?_))); (case side2 => exact (Kd.N_reads' HO_9.out).2.1); rintro e w106 ⟨rfl, hb⟩; have n0_ := Aside0.mk (Kd.N_below (by (with_reducible repeat (first | apply Kd.N_alloc | apply Kd.N_drewN | apply Kd.N_drew)); exact HO_9.out) hb); have n1_ := Aside0.mk (blk_below (g := gb278) (o := .cells #[.bool true, .int .i64 (wrap64 ((l0.length : Int) + 1))] 47 (0, 0)) (by (with_reducible repeat (first | refine blk_drewN ?_ _ | refine blk_drew ?_ | refine blk_alloc ?_ _)); exact BK278.out) hb); have n2_ := Aside0.mk (blk_below (g := gb279) (o := .cells #[.bool false, .int .i64 (wrap64 ((l0.length : Int) + 1))] 47 (0, 0)) (by (with_reducible repeat (first | refine blk_drewN ?_ _ | refine blk_drew ?_ | refine blk_alloc ?_ _)); exact BK279.out) hb); have n3_ := Aside0.mk (below_step (by repeat (first | (with_reducible first | exact HB.out | apply below_alloc | apply pw_below_drewN | apply below_drew1 | refine below_set ?_ GE278.out | refine below_set ?_ GE279.out) | exact HB.out)) hb); clear HO_9; clear BK278; clear BK279; clear HB; have HO_9 := n0_; have BK278 := n1_; have BK279 := n2_; have HB := n3_; clear n0_ n1_ n2_ n3_; (try clear hb); (try clear hb2); (try clear hk); (try clear hi)))
                    go_roundg kj91
                    case measure => have := HJ3.out; have := HJ19.out; have := HJ28.out; have := HK4.out; have := HJ91.out; omega
                    case rel => exact ⟨(wrap64 (x12_4 + 1)), (by first | rfl | (simp; done) | (simp [*]; done)), H', ⟨by have := HJ3.out; have := HJ19.out; have := HJ28.out; have := HK4.out; have := HJ91.out; omega⟩, ⟨by (with_reducible repeat (first | apply Kd.N_alloc | apply Kd.N_drewN | apply Kd.N_drew)); exact HO_9.out⟩, ⟨by (with_reducible repeat (first | refine blk_drewN ?_ _ | refine blk_drew ?_ | refine blk_alloc ?_ _)); exact BK278.out⟩, ⟨by (with_reducible repeat (first | refine blk_drewN ?_ _ | refine blk_drew ?_ | refine blk_alloc ?_ _)); exact BK279.out⟩, ⟨by repeat (first | (with_reducible first | exact HB.out | apply below_alloc | apply pw_below_drewN | apply below_drew1 | refine below_set ?_ GE278.out | refine below_set ?_ GE279.out) | exact HB.out)⟩⟩
                   ·
                    replace c100 := Bool.eq_false_iff.mpr c100
                    subst c100
                    have H1 : (some false) = some r := by rw [if_neg (show ¬ (false = true) by decide)] at H; exact H
                    exact absurd ((Option.some.inj H1).trans hrt.out) (by decide)
                  ·
                   replace c98 := Bool.eq_false_iff.mpr c98
                   subst c98
                   have H1 : (spinetlaw13_TypesOpen.l0 kj91 ((rd_T40 l0 a1).f0) y275 (wrap64 (x12_4 + 1)) true (wrap64 ((l0.length : Int) + 1)) false (wrap64 ((l0.length : Int) + 1))) = some r := by rw [if_neg (show ¬ (false = true) by decide)] at H; exact H
                   clear H
                   have H := H1
                   clear H1
                   have H' := Aside0.mk H
                   clear H
                   have hnb113 := NB278_279.out
                   have hnc113 := NB279_278.out
                   have hcz114_0 : wc.cell? ⟨gb278, 0, none⟩ = some (.bool true) := (blk_cell BK278.out 0).trans rfl
                   have hcz114_1 : wc.cell? ⟨gb278, 1, none⟩ = some (.int .i64 (wrap64 ((l0.length : Int) + 1))) := (blk_cell BK278.out 1).trans rfl
                   have hfz114_0 := blk_frozen BK278.out 0
                   have hfz114_1 := blk_frozen BK278.out 1
                   obtain ⟨Ao115, co115, eo115⟩ := Kd.N_slice HO_9.out
                   subst eo115
                   go_wp2_with (first | ((with_reducible refine gate_callee (f := 32) rfl ?_); refine goesL_ (some 126) rfl rfl Try.func32 (by kernel_rfl) rfl #[.slice Ao115 y275.length co115, .int .i64 x12_4, .agg #[.bool true, .int .i64 (wrap64 ((l0.length : Int) + 1))]] rfl (by (try simp only [List.map_toArray, List.map_cons, List.map_nil]); first | done | rfl | (simp only [List.length_drop, List.length_take]; rfl)) ?_; (with_reducible refine (types_Fits.calls kj91 _ _ y275 x12_4 true (wrap64 ((l0.length : Int) + 1)) false _ ?side1 ?side2 A97.out).mono ?_); (case side1 => repeat (first | exact (Kd.N_reads' HO_9.out).2.2 | (with_reducible refine Kd.C_alloc ?_ _) | (with_reducible refine Kd.C_drewN ?_ _) | (with_reducible refine Kd.C_drew ?_))); (case side2 => exact (Kd.N_reads' HO_9.out).2.1); rintro e w116 ⟨rfl, hb⟩; refine ⟨_, rfl, ?_⟩; have n0_ := Aside0.mk (Kd.N_below (by (with_reducible repeat (first | apply Kd.N_alloc | apply Kd.N_drewN | apply Kd.N_drew)); exact HO_9.out) hb); have n1_ := Aside0.mk (blk_below (g := gb278) (o := .cells #[.bool true, .int .i64 (wrap64 ((l0.length : Int) + 1))] 47 (0, 0)) (by (with_reducible repeat (first | refine blk_drewN ?_ _ | refine blk_drew ?_ | refine blk_alloc ?_ _)); exact BK278.out) hb); have n2_ := Aside0.mk (blk_below (g := gb279) (o := .cells #[.bool false, .int .i64 (wrap64 ((l0.length : Int) + 1))] 47 (0, 0)) (by (with_reducible repeat (first | refine blk_drewN ?_ _ | refine blk_drew ?_ | refine blk_alloc ?_ _)); exact BK279.out) hb); have n3_ := Aside0.mk (below_step (by repeat (first | (with_reducible first | exact HB.out | apply below_alloc | apply pw_below_drewN | apply below_drew1 | refine below_set ?_ GE278.out | refine below_set ?_ GE279.out) | exact HB.out)) hb); clear HO_9; clear BK278; clear BK279; clear HB; have HO_9 := n0_; have BK278 := n1_; have BK279 := n2_; have HB := n3_; clear n0_ n1_ n2_ n3_; (try clear hb); (try clear hb2); (try clear hk); (try clear hi)))
                   go_roundg kj91
                   case measure => have := HJ3.out; have := HJ19.out; have := HJ28.out; have := HK4.out; have := HJ91.out; omega
                   case rel => exact ⟨(wrap64 (x12_4 + 1)), (by first | rfl | (simp; done) | (simp [*]; done)), H', ⟨by have := HJ3.out; have := HJ19.out; have := HJ28.out; have := HK4.out; have := HJ91.out; omega⟩, ⟨by (with_reducible repeat (first | apply Kd.N_alloc | apply Kd.N_drewN | apply Kd.N_drew)); exact HO_9.out⟩, ⟨by (with_reducible repeat (first | refine blk_drewN ?_ _ | refine blk_drew ?_ | refine blk_alloc ?_ _)); exact BK278.out⟩, ⟨by (with_reducible repeat (first | refine blk_drewN ?_ _ | refine blk_drew ?_ | refine blk_alloc ?_ _)); exact BK279.out⟩, ⟨by repeat (first | (with_reducible first | exact HB.out | apply below_alloc | apply pw_below_drewN | apply below_drew1 | refine below_set ?_ GE278.out | refine below_set ?_ GE279.out) | exact HB.out)⟩⟩
                 ·
                  replace c96 := Bool.eq_false_iff.mpr c96
                  subst c96
                  have H1 : ((types_Fits.f kj91 y275 6 false (wrap64 ((l0.length : Int) + 1))).bind fun t288 => (if (t288 == (((rd_T40 l0 a1).f0) == 3)) = true then ((types_Fits.f kj91 y275 6 true (wrap64 ((l0.length : Int) + 1))).bind fun t289 => (if t289 = true then (some false) else ((spinetlaw13_wakes.f kj91).bind fun t290 => (some t290)))) else (some false))) = some r := by rw [if_neg (show ¬ (false = true) by decide)] at H; exact H
                  clear H
                  have H := H1
                  clear H1
                  replace H := Option.bind_eq_some_iff.mp H
                  obtain ⟨t288, A1170, H⟩ := H
                  replace H : (if (t288 == (((rd_T40 l0 a1).f0) == 3)) = true then ((types_Fits.f kj91 y275 6 true (wrap64 ((l0.length : Int) + 1))).bind fun t289 => (if t289 = true then (some false) else ((spinetlaw13_wakes.f kj91).bind fun t290 => (some t290)))) else (some false)) = some r := H
                  have A117 := Aside0.mk A1170
                  clear A1170
                  by_cases c118 : (t288 == (((rd_T40 l0 a1).f0) == 3)) = true
                  ·
                   rw [if_pos c118] at H
                   have c118b0 : (t288 == (((rd_T40 l0 a1).f0) == 3)) = true := c118
                   (try (have c118b1 : decide (t288 = (((rd_T40 l0 a1).f0) == 3)) = true := by simpa using c118))
                   (try (have c118b2 : (t288 == (((rd_T40 l0 a1).f0) == 3)) = true := by simpa using c118))
                   clear c118
                   replace H := Option.bind_eq_some_iff.mp H
                   obtain ⟨t289, A1190, H⟩ := H
                   replace H : (if t289 = true then (some false) else ((spinetlaw13_wakes.f kj91).bind fun t290 => (some t290))) = some r := H
                   have A119 := Aside0.mk A1190
                   clear A1190
                   by_cases c120 : t289 = true
                   ·
                    subst c120
                    have H1 : (some false) = some r := by rw [if_pos rfl] at H; exact H
                    exact absurd ((Option.some.inj H1).trans hrt.out) (by decide)
                   ·
                    replace c120 := Bool.eq_false_iff.mpr c120
                    subst c120
                    have H1 : ((spinetlaw13_wakes.f kj91).bind fun t290 => (some t290)) = some r := by rw [if_neg (show ¬ (false = true) by decide)] at H; exact H
                    clear H
                    have H := H1
                    clear H1
                    replace H := Option.bind_eq_some_iff.mp H
                    obtain ⟨t290, A1270, H⟩ := H
                    replace H : (some t290) = some r := H
                    have A127 := Aside0.mk A1270
                    clear A1270
                    obtain rfl := Option.some.inj H
                    have hnb128 := NB279_278.out
                    have hnc128 := NB278_279.out
                    have hcz129_0 : wc.cell? ⟨gb279, 0, none⟩ = some (.bool false) := (blk_cell BK279.out 0).trans rfl
                    have hcz129_1 : wc.cell? ⟨gb279, 1, none⟩ = some (.int .i64 (wrap64 ((l0.length : Int) + 1))) := (blk_cell BK279.out 1).trans rfl
                    have hfz129_0 := blk_frozen BK279.out 0
                    have hfz129_1 := blk_frozen BK279.out 1
                    obtain ⟨Ao130, co130, eo130⟩ := Kd.N_slice HO_9.out
                    subst eo130
                    go_wp2_with (first | ((with_reducible refine gate_callee (f := 32) rfl ?_); refine goesL_ (some 136) rfl rfl Try.func32 (by kernel_rfl) rfl #[.slice Ao130 y275.length co130, .int .i64 6, .agg #[.bool false, .int .i64 (wrap64 ((l0.length : Int) + 1))]] rfl (by (try simp only [List.map_toArray, List.map_cons, List.map_nil]); first | done | rfl | (simp only [List.length_drop, List.length_take]; rfl)) ?_; (with_reducible refine (types_Fits.calls kj91 _ _ y275 6 false (wrap64 ((l0.length : Int) + 1)) t288 _ ?side1 ?side2 A117.out).mono ?_); (case side1 => repeat (first | exact (Kd.N_reads' HO_9.out).2.2 | (with_reducible refine Kd.C_alloc ?_ _) | (with_reducible refine Kd.C_drewN ?_ _) | (with_reducible refine Kd.C_drew ?_))); (case side2 => exact (Kd.N_reads' HO_9.out).2.1); rintro e w131 ⟨rfl, hb⟩; refine ⟨_, rfl, ?_⟩; have n0_ := Aside0.mk (Kd.N_below (by (with_reducible repeat (first | apply Kd.N_alloc | apply Kd.N_drewN | apply Kd.N_drew)); exact HO_9.out) hb); have n1_ := Aside0.mk (blk_below (g := gb278) (o := .cells #[.bool true, .int .i64 (wrap64 ((l0.length : Int) + 1))] 47 (0, 0)) (by (with_reducible repeat (first | refine blk_drewN ?_ _ | refine blk_drew ?_ | refine blk_alloc ?_ _)); exact BK278.out) hb); have n2_ := Aside0.mk (blk_below (g := gb279) (o := .cells #[.bool false, .int .i64 (wrap64 ((l0.length : Int) + 1))] 47 (0, 0)) (by (with_reducible repeat (first | refine blk_drewN ?_ _ | refine blk_drew ?_ | refine blk_alloc ?_ _)); exact BK279.out) hb); have n3_ := Aside0.mk (below_step (by repeat (first | (with_reducible first | exact HB.out | apply below_alloc | apply pw_below_drewN | apply below_drew1 | refine below_set ?_ GE278.out | refine below_set ?_ GE279.out) | exact HB.out)) hb); clear HO_9; clear BK278; clear BK279; clear HB; have HO_9 := n0_; have BK278 := n1_; have BK279 := n2_; have HB := n3_; clear n0_ n1_ n2_ n3_; (try clear hb); (try clear hb2); (try clear hk); (try clear hi); have hcz132_0 : w131.cell? ⟨gb278, 0, none⟩ = some (.bool true) := (blk_cell BK278.out 0).trans rfl; have hcz132_1 : w131.cell? ⟨gb278, 1, none⟩ = some (.int .i64 (wrap64 ((l0.length : Int) + 1))) := (blk_cell BK278.out 1).trans rfl; have hfz132_0 := blk_frozen BK278.out 0; have hfz132_1 := blk_frozen BK278.out 1) | (go_at_call 32; (with_reducible refine (types_Fits.calls kj91 _ _ y275 6 true (wrap64 ((l0.length : Int) + 1)) false _ ?side1 ?side2 A119.out).mono ?_); (case side1 => repeat (first | exact (Kd.N_reads' HO_9.out).2.2 | (with_reducible refine Kd.C_alloc ?_ _) | (with_reducible refine Kd.C_drewN ?_ _) | (with_reducible refine Kd.C_drew ?_))); (case side2 => exact (Kd.N_reads' HO_9.out).2.1); rintro e w133 ⟨rfl, hb⟩; have n0_ := Aside0.mk (Kd.N_below (by (with_reducible repeat (first | apply Kd.N_alloc | apply Kd.N_drewN | apply Kd.N_drew)); exact HO_9.out) hb); have n1_ := Aside0.mk (blk_below (g := gb278) (o := .cells #[.bool true, .int .i64 (wrap64 ((l0.length : Int) + 1))] 47 (0, 0)) (by (with_reducible repeat (first | refine blk_drewN ?_ _ | refine blk_drew ?_ | refine blk_alloc ?_ _)); exact BK278.out) hb); have n2_ := Aside0.mk (blk_below (g := gb279) (o := .cells #[.bool false, .int .i64 (wrap64 ((l0.length : Int) + 1))] 47 (0, 0)) (by (with_reducible repeat (first | refine blk_drewN ?_ _ | refine blk_drew ?_ | refine blk_alloc ?_ _)); exact BK279.out) hb); have n3_ := Aside0.mk (below_step (by repeat (first | (with_reducible first | exact HB.out | apply below_alloc | apply pw_below_drewN | apply below_drew1 | refine below_set ?_ GE278.out | refine below_set ?_ GE279.out) | exact HB.out)) hb); clear HO_9; clear BK278; clear BK279; clear HB; have HO_9 := n0_; have BK278 := n1_; have BK279 := n2_; have HB := n3_; clear n0_ n1_ n2_ n3_; (try clear hb); (try clear hb2); (try clear hk); (try clear hi)) | (go_at_call 24; (with_reducible refine (spinetlaw13_wakes.calls kj91  t290 _ A127.out).mono ?_); rintro e w134 ⟨rfl, hb⟩; have n0_ := Aside0.mk (Kd.N_below (by (with_reducible repeat (first | apply Kd.N_alloc | apply Kd.N_drewN | apply Kd.N_drew)); exact HO_9.out) hb); have n1_ := Aside0.mk (blk_below (g := gb278) (o := .cells #[.bool true, .int .i64 (wrap64 ((l0.length : Int) + 1))] 47 (0, 0)) (by (with_reducible repeat (first | refine blk_drewN ?_ _ | refine blk_drew ?_ | refine blk_alloc ?_ _)); exact BK278.out) hb); have n2_ := Aside0.mk (blk_below (g := gb279) (o := .cells #[.bool false, .int .i64 (wrap64 ((l0.length : Int) + 1))] 47 (0, 0)) (by (with_reducible repeat (first | refine blk_drewN ?_ _ | refine blk_drew ?_ | refine blk_alloc ?_ _)); exact BK279.out) hb); have n3_ := Aside0.mk (below_step (by repeat (first | (with_reducible first | exact HB.out | apply below_alloc | apply pw_below_drewN | apply below_drew1 | refine below_set ?_ GE278.out | refine below_set ?_ GE279.out) | exact HB.out)) hb); clear HO_9; clear BK278; clear BK279; clear HB; have HO_9 := n0_; have BK278 := n1_; have BK279 := n2_; have HB := n3_; clear n0_ n1_ n2_ n3_; (try clear hb); (try clear hb2); (try clear hk); (try clear hi)))
                    go_ret
                    exact ⟨by first | rfl | (simp [errW_none, errW_some] <;> rfl) | (simp [*, errW_none, errW_some] <;> rfl), by repeat (first | (with_reducible first | exact HB.out | apply below_alloc | apply pw_below_drewN | apply below_drew1 | refine below_set ?_ GE278.out | refine below_set ?_ GE279.out) | exact HB.out)⟩
                  ·
                   rw [if_neg c118] at H
                   exact absurd ((Option.some.inj H).trans hrt.out) (by decide)
         ·
          rw [if_neg c28] at H
          exact absurd H (by simp)
     ·
      rw [if_neg c19] at H
      exact absurd H (by simp)
    ·
     rw [if_neg c18] at H
     exact absurd H (by simp)
end
end Go.Proofs.Ytgnbemgeiloegaa.PTypesGoods
