import Derived.Test.YtgnbemgeiloegaaMTgPr
import Derived.Test.YtgnbemgeiloegaaMLyV
import Derived.Test.YtgnbemgeiloegaaMEW
import Derived.Test.YtgnbemgeiloegaaMEPTypesGoodsx3
import Derived.Test.YtgnbemgeiloegaaMETgOpn
namespace Go.Proofs.Ytgnbemgeiloegaa.PTypesGoods
open Go.RowKit Go.Proofs.YtgnbemgeiloegaaW.PrintWords Go.Proofs.YtgnbemgeiloegaaW.PrintLast Go.Proofs.YtgnbemgeiloegaaW.PrintMore
attribute [local go_sem] max2_int min2_int max_two min_two max_three min_three max_four min_four
set_option linter.unusedVariables false
set_option linter.unusedSimpArgs false
noncomputable section
def spinetlaw14_wakes.f (k : Nat)  : Option (Bool) := (spinetref13_Basic.f k).bind fun t112 => (if t112.length < 1099511627776 then ((some (t112 ++ [(⟨9, (⟨#[65]⟩ : ByteArray), (⟨#[]⟩ : ByteArray), 0, 0, 0, (([(⟨(⟨#[97]⟩ : ByteArray), false, 3⟩ : S42), (⟨(⟨#[98]⟩ : ByteArray), false, 2⟩ : S42), (⟨(⟨#[99]⟩ : ByteArray), false, 1⟩ : S42), (⟨(⟨#[100]⟩ : ByteArray), false, 3⟩ : S42)] : List (S42))), ([] : List (S47)), 0, 0⟩ : S40)] : List (S40))).bind fun y118 => ((layout_Offset.f y118 7 (⟨#[99]⟩ : ByteArray)).bind fun bt121 => ((layout_Vars.f y118 (([3, 3, 1] : List Int))).bind fun bt127 => ((layout_Size.f y118 7).bind fun t131 => (if t131 = 12 then (if bt121.2.2 = true then (if bt121.1 = 4 then (if bt121.2.1 = 1 then (if bt127.2 = 8 then ((spinetkeep_Same.f k bt127.1 (([0, 1, 4] : List Int))).bind fun t135 => (some t135)) else (some false)) else (some false)) else (some false)) else (some false)) else (some false)))))) else (none))
theorem spinetlaw14_wakes.mono : ∀ k, LeO (spinetlaw14_wakes.f k ) (spinetlaw14_wakes.f (k + 1) ) := by
 intro  k
 unfold spinetlaw14_wakes.f
 repeat' first
  | (with_reducible exact spinetkeep_Same.mono _ _ _)
  | (with_reducible exact spinetref13_Basic.mono _)
  | (with_reducible exact LeO.refl _)
  | (with_reducible exact LeO.none _)
  | (with_reducible refine LeO.ite ?_ ?_)
  | (with_reducible refine LeO.bind ?_ (fun _ => ?_))
  | exact spinetkeep_Same.mono _ _ _
  | exact spinetref13_Basic.mono _
  | exact LeO.none _
  | refine LeO.ite ?_ ?_
  | refine LeO.bind ?_ (fun _ => ?_)
set_option maxHeartbeats 8000000 in
set_option maxRecDepth 100000 in
theorem spinetlaw14_wakes.calls0 (k : Nat)  (r : Bool) (hrt : Aside0 (r = true)) (w : World) (h : spinetlaw14_wakes.f k  = some r) :
 Calls Try.prog 13 #[] w fun e w' => e = .returned (.bool r) ∧ Below w.heap.size w w' := by
 have hu42 := Try.underlying42
 have hu40 := Try.underlying40
 have HB := Aside0.mk (Below.refl w.heap.size w)
 have H : ((spinetref13_Basic.f k).bind fun t112 => (if t112.length < 1099511627776 then ((some (t112 ++ [(⟨9, (⟨#[65]⟩ : ByteArray), (⟨#[]⟩ : ByteArray), 0, 0, 0, (([(⟨(⟨#[97]⟩ : ByteArray), false, 3⟩ : S42), (⟨(⟨#[98]⟩ : ByteArray), false, 2⟩ : S42), (⟨(⟨#[99]⟩ : ByteArray), false, 1⟩ : S42), (⟨(⟨#[100]⟩ : ByteArray), false, 3⟩ : S42)] : List (S42))), ([] : List (S47)), 0, 0⟩ : S40)] : List (S40))).bind fun y118 => ((layout_Offset.f y118 7 (⟨#[99]⟩ : ByteArray)).bind fun bt121 => ((layout_Vars.f y118 (([3, 3, 1] : List Int))).bind fun bt127 => ((layout_Size.f y118 7).bind fun t131 => (if t131 = 12 then (if bt121.2.2 = true then (if bt121.1 = 4 then (if bt121.2.1 = 1 then (if bt127.2 = 8 then ((spinetkeep_Same.f k bt127.1 (([0, 1, 4] : List Int))).bind fun t135 => (some t135)) else (some false)) else (some false)) else (some false)) else (some false)) else (some false)))))) else (none))) = some r := h
 clear h
 replace H := Option.bind_eq_some_iff.mp H
 obtain ⟨t112, A10, H⟩ := H
 replace H : (if t112.length < 1099511627776 then ((some (t112 ++ [(⟨9, (⟨#[65]⟩ : ByteArray), (⟨#[]⟩ : ByteArray), 0, 0, 0, (([(⟨(⟨#[97]⟩ : ByteArray), false, 3⟩ : S42), (⟨(⟨#[98]⟩ : ByteArray), false, 2⟩ : S42), (⟨(⟨#[99]⟩ : ByteArray), false, 1⟩ : S42), (⟨(⟨#[100]⟩ : ByteArray), false, 3⟩ : S42)] : List (S42))), ([] : List (S47)), 0, 0⟩ : S40)] : List (S40))).bind fun y118 => ((layout_Offset.f y118 7 (⟨#[99]⟩ : ByteArray)).bind fun bt121 => ((layout_Vars.f y118 (([3, 3, 1] : List Int))).bind fun bt127 => ((layout_Size.f y118 7).bind fun t131 => (if t131 = 12 then (if bt121.2.2 = true then (if bt121.1 = 4 then (if bt121.2.1 = 1 then (if bt127.2 = 8 then ((spinetkeep_Same.f k bt127.1 (([0, 1, 4] : List Int))).bind fun t135 => (some t135)) else (some false)) else (some false)) else (some false)) else (some false)) else (some false)))))) else (none)) = some r := H
 have A1 := Aside0.mk A10
 clear A10
 obtain ⟨y115, hy115⟩ : ∃ y_ : List (S42), y_ = (([(⟨(⟨#[97]⟩ : ByteArray), false, 3⟩ : S42), (⟨(⟨#[98]⟩ : ByteArray), false, 2⟩ : S42), (⟨(⟨#[99]⟩ : ByteArray), false, 1⟩ : S42), (⟨(⟨#[100]⟩ : ByteArray), false, 3⟩ : S42)] : List (S42))) := ⟨_, rfl⟩
 replace H : (if t112.length < 1099511627776 then ((some (t112 ++ [(⟨9, (⟨#[65]⟩ : ByteArray), (⟨#[]⟩ : ByteArray), 0, 0, 0, y115, ([] : List (S47)), 0, 0⟩ : S40)] : List (S40))).bind fun y118 => ((layout_Offset.f y118 7 (⟨#[99]⟩ : ByteArray)).bind fun bt121 => ((layout_Vars.f y118 (([3, 3, 1] : List Int))).bind fun bt127 => ((layout_Size.f y118 7).bind fun t131 => (if t131 = 12 then (if bt121.2.2 = true then (if bt121.1 = 4 then (if bt121.2.1 = 1 then (if bt127.2 = 8 then ((spinetkeep_Same.f k bt127.1 (([0, 1, 4] : List Int))).bind fun t135 => (some t135)) else (some false)) else (some false)) else (some false)) else (some false)) else (some false)))))) else (none)) = some r := by first | (rw [hy115]; with_reducible exact H) | (have H2_ := (Option.bind_some _ _).symm.trans H; rw [hy115]; with_reducible exact H2_) | (have H2_ := (Option.bind_some _ _).symm.trans H; with_reducible exact H2_) | with_reducible exact H | (rw [hy115]; exact H) | exact H
 have Ny115 := Aside0.mk hy115
 clear hy115
 by_cases c2 : t112.length < 1099511627776
 ·
  rw [if_pos c2] at H
  have LMc2 := Aside0.mk c2
  clear c2
  obtain ⟨y118, hy118⟩ : ∃ y_ : List (S40), y_ = (t112 ++ [(⟨9, (⟨#[65]⟩ : ByteArray), (⟨#[]⟩ : ByteArray), 0, 0, 0, y115, ([] : List (S47)), 0, 0⟩ : S40)]) := ⟨_, rfl⟩
  replace H : ((layout_Offset.f y118 7 (⟨#[99]⟩ : ByteArray)).bind fun bt121 => ((layout_Vars.f y118 (([3, 3, 1] : List Int))).bind fun bt127 => ((layout_Size.f y118 7).bind fun t131 => (if t131 = 12 then (if bt121.2.2 = true then (if bt121.1 = 4 then (if bt121.2.1 = 1 then (if bt127.2 = 8 then ((spinetkeep_Same.f k bt127.1 (([0, 1, 4] : List Int))).bind fun t135 => (some t135)) else (some false)) else (some false)) else (some false)) else (some false)) else (some false))))) = some r := by first | (rw [hy118]; with_reducible exact H) | (have H2_ := (Option.bind_some _ _).symm.trans H; rw [hy118]; with_reducible exact H2_) | (have H2_ := (Option.bind_some _ _).symm.trans H; with_reducible exact H2_) | with_reducible exact H | (rw [hy118]; exact H) | exact H
  have Ny118 := Aside0.mk hy118
  clear hy118
  replace H := Option.bind_eq_some_iff.mp H
  obtain ⟨⟨t121, t122, t123⟩, A30, H⟩ := H
  replace H : ((layout_Vars.f y118 (([3, 3, 1] : List Int))).bind fun bt127 => ((layout_Size.f y118 7).bind fun t131 => (if t131 = 12 then (if t123 = true then (if t121 = 4 then (if t122 = 1 then (if bt127.2 = 8 then ((spinetkeep_Same.f k bt127.1 (([0, 1, 4] : List Int))).bind fun t135 => (some t135)) else (some false)) else (some false)) else (some false)) else (some false)) else (some false)))) = some r := H
  have A3 := Aside0.mk A30
  clear A30
  obtain ⟨y124, hy124⟩ : ∃ y_ : List Int, y_ = (([3, 3, 1] : List Int)) := ⟨_, rfl⟩
  replace H : ((layout_Vars.f y118 y124).bind fun bt127 => ((layout_Size.f y118 7).bind fun t131 => (if t131 = 12 then (if t123 = true then (if t121 = 4 then (if t122 = 1 then (if bt127.2 = 8 then ((spinetkeep_Same.f k bt127.1 (([0, 1, 4] : List Int))).bind fun t135 => (some t135)) else (some false)) else (some false)) else (some false)) else (some false)) else (some false)))) = some r := by first | (rw [hy124]; with_reducible exact H) | (have H2_ := (Option.bind_some _ _).symm.trans H; rw [hy124]; with_reducible exact H2_) | (have H2_ := (Option.bind_some _ _).symm.trans H; with_reducible exact H2_) | with_reducible exact H | (rw [hy124]; exact H) | exact H
  have Ny124 := Aside0.mk hy124
  clear hy124
  replace H := Option.bind_eq_some_iff.mp H
  obtain ⟨⟨t127, t128⟩, A40, H⟩ := H
  replace H : ((layout_Size.f y118 7).bind fun t131 => (if t131 = 12 then (if t123 = true then (if t121 = 4 then (if t122 = 1 then (if t128 = 8 then ((spinetkeep_Same.f k t127 (([0, 1, 4] : List Int))).bind fun t135 => (some t135)) else (some false)) else (some false)) else (some false)) else (some false)) else (some false))) = some r := H
  have A4 := Aside0.mk A40
  clear A40
  replace H := Option.bind_eq_some_iff.mp H
  obtain ⟨t131, A50, H⟩ := H
  replace H : (if t131 = 12 then (if t123 = true then (if t121 = 4 then (if t122 = 1 then (if t128 = 8 then ((spinetkeep_Same.f k t127 (([0, 1, 4] : List Int))).bind fun t135 => (some t135)) else (some false)) else (some false)) else (some false)) else (some false)) else (some false)) = some r := H
  have A5 := Aside0.mk A50
  clear A50
  by_cases c6 : t131 = 12
  ·
   rw [if_pos c6] at H
   have c6b0 : (t131 == 12) = true := beq_iff_eq.mpr c6
   have c6b1 : (t131 != 12) = false := bne_eq_false_iff_eq.mpr c6
   clear c6
   by_cases c7 : t123 = true
   ·
    subst c7
    have H1 : (if t121 = 4 then (if t122 = 1 then (if t128 = 8 then ((spinetkeep_Same.f k t127 (([0, 1, 4] : List Int))).bind fun t135 => (some t135)) else (some false)) else (some false)) else (some false)) = some r := by rw [if_pos rfl] at H; exact H
    clear H
    have H := H1
    clear H1
    by_cases c8 : t121 = 4
    ·
     rw [if_pos c8] at H
     have c8b0 : (t121 == 4) = true := beq_iff_eq.mpr c8
     have c8b1 : (t121 != 4) = false := bne_eq_false_iff_eq.mpr c8
     clear c8
     by_cases c9 : t122 = 1
     ·
      rw [if_pos c9] at H
      have c9b0 : (t122 == 1) = true := beq_iff_eq.mpr c9
      have c9b1 : (t122 != 1) = false := bne_eq_false_iff_eq.mpr c9
      clear c9
      by_cases c10 : t128 = 8
      ·
       rw [if_pos c10] at H
       have c10b0 : (t128 == 8) = true := beq_iff_eq.mpr c10
       have c10b1 : (t128 != 8) = false := bne_eq_false_iff_eq.mpr c10
       clear c10
       obtain ⟨y132, hy132⟩ : ∃ y_ : List Int, y_ = (([0, 1, 4] : List Int)) := ⟨_, rfl⟩
       replace H : ((spinetkeep_Same.f k t127 y132).bind fun t135 => (some t135)) = some r := by first | (rw [hy132]; with_reducible exact H) | (have H2_ := (Option.bind_some _ _).symm.trans H; rw [hy132]; with_reducible exact H2_) | (have H2_ := (Option.bind_some _ _).symm.trans H; with_reducible exact H2_) | with_reducible exact H | (rw [hy132]; exact H) | exact H
       have Ny132 := Aside0.mk hy132
       clear hy132
       replace H := Option.bind_eq_some_iff.mp H
       obtain ⟨t135, A110, H⟩ := H
       replace H : (some t135) = some r := H
       have A11 := Aside0.mk A110
       clear A110
       obtain rfl := Option.some.inj H
       go_enter Try.func13, Try.ntmps13
       go_wp2_with (first | ((with_reducible refine gate_callee (f := 27) rfl ?_); refine goesL_ (some 7) rfl rfl Try.func27 (by kernel_rfl) rfl #[] rfl (by (try simp only [List.map_toArray, List.map_cons, List.map_nil]); first | done | rfl | (simp only [List.length_drop, List.length_take]; rfl)) ?_; (with_reducible refine (spinetref13_Basic.calls k  t112 _ A1.out).mono ?_); rintro e w12 ⟨v113, rfl, ho0, hb⟩; refine ⟨_, rfl, ?_⟩; have n0_ := Aside0.mk (Kd.S_lower ho0 (below_size (by repeat (first | (with_reducible first | exact HB.out | apply below_alloc | apply pw_below_drewN | apply below_drew1) | exact HB.out)))); have n1_ := Aside0.mk (below_step (by repeat (first | (with_reducible first | exact HB.out | apply below_alloc | apply pw_below_drewN | apply below_drew1) | exact HB.out)) hb); clear HB; have HO114 := n0_; have HB := n1_; clear n0_ n1_; (try clear hb); (try clear hb2); (try clear hk); (try clear hi); (try clear ho0)) | ((with_reducible refine gate_dst (N := 12) rfl ?_); (try (refine gate_guard (by rfl) ?_; dsimp only)); refine Kd.R_lit k42 _ 42 ?hg (N := 12) ?hd (xs := ([(⟨(⟨#[97]⟩ : ByteArray), false, 3⟩ : S42), (⟨(⟨#[98]⟩ : ByteArray), false, 2⟩ : S42), (⟨(⟨#[99]⟩ : ByteArray), false, 1⟩ : S42), (⟨(⟨#[100]⟩ : ByteArray), false, 3⟩ : S42)] : List (S42))) (inner := [.string (⟨#[97]⟩ : ByteArray), .bool false, .int .i64 3, .string (⟨#[98]⟩ : ByteArray), .bool false, .int .i64 2, .string (⟨#[99]⟩ : ByteArray), .bool false, .int .i64 1, .string (⟨#[100]⟩ : ByteArray), .bool false, .int .i64 3]) (ok := fun _ => True) (okp := fun _ => True) ?hr ?hp (fun _ hk => hk) trivial (Below.refl _ _) (Nat.le_refl _) (by simp) ?_; (case hd => rfl); (case hg => rfl); (case hr => first | (go_simp; done) | (go_simp; rfl)); (case hp => exact (Reps.c3 (show Kd.M k42 _ _ _ (⟨(⟨#[97]⟩ : ByteArray), false, 3⟩ : S42) [.string (⟨#[97]⟩ : ByteArray), .bool false, .int .i64 3] from (k42_mkM _ _ _ (⟨(⟨#[97]⟩ : ByteArray), false, 3⟩ : S42) )) (Reps.c3 (show Kd.M k42 _ _ _ (⟨(⟨#[98]⟩ : ByteArray), false, 2⟩ : S42) [.string (⟨#[98]⟩ : ByteArray), .bool false, .int .i64 2] from (k42_mkM _ _ _ (⟨(⟨#[98]⟩ : ByteArray), false, 2⟩ : S42) )) (Reps.c3 (show Kd.M k42 _ _ _ (⟨(⟨#[99]⟩ : ByteArray), false, 1⟩ : S42) [.string (⟨#[99]⟩ : ByteArray), .bool false, .int .i64 1] from (k42_mkM _ _ _ (⟨(⟨#[99]⟩ : ByteArray), false, 1⟩ : S42) )) (Reps.c3 (show Kd.M k42 _ _ _ (⟨(⟨#[100]⟩ : ByteArray), false, 3⟩ : S42) [.string (⟨#[100]⟩ : ByteArray), .bool false, .int .i64 3] from (k42_mkM _ _ _ (⟨(⟨#[100]⟩ : ByteArray), false, 3⟩ : S42) )) (Reps.none _ _)))))); intro v116 w13 ho14 hb hg_ hnew_; clear hg_ hnew_; (first | rw [← Ny115.out] at ho14 | (simp only [Int.reduceToNat] at ho14; rw [← Ny115.out] at ho14)); have n0_ := Aside0.mk (Kd.S_elder' (by (with_reducible repeat (first | apply Kd.S_alloc | apply Kd.S_drewN | apply Kd.S_drew)); exact HO114.out) (Kd.R_base ho14) hb); have n1_ := Aside0.mk (Kd.R_lower ho14 (below_size (by repeat (first | (with_reducible first | exact HB.out | apply below_alloc | apply pw_below_drewN | apply below_drew1) | exact HB.out)))); have n2_ := Aside0.mk (below_step (by repeat (first | (with_reducible first | exact HB.out | apply below_alloc | apply pw_below_drewN | apply below_drew1) | exact HB.out)) hb); clear HO114; clear HB; have HO114 := n0_; have HO117 := n1_; have HB := n2_; clear n0_ n1_ n2_; clear hb ho14; obtain ⟨Ao15, co15, eo15⟩ := Kd.R_slice HO117.out; subst eo15) | ((with_reducible refine gate_builtin (b := .append) (xs := #[.tmp 7, .tmp 14]) rfl ?_); (try (refine gate_guard (by rfl) ?_; dsimp only)); at_builtin; refine Kd.S_append k40 (w0 := w) w.heap.size rfl (.tmp 7) (.tmp 14) 22 40 (.agg #[(.int .i64 0), (.string ⟨#[]⟩), (.string ⟨#[]⟩), (.int .i64 0), (.int .i64 0), (.int .i64 0), (.slice none 0 0), (.slice none 0 0), (.int .i64 0), (.int .i64 0)]) 128 rfl Try.underlying22 info40 rfl (by decide) (by omega) v113 t112 (⟨9, (⟨#[65]⟩ : ByteArray), (⟨#[]⟩ : ByteArray), 0, 0, 0, y115, ([] : List (S47)), 0, 0⟩ : S40) [.int .i64 9, .string (⟨#[65]⟩ : ByteArray), .string (⟨#[]⟩ : ByteArray), .int .i64 0, .int .i64 0, .int .i64 0, .slice Ao15 y115.length co15, .slice none 0 0, .int .i64 0, .int .i64 0] (fun _ => True) (fun k_ => some k_ = (.slice Ao15 y115.length co15 : Value).ownBlock) rfl rfl ?aP (fun k_ hk_ => ((Kd.R_mono (ok' := fun k_ => ((fun _ => True)) k_ ∧ some k_ ≠ (v113 : Value).ownBlock) (Kd.R_apart' (HO117.out) (Kd.S_typed HO114.out) (by decide)) (fun k_ hk => ⟨trivial, hk.2⟩))).1 k_ hk_.symm) ?aF ?aO ?aB ?aS ?aL ?_; (case aP => exact k40_mkM _ _ _ (⟨9, (⟨#[65]⟩ : ByteArray), (⟨#[]⟩ : ByteArray), 0, 0, 0, y115, ([] : List (S47)), 0, 0⟩ : S40) (Kd.R_mono (Kd.R_tight rfl (Kd.R_mono (ok' := fun k_ => ((fun _ => True)) k_ ∧ some k_ ≠ (v113 : Value).ownBlock) (Kd.R_apart' (HO117.out) (Kd.S_typed HO114.out) (by decide)) (fun k_ hk => ⟨trivial, hk.2⟩))) (fun _ h_ => h_)) (Kd.R_nil _ _ _ _ _)); (case aB => exact (by repeat (first | (with_reducible first | exact HB.out | apply below_alloc | apply pw_below_drewN | apply below_drew1) | exact HB.out))); (case aF => exact (fun _ _ => trivial)); (case aO => exact (by (with_reducible repeat (first | apply Kd.S_alloc | apply Kd.S_drewN | apply Kd.S_drew)); exact Kd.S_mono HO114.out (fun k_ hk => ⟨trivial, fun e_ => hk.2 e_⟩))); (case aS => exact (below_size (by repeat (first | (with_reducible first | exact HB.out | apply below_alloc | apply pw_below_drewN | apply below_drew1) | exact HB.out)))); (case aL => have := LMc2.out; omega); intro v119 w16 ho hb hg hat; rw [← Ny118.out] at ho; have n0_ := Aside0.mk (hb); have n1_ := Aside0.mk (ho); clear HB; clear HO114; clear HO117; have HB := n0_; have HO120 := n1_; clear n0_ n1_; clear ho hb hg hat; obtain ⟨Ao17, co17, eo17⟩ := Kd.S_slice HO120.out; subst eo17) | ((with_reducible refine gate_callee (f := 18) rfl ?_); refine goesL_ (some 18) rfl rfl Try.func18 (by kernel_rfl) rfl #[.slice Ao17 y118.length co17, .int .i64 7, .string (⟨#[99]⟩ : ByteArray)] rfl (by (try simp only [List.map_toArray, List.map_cons, List.map_nil]); first | done | rfl | (simp only [List.length_drop, List.length_take]; rfl)) ?_; (with_reducible refine (layout_Offset.calls _ _ y118 7 (⟨#[99]⟩ : ByteArray) t121 t122 true _ ?side1 ?side2 A3.out).mono ?_); (case side1 => repeat (first | exact (Kd.S_reads' HO120.out).2.2 | (with_reducible refine Kd.C_alloc ?_ _) | (with_reducible refine Kd.C_drewN ?_ _) | (with_reducible refine Kd.C_drew ?_))); (case side2 => exact (Kd.S_reads' HO120.out).2.1); rintro e w18 ⟨rfl, hb⟩; refine ⟨_, rfl, ?_⟩; have n0_ := Aside0.mk (Kd.S_below (by (with_reducible repeat (first | apply Kd.S_alloc | apply Kd.S_drewN | apply Kd.S_drew)); exact HO120.out) hb); have n1_ := Aside0.mk (below_step (by repeat (first | (with_reducible first | exact HB.out | apply below_alloc | apply pw_below_drewN | apply below_drew1) | exact HB.out)) hb); clear HO120; clear HB; have HO120 := n0_; have HB := n1_; clear n0_ n1_; (try clear hb); (try clear hb2); (try clear hk); (try clear hi)) | ((with_reducible refine gate_dst (N := 24) rfl ?_); (try (refine gate_guard (by rfl) ?_; dsimp only)); refine Kd.R_lit (Kd.int .i64) _ 3 ?hg (N := 24) ?hd (xs := ([3, 3, 1] : List Int)) (inner := [.int .i64 3, .int .i64 3, .int .i64 1]) (ok := fun _ => True) (okp := fun _ => True) ?hr ?hp (fun _ hk => hk) trivial (Below.refl _ _) (Nat.le_refl _) (by simp) ?_; (case hd => rfl); (case hg => rfl); (case hr => first | (go_simp; done) | (go_simp; rfl)); (case hp => exact (Reps.one (show Kd.M (Kd.int .i64) _ _ _ 3 [.int .i64 3] from rfl) (Reps.one (show Kd.M (Kd.int .i64) _ _ _ 3 [.int .i64 3] from rfl) (Reps.one (show Kd.M (Kd.int .i64) _ _ _ 1 [.int .i64 1] from rfl) (Reps.none _ _))))); intro v125 w19 ho20 hb hg_ hnew_; clear hg_ hnew_; (first | rw [← Ny124.out] at ho20 | (simp only [Int.reduceToNat] at ho20; rw [← Ny124.out] at ho20)); have n0_ := Aside0.mk (Kd.S_below (by (with_reducible repeat (first | apply Kd.S_alloc | apply Kd.S_drewN | apply Kd.S_drew)); exact HO120.out) hb); have n1_ := Aside0.mk (Kd.R_lower ho20 (below_size (by repeat (first | (with_reducible first | exact HB.out | apply below_alloc | apply pw_below_drewN | apply below_drew1) | exact HB.out)))); have n2_ := Aside0.mk (below_step (by repeat (first | (with_reducible first | exact HB.out | apply below_alloc | apply pw_below_drewN | apply below_drew1) | exact HB.out)) hb); clear HO120; clear HB; have HO120 := n0_; have HO126 := n1_; have HB := n2_; clear n0_ n1_ n2_; clear hb ho20; obtain ⟨Ao21, co21, eo21⟩ := Kd.R_slice HO126.out; subst eo21) | ((with_reducible refine gate_callee (f := 20) rfl ?_); refine goesL_ (some 25) rfl rfl Try.func20 (by kernel_rfl) rfl #[.slice Ao17 y118.length co17, .slice Ao21 y124.length co21] rfl (by (try simp only [List.map_toArray, List.map_cons, List.map_nil]); first | done | rfl | (simp only [List.length_drop, List.length_take]; rfl)) ?_; (with_reducible refine (layout_Vars.calls _ _ y118 _ _ y124 t127 t128 _ ?side1 ?side2 ?side3 ?side4 A4.out).mono ?_); (case side1 => repeat (first | exact (Kd.S_reads' HO120.out).2.2 | (with_reducible refine Kd.C_alloc ?_ _) | (with_reducible refine Kd.C_drewN ?_ _) | (with_reducible refine Kd.C_drew ?_))); (case side2 => exact (Kd.S_reads' HO120.out).2.1); (case side3 => repeat (first | exact (Kd.R_reads' HO126.out).2.2 | (with_reducible refine Kd.C_alloc ?_ _) | (with_reducible refine Kd.C_drewN ?_ _) | (with_reducible refine Kd.C_drew ?_))); (case side4 => exact (Kd.R_reads' HO126.out).2.1); rintro e w22 ⟨v129, rfl, ho0, hb⟩; refine ⟨_, rfl, ?_⟩; have n0_ := Aside0.mk (Kd.S_below (by (with_reducible repeat (first | apply Kd.S_alloc | apply Kd.S_drewN | apply Kd.S_drew)); exact HO120.out) hb); have n1_ := Aside0.mk (Kd.R_elder' (by (with_reducible repeat (first | apply Kd.R_alloc | apply Kd.R_drewN | apply Kd.R_drew)); exact HO126.out) (Kd.R_base ho0) hb); have n2_ := Aside0.mk (Kd.R_lower (Kd.R_new' ho0 (Kd.R_lt (by (with_reducible repeat (first | apply Kd.R_alloc | apply Kd.R_drewN | apply Kd.R_drew)); exact HO126.out))) (below_size (by repeat (first | (with_reducible first | exact HB.out | apply below_alloc | apply pw_below_drewN | apply below_drew1) | exact HB.out)))); have n3_ := Aside0.mk (below_step (by repeat (first | (with_reducible first | exact HB.out | apply below_alloc | apply pw_below_drewN | apply below_drew1) | exact HB.out)) hb); clear HO120; clear HO126; clear HB; have HO120 := n0_; have HO126 := n1_; have HO130 := n2_; have HB := n3_; clear n0_ n1_ n2_ n3_; (try clear hb); (try clear hb2); (try clear hk); (try clear hi); (try clear ho0)) | ((with_reducible refine gate_callee (f := 15) rfl ?_); refine goesL_ (some 29) rfl rfl Try.func15 (by kernel_rfl) rfl #[.slice Ao17 y118.length co17, .int .i64 7] rfl (by (try simp only [List.map_toArray, List.map_cons, List.map_nil]); first | done | rfl | (simp only [List.length_drop, List.length_take]; rfl)) ?_; (with_reducible refine (layout_Size.calls _ _ y118 7 t131 _ ?side1 ?side2 A5.out).mono ?_); (case side1 => repeat (first | exact (Kd.S_reads' HO120.out).2.2 | (with_reducible refine Kd.C_alloc ?_ _) | (with_reducible refine Kd.C_drewN ?_ _) | (with_reducible refine Kd.C_drew ?_))); (case side2 => exact (Kd.S_reads' HO120.out).2.1); rintro e w23 ⟨rfl, hb⟩; refine ⟨_, rfl, ?_⟩; have n0_ := Aside0.mk (Kd.S_below (by (with_reducible repeat (first | apply Kd.S_alloc | apply Kd.S_drewN | apply Kd.S_drew)); exact HO120.out) hb); have n1_ := Aside0.mk (Kd.R_below (by (with_reducible repeat (first | apply Kd.R_alloc | apply Kd.R_drewN | apply Kd.R_drew)); exact HO126.out) hb); have n2_ := Aside0.mk (Kd.R_below (by (with_reducible repeat (first | apply Kd.R_alloc | apply Kd.R_drewN | apply Kd.R_drew)); exact HO130.out) hb); have n3_ := Aside0.mk (below_step (by repeat (first | (with_reducible first | exact HB.out | apply below_alloc | apply pw_below_drewN | apply below_drew1) | exact HB.out)) hb); clear HO120; clear HO126; clear HO130; clear HB; have HO120 := n0_; have HO126 := n1_; have HO130 := n2_; have HB := n3_; clear n0_ n1_ n2_ n3_; (try clear hb); (try clear hb2); (try clear hk); (try clear hi)) | ((with_reducible refine gate_dst (N := 48) rfl ?_); (try (refine gate_guard (by rfl) ?_; dsimp only)); refine Kd.R_lit (Kd.int .i64) _ 3 ?hg (N := 48) ?hd (xs := ([0, 1, 4] : List Int)) (inner := [.int .i64 0, .int .i64 1, .int .i64 4]) (ok := fun _ => True) (okp := fun _ => True) ?hr ?hp (fun _ hk => hk) trivial (Below.refl _ _) (Nat.le_refl _) (by simp) ?_; (case hd => rfl); (case hg => rfl); (case hr => first | (go_simp; done) | (go_simp; rfl)); (case hp => exact (Reps.one (show Kd.M (Kd.int .i64) _ _ _ 0 [.int .i64 0] from rfl) (Reps.one (show Kd.M (Kd.int .i64) _ _ _ 1 [.int .i64 1] from rfl) (Reps.one (show Kd.M (Kd.int .i64) _ _ _ 4 [.int .i64 4] from rfl) (Reps.none _ _))))); intro v133 w24 ho25 hb hg_ hnew_; clear hg_ hnew_; (first | rw [← Ny132.out] at ho25 | (simp only [Int.reduceToNat] at ho25; rw [← Ny132.out] at ho25)); have n0_ := Aside0.mk (Kd.S_below (by (with_reducible repeat (first | apply Kd.S_alloc | apply Kd.S_drewN | apply Kd.S_drew)); exact HO120.out) hb); have n1_ := Aside0.mk (Kd.R_elder' (by (with_reducible repeat (first | apply Kd.R_alloc | apply Kd.R_drewN | apply Kd.R_drew)); exact HO126.out) (Kd.R_base ho25) hb); have n2_ := Aside0.mk (Kd.R_elder' (by (with_reducible repeat (first | apply Kd.R_alloc | apply Kd.R_drewN | apply Kd.R_drew)); exact HO130.out) (Kd.R_base ho25) hb); have n3_ := Aside0.mk (Kd.R_lower (Kd.R_new' (Kd.R_new' ho25 (Kd.R_lt (by (with_reducible repeat (first | apply Kd.R_alloc | apply Kd.R_drewN | apply Kd.R_drew)); exact HO126.out))) (Kd.R_lt (by (with_reducible repeat (first | apply Kd.R_alloc | apply Kd.R_drewN | apply Kd.R_drew)); exact HO130.out))) (below_size (by repeat (first | (with_reducible first | exact HB.out | apply below_alloc | apply pw_below_drewN | apply below_drew1) | exact HB.out)))); have n4_ := Aside0.mk (below_step (by repeat (first | (with_reducible first | exact HB.out | apply below_alloc | apply pw_below_drewN | apply below_drew1) | exact HB.out)) hb); clear HO120; clear HO126; clear HO130; clear HB; have HO120 := n0_; have HO126 := n1_; have HO130 := n2_; have HO134 := n3_; have HB := n4_; clear n0_ n1_ n2_ n3_ n4_; clear hb ho25; obtain ⟨Ao26, co26, eo26⟩ := Kd.R_slice HO130.out; subst eo26; obtain ⟨Ao27, co27, eo27⟩ := Kd.R_slice HO134.out; subst eo27) | (go_at_call 22; (with_reducible refine (spinetkeep_Same.calls k _ _ t127 _ _ y132 t135 _ ?side1 ?side2 ?side3 ?side4 A11.out).mono ?_); (case side1 => repeat (first | exact (Kd.R_reads' HO130.out).2.2 | (with_reducible refine Kd.C_alloc ?_ _) | (with_reducible refine Kd.C_drewN ?_ _) | (with_reducible refine Kd.C_drew ?_))); (case side2 => exact (Kd.R_reads' HO130.out).2.1); (case side3 => repeat (first | exact (Kd.R_reads' HO134.out).2.2 | (with_reducible refine Kd.C_alloc ?_ _) | (with_reducible refine Kd.C_drewN ?_ _) | (with_reducible refine Kd.C_drew ?_))); (case side4 => exact (Kd.R_reads' HO134.out).2.1); rintro e w' ⟨rfl, ⟨nd, rfl⟩⟩))
       go_ret
       exact ⟨by first | rfl | (simp [errW_none, errW_some] <;> rfl) | (simp [*, errW_none, errW_some] <;> rfl), by repeat (first | (with_reducible first | exact HB.out | apply below_alloc | apply pw_below_drewN | apply below_drew1) | exact HB.out)⟩
      ·
       rw [if_neg c10] at H
       exact absurd ((Option.some.inj H).trans hrt.out) (by decide)
     ·
      rw [if_neg c9] at H
      exact absurd ((Option.some.inj H).trans hrt.out) (by decide)
    ·
     rw [if_neg c8] at H
     exact absurd ((Option.some.inj H).trans hrt.out) (by decide)
   ·
    replace c7 := Bool.eq_false_iff.mpr c7
    subst c7
    have H1 : (some false) = some r := by rw [if_neg (show ¬ (false = true) by decide)] at H; exact H
    exact absurd ((Option.some.inj H1).trans hrt.out) (by decide)
  ·
   rw [if_neg c6] at H
   exact absurd ((Option.some.inj H).trans hrt.out) (by decide)
 ·
  rw [if_neg c2] at H
  exact absurd H (by simp)
end
end Go.Proofs.Ytgnbemgeiloegaa.PTypesGoods
