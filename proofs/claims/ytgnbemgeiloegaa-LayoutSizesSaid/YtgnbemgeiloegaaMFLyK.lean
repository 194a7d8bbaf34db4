import Derived.Test.YtgnbemgeiloegaaMLyK
import Derived.Test.YtgnbemgeiloegaaMLyG
import Derived.Test.YtgnbemgeiloegaaMLyJ
import Derived.Test.YtgnbemgeiloegaaMEW
import Derived.Test.YtgnbemgeiloegaaMEPTypesGoodsx3
import Derived.Test.YtgnbemgeiloegaaMETgOpn
namespace Go.Proofs.Ytgnbemgeiloegaa.Ly
open Go.RowKit Go.Proofs.Ytgnbemgeiloegaa.Tg
open Go.Proofs.YtgnbemgeiloegaaW.PrintWords Go.Proofs.YtgnbemgeiloegaaW.PrintLast Go.Proofs.YtgnbemgeiloegaaW.PrintMore
set_option linter.unusedVariables false
set_option linter.unusedSimpArgs false
open Go.Proofs.Ytgnbemgeiloegaa.PTypesGoods
set_option maxHeartbeats 16000000 in
set_option maxRecDepth 100000 in
theorem size16 {t : List S40} (hF : Fine t) {A : Option Addr} {c : Nat} {w : World} (hC : Kd.C k40 w A t.length t) (hc : t.length ≤ c) (a : Int) :
 Calls Try.prog 16 #[.slice A t.length c, .int .i64 a] w fun e w' => e = .returned (.int .i64 (sizeG t a)) ∧ Below w.heap.size w w' := by
 by_cases h0 : a < 0
 ·
  have b0 : decide (a < 0) = true := decide_eq_true h0
  have R : Aside0 (sizeG t a = 0) := ⟨by unfold sizeG; rw [inb_is, b0]; simp⟩
  go_enter Try.func16, Try.ntmps16
  go_wp2
  go_ret
  exact ⟨by rw [R.out]; rfl, by first | exact Below.refl _ _ | exact pw_below_drewN (Below.refl _ _) _⟩
 have b0 : decide (a < 0) = false := decide_eq_false h0
 by_cases h1 : a ≥ (t.length : Int)
 ·
  have b1 : decide (a ≥ (t.length : Int)) = true := decide_eq_true h1
  have R : Aside0 (sizeG t a = 0) := ⟨by unfold sizeG; rw [inb_is, b1]; simp⟩
  go_enter Try.func16, Try.ntmps16
  go_wp2
  go_ret
  exact ⟨by rw [R.out]; rfl, by first | exact Below.refl _ _ | exact pw_below_drewN (Below.refl _ _) _⟩
 have b1 : decide (a ≥ (t.length : Int)) = false := decide_eq_false h1
 have hi : InT t a := ⟨by omega, by omega⟩
 have HG := Aside0.mk (spinetref13_Good.calls A c t (goodR t) w hC hc (fine_ref hF))
 cases hg : goodR t with
 | false =>
  rw [hg] at HG
  have R : Aside0 (sizeG t a = 0) := ⟨by unfold sizeG; rw [hg]; rfl⟩
  clear hi h0 h1
  go_enter Try.func16, Try.ntmps16
  go_wp2_with (go_at_call 23; refine HG.out.mono ?_; rintro e w1 ⟨rfl, hB1⟩)
  go_ret
  exact ⟨by rw [R.out]; rfl, by first | exact hB1 | exact pw_below_drewN hB1 _⟩
 | true =>
  rw [hg] at HG
  have R : Aside0 (sizeG t a = szG t a) := ⟨by unfold sizeG; rw [inb_yes hi, hg]; rfl⟩
  have hhi := (good_of hg).hi
  have HE : Aside0 (EnvR t (szG t) w A c) := ⟨⟨good_of hg, szG_sizes (good_of hg), hC, hc⟩⟩
  obtain ⟨N, hN⟩ := gd_deep (good_of hg)
  have HD := Aside0.mk (hN a hi)
  have HI := Aside0.mk hi
  clear hN h0 h1 hi
  go_enter Try.func16, Try.ntmps16
  go_wp2_with (first | (go_at_call 23; refine HG.out.mono ?_; rintro e w1 ⟨rfl, hB1⟩) | (go_at_call 35; refine (new35 hhi (szG t) A c _).mono ?_; rintro e w2 ⟨q, g, rfl, hW⟩; have HW := Aside0.mk (hW.base (by first | exact hB1 | exact pw_below_drewN hB1 _)); clear hW) | (go_at_call 36; refine (all36 HE.out N a _ HI.out HD.out (by first | with_reducible exact HW.out | exact HW.out.on (pw_below_drewN (Below.refl _ _) _))).mono ?_; rintro e w3 ⟨rfl, hW3, hK3⟩))
  go_ret
  exact ⟨by rw [R.out]; rfl, by first | exact hW3.below | exact pw_below_drewN hW3.below _⟩
end Go.Proofs.Ytgnbemgeiloegaa.Ly
