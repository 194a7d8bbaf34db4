import Derived.Test.YtgnbemgeiloegaaMLyD
import Derived.Test.YtgnbemgeiloegaaMTgPu
import Derived.Test.YtgnbemgeiloegaaMEW
import Derived.Test.YtgnbemgeiloegaaMEPTypesGoodsx3
import Derived.Test.YtgnbemgeiloegaaMETgOpn
namespace Go.Proofs.Ytgnbemgeiloegaa.Ly
open Go.RowKit Go.Proofs.Ytgnbemgeiloegaa.Tg
open Go.Proofs.YtgnbemgeiloegaaW.PrintWords Go.Proofs.YtgnbemgeiloegaaW.PrintLast Go.Proofs.YtgnbemgeiloegaaW.PrintMore
set_option linter.unusedVariables false
set_option linter.unusedSimpArgs false
open Go.Proofs.Ytgnbemgeiloegaa.PTypesGoods
theorem sz_new {S : Int → Int} {m : Nat} {v : Value} {w : World} (hm : m ≤ 256) : SZ S m v w.heap.size (w.alloc (.cells (v :: (List.replicate 256 (0 : Int)).map (Value.int .i64)).toArray 64)) :=
 ⟨List.replicate 256 0, heap_alloc_new _ _, List.length_replicate, fun i hi => .inl (by rw [List.getElem?_replicate, if_pos (by omega)])⟩
theorem zero64 (A : Option Addr) (n c : Nat) : Try.zeroCells64.setIfInBounds 0 (.slice A n c) = (Value.slice A n c :: (List.replicate 256 (0 : Int)).map (Value.int .i64)).toArray := by kernel_rfl
set_option maxHeartbeats 16000000 in
set_option maxRecDepth 100000 in
theorem sizer_no {t : List S40} (hF : Fine t) (hg : goodR t = false) {A : Option Addr} {c : Nat} {w : World} (hC : Kd.C k40 w A t.length t) (hc : t.length ≤ c) :
 Calls Try.prog 33 #[.slice A t.length c] w fun e w' => e = .returned (.pointer none) ∧ Below w.heap.size w w' := by
 have HG := Aside0.mk (types_Good.calls A c t (goodR t) w hC hc (fine_good hF))
 rw [hg] at HG
 go_enter Try.func33, Try.ntmps33
 go_wp2_with (go_at_call 25; refine HG.out.mono ?_; rintro e w1 ⟨rfl, hB1⟩)
 go_ret
 exact ⟨rfl, hB1⟩
set_option maxHeartbeats 16000000 in
set_option maxRecDepth 100000 in
theorem sizer_yes {t : List S40} (hF : Fine t) (hg : goodR t = true) (S : Int → Int) {A : Option Addr} {c : Nat} {w : World} (hC : Kd.C k40 w A t.length t) (hc : t.length ≤ c) :
 Calls Try.prog 33 #[.slice A t.length c] w fun e w' => ∃ q, e = .returned (.pointer (some ⟨q, 0, none⟩)) ∧ w.heap.size ≤ q ∧ WS t S w (.slice A t.length c) q w' := by
 have HG := Aside0.mk (types_Good.calls A c t (goodR t) w hC hc (fine_good hF))
 have hhi := (good_of hg).hi
 rw [hg] at HG
 go_enter Try.func33, Try.ntmps33
 go_wp2_with (go_at_call 25; refine HG.out.mono ?_; rintro e w1 ⟨rfl, hB1⟩)
 go_ret
 rw [zero64]
 exact ⟨w1.heap.size, rfl, hB1.size, sz_new hhi, below_alloc hB1 _⟩
open Classical in
noncomputable def szG (t : List S40) : Int → Int := if h : GoodR t then szF t (Classical.choose (gd_deep h)) else fun _ => 0
theorem szG_sizes {t : List S40} (g : GoodR t) : Sizes t (szG t) := by
 unfold szG
 rw [dif_pos g]
 exact sizes_of g (Classical.choose_spec (gd_deep g))
theorem szG_env {t : List S40} (g : GoodR t) {w0 : World} {A : Option Addr} {c q : Nat} (hC : Kd.C k40 w0 A t.length t) (hc : t.length ≤ c) (hq : w0.heap.size ≤ q) : Env t (szG t) w0 A c q := ⟨g, szG_sizes g, hC, hc, hq⟩
noncomputable def sizeG (t : List S40) (a : Int) : Int := if (goodR t && inb t a) = true then szG t a else 0
theorem inb_is (t : List S40) (a : Int) : inb t a = (!(decide (a < 0) || decide (a ≥ (t.length : Int)))) := by
 by_cases h : InT t a
 · rw [inb_yes h, decide_eq_false (by have := h.1; omega), decide_eq_false (by have := h.2; omega)]; rfl
 ·
  rw [inb_no h]
  by_cases h0 : a < 0
  · rw [decide_eq_true h0]; rfl
  ·
   rw [decide_eq_true (show a ≥ (t.length : Int) by
    rcases Int.lt_or_le a t.length with h2 | h2
    · exact absurd ⟨by omega, h2⟩ h
    · exact h2)]; simp
set_option maxHeartbeats 16000000 in
set_option maxRecDepth 100000 in
theorem size15 {t : List S40} (hF : Fine t) {A : Option Addr} {c : Nat} {w : World} (hC : Kd.C k40 w A t.length t) (hc : t.length ≤ c) (a : Int) :
 Calls Try.prog 15 #[.slice A t.length c, .int .i64 a] w fun e w' => e = .returned (.int .i64 (sizeG t a)) ∧ Below w.heap.size w w' := by
 cases hg : goodR t with
 | false =>
  have HS := Aside0.mk (sizer_no hF hg hC hc)
  have R : Aside0 (sizeG t a = 0) := ⟨by unfold sizeG; rw [hg]; rfl⟩
  go_enter Try.func15, Try.ntmps15
  go_wp2_with (go_at_call 33; refine HS.out.mono ?_; rintro e w1 ⟨rfl, hB1⟩)
  go_ret
  exact ⟨by rw [R.out]; rfl, by first | exact hB1 | exact pw_below_drewN hB1 _⟩
 | true =>
  have HS := Aside0.mk (sizer_yes hF hg (szG t) hC hc)
  have HE := Aside0.mk (fun q (hq : w.heap.size ≤ q) => szG_env (good_of hg) hC hc hq)
  by_cases h0 : a < 0
  ·
   have b0 : decide (a < 0) = true := decide_eq_true h0
   have R : Aside0 (sizeG t a = 0) := ⟨by unfold sizeG; rw [inb_is, b0]; simp⟩
   go_enter Try.func15, Try.ntmps15
   go_wp2_with (go_at_call 33; refine HS.out.mono ?_; rintro e w1 ⟨q, rfl, hq, hW⟩)
   go_ret
   exact ⟨by rw [R.out]; rfl, by first | exact hW.below | exact pw_below_drewN hW.below _⟩
  ·
   have b0 : decide (a < 0) = false := decide_eq_false h0
   by_cases h1 : a ≥ (t.length : Int)
   ·
    have b1 : decide (a ≥ (t.length : Int)) = true := decide_eq_true h1
    have R : Aside0 (sizeG t a = 0) := ⟨by unfold sizeG; rw [inb_is, b1]; simp⟩
    go_enter Try.func15, Try.ntmps15
    go_wp2_with (go_at_call 33; refine HS.out.mono ?_; rintro e w1 ⟨q, rfl, hq, hW⟩)
    go_ret
    exact ⟨by rw [R.out]; rfl, by first | exact hW.below | exact pw_below_drewN hW.below _⟩
   ·
    have b1 : decide (a ≥ (t.length : Int)) = false := decide_eq_false h1
    have hi : InT t a := ⟨by omega, by omega⟩
    have R : Aside0 (sizeG t a = szG t a) := ⟨by unfold sizeG; rw [inb_yes hi, hg]; rfl⟩
    obtain ⟨N, hN⟩ := gd_deep (good_of hg)
    have HD := Aside0.mk (hN a hi)
    have HI := Aside0.mk hi
    clear hN h0 h1 hi
    go_enter Try.func15, Try.ntmps15
    go_wp2_with (first | (go_at_call 33; refine HS.out.mono ?_; rintro e w1 ⟨q, rfl, hq, hW⟩) | (go_at_call 34; refine (size_calls (HE.out q hq) N a _ HI.out HD.out (by first | exact hW | exact hW.on (pw_below_drewN (Below.refl _ _) _))).mono ?_; rintro e w2 ⟨rfl, hW2, hK2⟩))
    go_ret
    exact ⟨by rw [R.out]; rfl, hW2.below⟩
end Go.Proofs.Ytgnbemgeiloegaa.Ly
