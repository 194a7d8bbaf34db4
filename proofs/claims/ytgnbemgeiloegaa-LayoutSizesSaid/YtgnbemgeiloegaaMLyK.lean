import Derived.Test.YtgnbemgeiloegaaMLyG
import Derived.Test.YtgnbemgeiloegaaMLyJ
import Derived.Test.YtgnbemgeiloegaaMEW
import Derived.Test.YtgnbemgeiloegaaMEPTypesGoodsx3
import Derived.Test.YtgnbemgeiloegaaMETgOpn
namespace Go.Proofs.Ytgnbemgeiloegaa.Ly
open Go.RowKit Go.Proofs.Ytgnbemgeiloegaa.Tg
open Go.Proofs.YtgnbemgeiloegaaW.PrintWords Go.Proofs.YtgnbemgeiloegaaW.PrintLast Go.Proofs.YtgnbemgeiloegaaW.PrintMore
set_option linter.unusedVariables false
set_option linter.unusedSimpArgs false
open Go.Proofs.Ytgnbemgeiloegaa.PTypesGoods
theorem all36 {t : List S40} {S : Int → Int} {w0 : World} {A : Option Addr} {c q g : Nat} (E : EnvR t S w0 A c) : ∀ d, At36 t S w0 A c q g d
 | 0 => fun a w ha hd hw => hd.elim
 | d + 1 => size36 E (all36 E d) (laid39 E (all36 E d))
theorem RW.base {t : List S40} {S : Int → Int} {w0 w w2 : World} {v : Value} {q g : Nat} (h : RW t S w v q g w2) (hb : Below w0.heap.size w0 w) : RW t S w0 v q g w2 :=
 ⟨h.z, hb.trans (h.below.mono hb.size), Nat.le_trans hb.size h.hq, Nat.le_trans hb.size h.hg⟩
noncomputable def varR (t : List S40) (l : List Int) : List Int × Int := if goodR t = true then (if l.all (inb t) = true then (if upP (endsR t (szG t) 0 l) > 32768 then ([], 0) else (atsR t (szG t) 0 l, upP (endsR t (szG t) 0 l))) else ([], 0)) else ([], 0)
set_option maxHeartbeats 16000000 in
set_option maxRecDepth 100000 in
theorem vars21 {t : List S40} (hF : Fine t) {A : Option Addr} {c : Nat} {w : World} (hC : Kd.C k40 w A t.length t) (hc : t.length ≤ c) {l : List Int} {A1 : Option Addr} {c1 : Nat} (hL : Kd.C (Kd.int .i64) w A1 l.length l) (hlc : l.length ≤ c1) (hll : l.length ≤ 1000000) :
 Calls Try.prog 21 #[.slice A t.length c, .slice A1 l.length c1] w fun e w' => ∃ v : Value, e = .returned (.tuple #[v, .int .i64 (varR t l).2]) ∧ Kd.R (Kd.int .i64) 3 w' w.heap.size (fun _ => True) v (varR t l).1 ∧ Below w.heap.size w w' := by
 have HG := Aside0.mk (spinetref13_Good.calls A c t (goodR t) w hC hc (fine_ref hF))
 cases hg : goodR t with
 | false =>
  rw [hg] at HG
  have R : Aside0 (varR t l = ([], 0)) := ⟨by unfold varR; rw [hg]; rfl⟩
  go_enter Try.func21, Try.ntmps21
  go_wp2_with (go_at_call 23; refine HG.out.mono ?_; rintro e w1 ⟨rfl, hB1⟩)
  go_ret2
  exact ⟨_, by rw [R.out]; rfl, by rw [R.out]; exact Kd.R_nil _ _ _ _ _, by first | exact hB1 | exact pw_below_drewN hB1 _⟩
 | true =>
  rw [hg] at HG
  have HZ := Aside0.mk (szG_sizes (good_of hg))
  have hhi := (good_of hg).hi
  have HE : Aside0 (EnvR t (szG t) w A c) := ⟨⟨good_of hg, szG_sizes (good_of hg), hC, hc⟩⟩
  obtain ⟨N, hN⟩ := gd_deep (good_of hg)
  have HD := Aside0.mk hN
  have HV : Aside0 (varR t l = if l.all (inb t) = true then (if upP (endsR t (szG t) 0 l) > 32768 then ([], 0) else (atsR t (szG t) 0 l, upP (endsR t (szG t) 0 l))) else ([], 0)) := ⟨by unfold varR; rw [hg]; rfl⟩
  have HL := Aside0.mk hL
  clear hN hL hC
  go_enter Try.func21, Try.ntmps21
  go_upto_region 3 with (go_at_call 23; refine HG.out.mono ?_; rintro e w1 ⟨rfl, hB1⟩)
  go_wp2
  have HB := Aside0.mk hB1
  clear hB1
  go_loopw [6] (fun i wr => ∃ k : Nat, k ≤ l.length ∧ i = .int .i64 k ∧ Aside0 (l.all (inb t) = (l.drop k).all (inb t)) ∧ Aside0 (Below w.heap.size w wr)) (fun i _ => l.length - (intOf i).toNat)
  case atStart => exact ⟨0, by omega, rfl, ⟨rfl⟩, by first | exact HB | exact ⟨pw_below_drewN HB.out _⟩⟩
  case round =>
   clear HB
   obtain ⟨k, hk, rfl, hV, HB⟩ := hrel
   by_cases hlt : k < l.length
   ·
    have hx : decide ((k : Int) < (l.length : Int)) = true := decide_eq_true (by omega)
    obtain ⟨ae, rfl, r0⟩ := Kd.at_int (Kd.C_below HL.out HB.out) (k : Int) (by omega) (by omega)
    rw [Int.toNat_natCast] at r0
    have hd := rd_drop l k hlt
    replace hV := Aside0.mk (hV.out.trans (by rw [hd]; rfl : _ = (inb t (rd l (k : Int)) && (l.drop (k + 1)).all (inb t))))
    clear hd
    generalize rd l (k : Int) = a at r0 hV
    by_cases h0 : a < 0
    ·
     have b0 : decide (a < 0) = true := decide_eq_true h0
     have R : Aside0 (varR t l = ([], 0)) := ⟨by rw [HV.out, hV.out, inb_is, b0]; rfl⟩
     clear hV
     go_wp2
     go_ret2
     exact ⟨_, by rw [R.out]; rfl, by rw [R.out]; exact Kd.R_nil _ _ _ _ _, by first | exact HB.out | exact pw_below_drewN HB.out _⟩
    ·
     have b0 : decide (a < 0) = false := decide_eq_false h0
     by_cases h1 : a ≥ (t.length : Int)
     ·
      have b1 : decide (a ≥ (t.length : Int)) = true := decide_eq_true h1
      have R : Aside0 (varR t l = ([], 0)) := ⟨by rw [HV.out, hV.out, inb_is, b1, Bool.or_true]; rfl⟩
      clear hV
      go_wp2
      go_ret2
      exact ⟨_, by rw [R.out]; rfl, by rw [R.out]; exact Kd.R_nil _ _ _ _ _, by first | exact HB.out | exact pw_below_drewN HB.out _⟩
     ·
      have b1 : decide (a ≥ (t.length : Int)) = false := decide_eq_false h1
      replace hV := Aside0.mk (hV.out.trans (by rw [inb_yes ⟨by omega, by omega⟩, Bool.true_and] : _ = (l.drop (k + 1)).all (inb t)))
      clear h0 h1
      go_wp2
      go_roundw
      case rel => exact ⟨k + 1, by omega, by go_num, hV, by first | exact HB | exact ⟨pw_below_drewN HB.out _⟩⟩
      case measure => simp [intOf]; omega
   ·
    have hx : decide ((k : Int) < (l.length : Int)) = false := decide_eq_false (by omega)
    have hall : l.all (inb t) = true := by rw [hV.out, List.drop_of_length_le (by omega)]; rfl
    rw [if_pos hall] at HV
    have HN : Aside0 (∀ b ∈ l, InT t b ∧ Deep (insP t) N b) := ⟨fun b hb => by
     have := (List.all_eq_true.1 hall) b hb
     have hi : InT t b := by
      by_cases h : InT t b
      · exact h
      · rw [inb_no h] at this; cases this
     exact ⟨hi, HD.out b hi⟩⟩
    have hr := endsR_in (t := t) (S := szG t) l 0 (by omega) (by omega) (fun b hb => HZ.out.lo _ (HN.out b hb).1)
    clear hV hall
    by_cases h2 : upP (endsR t (szG t) 0 l) > 32768
    ·
     have b2 : decide (upP (endsR t (szG t) 0 l) > 32768) = true := decide_eq_true h2
     have R : Aside0 (varR t l = ([], 0)) := ⟨HV.out.trans (if_pos h2)⟩
     replace h2 := Aside0.mk h2
     go_wp2_with (first | (go_at_call 35; refine (new35 hhi (szG t) A c _).mono ?_; rintro e w2 ⟨q, g, rfl, hW⟩; have HW := Aside0.mk (hW.base (by first | exact HB.out | exact pw_below_drewN HB.out _)); clear hW) | (go_at_call 39; refine (laid39 HE.out (all36 HE.out N) l A1 c1 0 _ (by first | with_reducible exact Kd.C_foot_came (Kd.heap_int _) HL.out HW.out.below HW.out.hg | exact Kd.C_foot_came (Kd.heap_int _) HL.out (pw_below_drewN HW.out.below _) HW.out.hg) hlc hll HN.out (by omega) (by omega) (by first | with_reducible exact HW.out | exact HW.out.on (pw_below_drewN (Below.refl _ _) _))).mono ?_; rintro e w3 ⟨v3, rfl, hR3, hW3, hK3⟩; have HX := Aside0.mk (And.intro (Kd.R_lower (base' := w.heap.size) (Kd.R_mono (ok' := fun _ => True) hR3 (fun _ _ => trivial)) (by first | with_reducible exact HW.out.below.size | exact (pw_below_drewN HW.out.below _).size)) hW3.below); clear hR3 hW3 hK3) | (go_at_call 42; refine (spinetref14_up.calls _ (upP (endsR t (szG t) 0 l)) _ (up14_is hr.1 (by omega))).mono ?_; rintro e w4 ⟨rfl, hD4⟩; have HX2 := Aside0.mk (And.intro (Kd.R_below HX.out.1 (by first | with_reducible exact hD4.below | exact (pw_below_drewN (Below.refl _ _) _).trans hD4.below)) (HX.out.2.trans ((show Below _ _ w4 by first | with_reducible exact hD4.below | exact (pw_below_drewN (Below.refl _ _) _).trans hD4.below).mono HX.out.2.size))); clear hD4 HX; have HX := HX2; clear HX2))
     go_ret2
     exact ⟨_, by rw [R.out]; rfl, by rw [R.out]; exact Kd.R_nil _ _ _ _ _, by first | exact HX.out.2 | exact pw_below_drewN HX.out.2 _⟩
    ·
     have b2 : decide (upP (endsR t (szG t) 0 l) > 32768) = false := decide_eq_false h2
     have R : Aside0 (varR t l = (atsR t (szG t) 0 l, upP (endsR t (szG t) 0 l))) := ⟨HV.out.trans (if_neg h2)⟩
     replace h2 := Aside0.mk h2
     go_wp2_with (first | (go_at_call 35; refine (new35 hhi (szG t) A c _).mono ?_; rintro e w2 ⟨q, g, rfl, hW⟩; have HW := Aside0.mk (hW.base (by first | exact HB.out | exact pw_below_drewN HB.out _)); clear hW) | (go_at_call 39; refine (laid39 HE.out (all36 HE.out N) l A1 c1 0 _ (by first | with_reducible exact Kd.C_foot_came (Kd.heap_int _) HL.out HW.out.below HW.out.hg | exact Kd.C_foot_came (Kd.heap_int _) HL.out (pw_below_drewN HW.out.below _) HW.out.hg) hlc hll HN.out (by omega) (by omega) (by first | with_reducible exact HW.out | exact HW.out.on (pw_below_drewN (Below.refl _ _) _))).mono ?_; rintro e w3 ⟨v3, rfl, hR3, hW3, hK3⟩; have HX := Aside0.mk (And.intro (Kd.R_lower (base' := w.heap.size) (Kd.R_mono (ok' := fun _ => True) hR3 (fun _ _ => trivial)) (by first | with_reducible exact HW.out.below.size | exact (pw_below_drewN HW.out.below _).size)) hW3.below); clear hR3 hW3 hK3) | (go_at_call 42; refine (spinetref14_up.calls _ (upP (endsR t (szG t) 0 l)) _ (up14_is hr.1 (by omega))).mono ?_; rintro e w4 ⟨rfl, hD4⟩; have HX2 := Aside0.mk (And.intro (Kd.R_below HX.out.1 (by first | with_reducible exact hD4.below | exact (pw_below_drewN (Below.refl _ _) _).trans hD4.below)) (HX.out.2.trans ((show Below _ _ w4 by first | with_reducible exact hD4.below | exact (pw_below_drewN (Below.refl _ _) _).trans hD4.below).mono HX.out.2.size))); clear hD4 HX; have HX := HX2; clear HX2))
     go_ret2
     exact ⟨_, by rw [R.out]; rfl, by rw [R.out]; first | exact HX.out.1 | exact Kd.R_drewN HX.out.1 _, by first | exact HX.out.2 | exact pw_below_drewN HX.out.2 _⟩
end Go.Proofs.Ytgnbemgeiloegaa.Ly
