import Derived.Test.YtgnbemgeiloegaaMLyF
import Derived.Test.YtgnbemgeiloegaaMEW
import Derived.Test.YtgnbemgeiloegaaMEPTypesGoodsx3
import Derived.Test.YtgnbemgeiloegaaMETgOpn
namespace Go.Proofs.Ytgnbemgeiloegaa.Ly
open Go.RowKit Go.Proofs.Ytgnbemgeiloegaa.Tg
open Go.Proofs.YtgnbemgeiloegaaW.PrintWords Go.Proofs.YtgnbemgeiloegaaW.PrintLast Go.Proofs.YtgnbemgeiloegaaW.PrintMore
set_option linter.unusedVariables false
set_option linter.unusedSimpArgs false
open Go.Proofs.Ytgnbemgeiloegaa.PTypesGoods
noncomputable def offG (t : List S40) (a : Int) (s : ByteArray) : Int × Int × Bool := if (goodR t && inb t a) = true then (if szG t a > 32768 then (0, 0, false) else offF t (szG t) s 7 a) else (0, 0, false)
set_option maxHeartbeats 16000000 in
set_option maxRecDepth 100000 in
theorem offset18 {t : List S40} (hF : Fine t) {A : Option Addr} {c : Nat} {w : World} (hC : Kd.C k40 w A t.length t) (hc : t.length ≤ c) (a : Int) (s : ByteArray) :
 Calls Try.prog 18 #[.slice A t.length c, .int .i64 a, .string s] w fun e w' => e = .returned (.tuple #[.int .i64 (offG t a s).1, .int .i64 (offG t a s).2.1, .bool (offG t a s).2.2]) ∧ Below w.heap.size w w' := by
 cases hg : goodR t with
 | false =>
  have HS := Aside0.mk (sizer_no hF hg hC hc)
  have R : Aside0 (offG t a s = (0, 0, false)) := ⟨by unfold offG; rw [hg]; rfl⟩
  go_enter Try.func18, Try.ntmps18
  go_wp2_with (go_at_call 33; refine HS.out.mono ?_; rintro e w1 ⟨rfl, hB1⟩)
  go_ret3
  exact ⟨by rw [R.out]; rfl, by first | exact hB1 | exact pw_below_drewN hB1 _⟩
 | true =>
  have HS := Aside0.mk (sizer_yes hF hg (szG t) hC hc)
  have HE := Aside0.mk (fun q (hq : w.heap.size ≤ q) => szG_env (good_of hg) hC hc hq)
  by_cases h0 : a < 0
  ·
   have b0 : decide (a < 0) = true := decide_eq_true h0
   have R : Aside0 (offG t a s = (0, 0, false)) := ⟨by unfold offG; rw [inb_is, b0]; simp⟩
   go_enter Try.func18, Try.ntmps18
   go_wp2_with (go_at_call 33; refine HS.out.mono ?_; rintro e w1 ⟨q, rfl, hq, hW⟩)
   go_ret3
   exact ⟨by rw [R.out]; rfl, by first | exact hW.below | exact pw_below_drewN hW.below _⟩
  ·
   have b0 : decide (a < 0) = false := decide_eq_false h0
   by_cases h1 : a ≥ (t.length : Int)
   ·
    have b1 : decide (a ≥ (t.length : Int)) = true := decide_eq_true h1
    have R : Aside0 (offG t a s = (0, 0, false)) := ⟨by unfold offG; rw [inb_is, b1]; simp⟩
    go_enter Try.func18, Try.ntmps18
    go_wp2_with (go_at_call 33; refine HS.out.mono ?_; rintro e w1 ⟨q, rfl, hq, hW⟩)
    go_ret3
    exact ⟨by rw [R.out]; rfl, by first | exact hW.below | exact pw_below_drewN hW.below _⟩
   ·
    have b1 : decide (a ≥ (t.length : Int)) = false := decide_eq_false h1
    have hi : InT t a := ⟨by omega, by omega⟩
    have R : Aside0 (offG t a s = if szG t a > 32768 then (0, 0, false) else offF t (szG t) s 7 a) := ⟨by unfold offG; rw [inb_yes hi, hg]; rfl⟩
    obtain ⟨N, hN⟩ := gd_deep (good_of hg)
    have HD := Aside0.mk hN
    have HI := Aside0.mk hi
    clear hN h0 h1 hi
    by_cases h2 : szG t a > 32768
    ·
     have b2 : decide (szG t a > 32768) = true := decide_eq_true h2
     replace R : Aside0 (offG t a s = (0, 0, false)) := ⟨R.out.trans (if_pos h2)⟩
     replace h2 := Aside0.mk h2
     go_enter Try.func18, Try.ntmps18
     go_wp2_with (first | (go_at_call 33; refine HS.out.mono ?_; rintro e w1 ⟨q, rfl, hq, hW⟩) | (go_at_call 34; refine (size_calls (HE.out q hq) N a _ HI.out (HD.out a HI.out) (by first | exact hW | exact hW.on (pw_below_drewN (Below.refl _ _) _))).mono ?_; rintro e w2 ⟨rfl, hW2, hK2⟩))
     go_ret3
     exact ⟨by rw [R.out]; rfl, by first | exact hW2.below | exact pw_below_drewN hW2.below _⟩
    ·
     have b2 : decide (szG t a > 32768) = false := decide_eq_false h2
     replace R : Aside0 (offG t a s = offF t (szG t) s 7 a) := ⟨R.out.trans (if_neg h2)⟩
     replace h2 := Aside0.mk h2
     go_enter Try.func18, Try.ntmps18
     go_wp2_with (first | (go_at_call 33; refine HS.out.mono ?_; rintro e w1 ⟨q, rfl, hq, hW⟩) | (go_at_call 34; refine (size_calls (HE.out q hq) N a _ HI.out (HD.out a HI.out) (by first | exact hW | exact hW.on (pw_below_drewN (Below.refl _ _) _))).mono ?_; rintro e w2 ⟨rfl, hW2, hK2⟩) | (go_at_call 38; refine (offset38 (HE.out q hq) HD.out a s _ HI.out (by first | exact hW2 | exact hW2.on (pw_below_drewN (Below.refl _ _) _))).mono ?_; rintro e w3 ⟨rfl, hW3⟩))
     go_ret3
     exact ⟨by rw [R.out]; rfl, by first | exact hW3.below | exact pw_below_drewN hW3.below _⟩
noncomputable def varF (t : List S40) (S : Int → Int) : List Int → Int → List Int → Option (List Int × Int)
 | [], n, out => some (out, n)
 | a :: r, n, out => if inb t a = true then (if plcEnd t S n a > 32768 then none else varF t S r (plcEnd t S n a) (out ++ [plcAt t n a])) else none
noncomputable def varG (t : List S40) (l : List Int) : List Int × Int := if goodR t = true then (match varF t (szG t) l 0 [] with
 | some r => (r.1, upP r.2)
 | none => ([], 0)) else ([], 0)
theorem rd_drop (l : List Int) (k : Nat) (h : k < l.length) : l.drop k = rd l (k : Int) :: l.drop (k + 1) := by
 rw [List.drop_eq_getElem_cons h]
 congr 1
 unfold rd
 simp [List.getD_eq_getElem?_getD, List.getElem?_eq_getElem h]
set_option maxHeartbeats 16000000 in
set_option maxRecDepth 100000 in
theorem vars20 {t : List S40} (hF : Fine t) {A : Option Addr} {c : Nat} {w : World} (hC : Kd.C k40 w A t.length t) (hc : t.length ≤ c) {l : List Int} {A1 : Option Addr} {c1 : Nat} (hL : Kd.C (Kd.int .i64) w A1 l.length l) (hlc : l.length ≤ c1) (hll : l.length ≤ 1000000) :
 Calls Try.prog 20 #[.slice A t.length c, .slice A1 l.length c1] w fun e w' => ∃ v : Value, e = .returned (.tuple #[v, .int .i64 (varG t l).2]) ∧ Kd.R (Kd.int .i64) 3 w' w.heap.size (fun _ => True) v (varG t l).1 ∧ Below w.heap.size w w' := by
 cases hg : goodR t with
 | false =>
  have HS := Aside0.mk (sizer_no hF hg hC hc)
  have R : Aside0 (varG t l = ([], 0)) := ⟨by unfold varG; rw [hg]; rfl⟩
  go_enter Try.func20, Try.ntmps20
  go_wp2_with (go_at_call 33; refine HS.out.mono ?_; rintro e w1 ⟨rfl, hB1⟩)
  go_ret2
  exact ⟨_, by rw [R.out]; rfl, by rw [R.out]; exact Kd.R_nil _ _ _ _ _, by first | exact hB1 | exact pw_below_drewN hB1 _⟩
 | true =>
  have HS := Aside0.mk (sizer_yes hF hg (szG t) hC hc)
  have HE := Aside0.mk (fun q (hq : w.heap.size ≤ q) => szG_env (good_of hg) hC hc hq)
  have HZ := Aside0.mk (szG_sizes (good_of hg))
  obtain ⟨N, hN⟩ := gd_deep (good_of hg)
  have HD := Aside0.mk hN
  have HV : Aside0 (varG t l = match varF t (szG t) l 0 [] with
   | some r => (r.1, upP r.2)
   | none => ([], 0)) := ⟨by unfold varG; rw [hg]; rfl⟩
  have HL := Aside0.mk hL
  clear hN hL hC
  go_enter Try.func20, Try.ntmps20
  go_upto_region 6 with (go_at_call 33; refine HS.out.mono ?_; rintro e w1 ⟨q, rfl, hq, hW⟩)
  go_wp2
  have HB := Aside0.mk hW
  clear hW
  go_loopw [18, 8, 7] (fun i n v wr => ∃ (k : Nat) (nn : Int) (out : List Int), k ≤ l.length ∧ i = .int .i64 k ∧ n = .int .i64 nn ∧ 0 ≤ nn ∧ nn ≤ 32768 ∧ out.length = k ∧ Aside0 (varF t (szG t) l 0 [] = varF t (szG t) (l.drop k) nn out) ∧ Aside0 (Kd.R (Kd.int .i64) 3 wr w.heap.size (fun b => b ≠ q) v out) ∧ Aside0 (WS t (szG t) w (.slice A t.length c) q wr)) (fun i _ _ _ => l.length - (intOf i).toNat)
  case atStart => exact ⟨0, 0, [], by omega, rfl, rfl, by omega, by omega, rfl, ⟨rfl⟩, ⟨Kd.R_nil _ _ _ _ _⟩, by first | exact HB | exact ⟨HB.out.on (pw_below_drewN (Below.refl _ _) _)⟩⟩
  case round =>
   clear HB
   obtain ⟨k, nn, out, hk, rfl, rfl, hn0, hn1, hout, hV, hO, HB⟩ := hrel
   by_cases hlt : k < l.length
   ·
    have hx : decide ((k : Int) < (l.length : Int)) = true := decide_eq_true (by omega)
    obtain ⟨ae, rfl, r0⟩ := Kd.at_int (Kd.C_below HL.out HB.out.below) (k : Int) (by omega) (by omega)
    rw [Int.toNat_natCast] at r0
    have hd := rd_drop l k hlt
    replace hV := Aside0.mk (hV.out.trans (by rw [hd] : _ = varF t (szG t) (rd l (k : Int) :: l.drop (k + 1)) nn out))
    clear hd
    generalize rd l (k : Int) = a at r0 hV
    by_cases h0 : a < 0
    ·
     have b0 : decide (a < 0) = true := decide_eq_true h0
     have R : Aside0 (varG t l = ([], 0)) := ⟨by rw [HV.out, hV.out, varF, inb_is, b0]; rfl⟩
     clear hV
     go_wp2
     go_ret2
     exact ⟨_, by rw [R.out]; rfl, by rw [R.out]; exact Kd.R_nil _ _ _ _ _, by first | exact HB.out.below | exact pw_below_drewN HB.out.below _⟩
    ·
     have b0 : decide (a < 0) = false := decide_eq_false h0
     by_cases h1 : a ≥ (t.length : Int)
     ·
      have b1 : decide (a ≥ (t.length : Int)) = true := decide_eq_true h1
      have R : Aside0 (varG t l = ([], 0)) := ⟨by rw [HV.out, hV.out, varF, inb_is, b1, Bool.or_true]; rfl⟩
      clear hV
      go_wp2
      go_ret2
      exact ⟨_, by rw [R.out]; rfl, by rw [R.out]; exact Kd.R_nil _ _ _ _ _, by first | exact HB.out.below | exact pw_below_drewN HB.out.below _⟩
     ·
      have b1 : decide (a ≥ (t.length : Int)) = false := decide_eq_false h1
      have hi : InT t a := ⟨by omega, by omega⟩
      have HI := Aside0.mk hi
      have hp := plcEnd_in (t := t) (S := szG t) (a := a) hn0 (HZ.out.lo a hi)
      replace hV := Aside0.mk (hV.out.trans (by rw [varF, if_pos (inb_yes hi)] : _ = if plcEnd t (szG t) nn a > 32768 then none else varF t (szG t) (l.drop (k + 1)) (plcEnd t (szG t) nn a) (out ++ [plcAt t nn a])))
      clear h0 h1 hi
      by_cases h2 : plcEnd t (szG t) nn a > 32768
      ·
       have b2 : decide (plcEnd t (szG t) nn a > 32768) = true := decide_eq_true h2
       have R : Aside0 (varG t l = ([], 0)) := ⟨by rw [HV.out, hV.out, if_pos h2]⟩
       replace h2 := Aside0.mk h2
       clear hV
       go_wp2_with (first | (go_at_call 41; refine (place_calls (HE.out q hq) N nn a _ HI.out (HD.out a HI.out) hn0 (by omega) (by first | exact HB.out | exact HB.out.on (pw_below_drewN (Below.refl _ _) _))).mono ?_; rintro e w2 ⟨rfl, hW2, hK2⟩; have hO2 : Aside0 (Kd.R (Kd.int .i64) 3 w2 w.heap.size (fun b => b ≠ q) u7 out) := ⟨Kd.R_keep hO.out (by first | exact hK2 | exact (KeepBut.of_below (pw_below_drewN (Below.refl _ _) _) q none).trans hK2 (.inl rfl)) (fun _ h => h)⟩; clear hK2) | ((with_reducible refine gate_builtin (b := .append) (xs := #[.tmp 37, .tmp 39]) rfl ?_); at_builtin; refine Kd.R_append (Kd.int .i64) (w0 := w) w.heap.size rfl (.tmp 37) (.tmp 39) 32 3 (.int .i64 0) 8 rfl Try.underlying32 info3 rfl (by decide) (by omega) u7 out (plcAt t nn a) [.int .i64 (plcAt t nn a)] (fun b => b ≠ q) (fun _ => False) rfl rfl ?aP (fun _ hk => hk.elim) ?aF ?aO ?aB ?aS ?aL ?_; (case aP => exact rfl); (case aB => first | exact hW2.below | exact pw_below_drewN hW2.below _); (case aF => exact (fun b hb => by have h1 := hW2.z.lt; have h2 : w2.heap.size ≤ b := hb; omega)); (case aO => first | exact hO2.out | exact Kd.R_drewN hO2.out _); (case aS => first | exact hW2.below.size | exact (pw_below_drewN hW2.below _).size); (case aL => omega); intro v1 w7 ho hb hg hat; have HW7 := Aside0.mk (WS.mk (hW2.z.kept (hg.block q hW2.z.lt (fun e => hO2.out.1 q e.symm rfl))) hb : WS t (szG t) w (.slice A t.length c) q w7); have HO7 := Aside0.mk ho; clear ho hb hg hat))
       go_ret2
       exact ⟨_, by rw [R.out]; rfl, by rw [R.out]; exact Kd.R_nil _ _ _ _ _, by first | exact HW7.out.below | exact pw_below_drewN HW7.out.below _⟩
      ·
       have b2 : decide (plcEnd t (szG t) nn a > 32768) = false := decide_eq_false h2
       have hV2 := Aside0.mk (hV.out.trans (if_neg h2))
       clear hV
       go_wp2_with (first | (go_at_call 41; refine (place_calls (HE.out q hq) N nn a _ HI.out (HD.out a HI.out) hn0 (by omega) (by first | exact HB.out | exact HB.out.on (pw_below_drewN (Below.refl _ _) _))).mono ?_; rintro e w2 ⟨rfl, hW2, hK2⟩; have hO2 : Aside0 (Kd.R (Kd.int .i64) 3 w2 w.heap.size (fun b => b ≠ q) u7 out) := ⟨Kd.R_keep hO.out (by first | exact hK2 | exact (KeepBut.of_below (pw_below_drewN (Below.refl _ _) _) q none).trans hK2 (.inl rfl)) (fun _ h => h)⟩; clear hK2) | ((with_reducible refine gate_builtin (b := .append) (xs := #[.tmp 37, .tmp 39]) rfl ?_); at_builtin; refine Kd.R_append (Kd.int .i64) (w0 := w) w.heap.size rfl (.tmp 37) (.tmp 39) 32 3 (.int .i64 0) 8 rfl Try.underlying32 info3 rfl (by decide) (by omega) u7 out (plcAt t nn a) [.int .i64 (plcAt t nn a)] (fun b => b ≠ q) (fun _ => False) rfl rfl ?aP (fun _ hk => hk.elim) ?aF ?aO ?aB ?aS ?aL ?_; (case aP => exact rfl); (case aB => first | exact hW2.below | exact pw_below_drewN hW2.below _); (case aF => exact (fun b hb => by have h1 := hW2.z.lt; have h2 : w2.heap.size ≤ b := hb; omega)); (case aO => first | exact hO2.out | exact Kd.R_drewN hO2.out _); (case aS => first | exact hW2.below.size | exact (pw_below_drewN hW2.below _).size); (case aL => omega); intro v1 w7 ho hb hg hat; have HW7 := Aside0.mk (WS.mk (hW2.z.kept (hg.block q hW2.z.lt (fun e => hO2.out.1 q e.symm rfl))) hb : WS t (szG t) w (.slice A t.length c) q w7); have HO7 := Aside0.mk ho; clear ho hb hg hat))
       go_roundw
       case rel => exact ⟨k + 1, _, _, by omega, by go_num, rfl, hp.1, by omega, by simp [hout], hV2, by first | exact HO7 | exact ⟨Kd.R_drewN HO7.out _⟩, by first | exact HW7 | exact ⟨HW7.out.on (pw_below_drewN (Below.refl _ _) _)⟩⟩
       case measure => simp [intOf]; omega
   ·
    have hx : decide ((k : Int) < (l.length : Int)) = false := decide_eq_false (by omega)
    have hdn : l.drop k = [] := List.drop_of_length_le (by omega)
    have R : Aside0 (varG t l = (out, upP nn)) := ⟨by rw [HV.out, hV.out, hdn]; rfl⟩
    clear hdn hV
    go_wp2
    go_ret2
    exact ⟨_, by rw [R.out]; rfl, by rw [R.out]; exact Kd.R_mono (by first | exact hO.out | exact Kd.R_drewN hO.out _) (fun _ _ => trivial), by first | exact HB.out.below | exact pw_below_drewN HB.out.below _⟩
end Go.Proofs.Ytgnbemgeiloegaa.Ly
