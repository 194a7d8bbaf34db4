import Derived.Test.YtgnbemgeiloegaaMTgM
namespace Go.Proofs.Ytgnbemgeiloegaa.PTypesGoods
open Go.RowKit Go.Proofs.YtgnbemgeiloegaaW.PrintWords Go.Proofs.YtgnbemgeiloegaaW.PrintLast Go.Proofs.YtgnbemgeiloegaaW.PrintMore
attribute [local go_sem] max2_int min2_int max_two min_two max_three min_three max_four min_four
set_option linter.unusedVariables false
set_option linter.unusedSimpArgs false
def spinetlaw13_Large.l0 : Nat → List (S40) → Int → Int → Option (Bool)
 | 0, _, _, _ => none
 | k + 1, x0, x3, x4 => if x4 < (x0.length : Int) then (if 0 ≤ x4 then (if (wrap64 (x3 + (wrap64 ((wrap64 ((wrap64 ((((rd_T40 x0 x4).f6).length : Int) + (((rd_T40 x0 x4).f7).length : Int))) + (wrap64 ((((rd_T40 x0 x4).f2).size : Int) / 50)))) + (wrap64 ((((rd_T40 x0 x4).f1).size : Int) / 50)))))) > 3000 then (some true) else (spinetlaw13_Large.l0 k x0 (wrap64 (x3 + (wrap64 ((wrap64 ((wrap64 ((((rd_T40 x0 x4).f6).length : Int) + (((rd_T40 x0 x4).f7).length : Int))) + (wrap64 ((((rd_T40 x0 x4).f2).size : Int) / 50)))) + (wrap64 ((((rd_T40 x0 x4).f1).size : Int) / 50)))))) (wrap64 (x4 + 1)))) else (none)) else (some false)
def spinetlaw13_Large.f (k : Nat) (l0 : List (S40)) : Option (Bool) := if (l0.length : Int) > 300 then (some true) else (spinetlaw13_Large.l0 k l0 0 0)
set_option maxHeartbeats 8000000 in
set_option maxRecDepth 100000 in
theorem spinetlaw13_Large.calls (k : Nat) (A0 : Option Addr) (c0 : Nat) (l0 : List (S40)) (r : Bool) (w : World) (hr0 : Kd.C k40 w A0 l0.length l0) (hc0 : l0.length ≤ c0) (h : spinetlaw13_Large.f k l0 = some r) :
 Calls Try.prog 12 #[.slice A0 l0.length c0] w fun e w' => e = .returned (.bool r) ∧ Drawn0 w w' := by
 have HR0 := Aside0.mk hr0
 have HC0 := Aside0.mk hc0
 clear hr0 hc0
 have H : (if (l0.length : Int) > 300 then (some true) else (spinetlaw13_Large.l0 k l0 0 0)) = some r := h
 clear h
 by_cases c2 : (l0.length : Int) > 300
 ·
  rw [if_pos c2] at H
  have c2b0 : decide (300 < (l0.length : Int)) = true := decide_eq_true c2
  have c2b1 : decide (300 < l0.length) = true := decide_eq_true (by omega)
  clear c2
  obtain rfl := Option.some.inj H
  go_enter Try.func12, Try.ntmps12
  go_wp2
  repeat (go_quiet (fail); try go_wp2)
  go_ret
  exact ⟨by first | rfl | (simp; done) | (simp [*]; done), by repeat (first | exact Drawn0.refl _ | apply Drawn0.step)⟩
 ·
  rw [if_neg c2] at H
  have c2b0 : decide (300 < (l0.length : Int)) = false := decide_eq_false c2
  have c2b1 : decide (300 < l0.length) = false := decide_eq_false (by omega)
  clear c2
  have H' := Aside0.mk H
  clear H
  go_enter Try.func12, Try.ntmps12
  go_wp2
  repeat (go_quiet (fail); try go_wp2)
  go_loopg [3, 4] k (fun kq v3 v4 w' => ∃ (x3_1 : Int) (x4_1 : Int), v3 = .int .i64 x3_1 ∧ v4 = .int .i64 x4_1 ∧ Aside0 (spinetlaw13_Large.l0 kq l0 x3_1 x4_1 = some r) ∧ Aside0 (kq ≤ k) ∧ Drawn0 w w')
  case atStart => exact ⟨(0), (0), (by first | rfl | (simp; done) | (simp [*]; done)), (by first | rfl | (simp; done) | (simp [*]; done)), H', ⟨Nat.le_refl _⟩, by repeat (first | exact Drawn0.refl _ | apply Drawn0.step)⟩
  case round =>
   clear H'
   try clear c1
   try clear c2
   try clear c2b0
   try clear c2b1
   try clear p2
   obtain ⟨x3_1, x4_1, rfl, rfl, HA, HK1, ⟨m1, rfl⟩⟩ := hrel
   cases gk with
   | zero => exact absurd HA.out (by simp [spinetlaw13_Large.l0])
   | succ k1 =>
    have H := HA.out
    clear HA
    simp only [spinetlaw13_Large.l0] at H
    by_cases c3 : x4_1 < (l0.length : Int)
    ·
     rw [if_pos c3] at H
     have c3b0 : decide (x4_1 < (l0.length : Int)) = true := decide_eq_true c3
     clear c3
     by_cases c4 : 0 ≤ x4_1
     ·
      rw [if_pos c4] at H
      have c4b0 : decide (0 ≤ x4_1) = true := decide_eq_true c4
      clear c4
      by_cases c5 : (wrap64 (x3_1 + (wrap64 ((wrap64 ((wrap64 ((((rd_T40 l0 x4_1).f6).length : Int) + (((rd_T40 l0 x4_1).f7).length : Int))) + (wrap64 ((((rd_T40 l0 x4_1).f2).size : Int) / 50)))) + (wrap64 ((((rd_T40 l0 x4_1).f1).size : Int) / 50)))))) > 3000
      ·
       rw [if_pos c5] at H
       have c5b0 : decide (3000 < (wrap64 (x3_1 + (wrap64 ((wrap64 ((wrap64 ((((rd_T40 l0 x4_1).f6).length : Int) + (((rd_T40 l0 x4_1).f7).length : Int))) + (wrap64 ((((rd_T40 l0 x4_1).f2).size : Int) / 50)))) + (wrap64 ((((rd_T40 l0 x4_1).f1).size : Int) / 50))))))) = true := decide_eq_true c5
       clear c5
       obtain rfl := Option.some.inj H
       have p101 : 0 ≤ (x4_1 : Int) := of_decide_eq_true (by first | (with_reducible assumption) | assumption)
       have q101 : x4_1 < (l0.length : Int) := of_decide_eq_true (by first | (with_reducible assumption) | assumption)
       obtain ⟨ad101, A101_6, c101_6, A101_7, c101_7, e101, hx101_0, hx101_1, hx101_2, hx101_3, hx101_4, hx101_5, hx101_6, hx101_7, hx101_8, hx101_9, hl101_6, hi101_6, hl101_7, hi101_7⟩ := at_T40 HR0.out x4_1 p101 q101
       cases e101
       have HR101_6 := Aside0.mk hi101_6
       have HC101_6 := Aside0.mk hl101_6
       clear hi101_6 hl101_6
       have HR101_7 := Aside0.mk hi101_7
       have HC101_7 := Aside0.mk hl101_7
       clear hi101_7 hl101_7
       replace p101 := eq_true p101
       replace q101 := eq_true q101
       have p102 : 0 ≤ (x4_1 : Int) := of_decide_eq_true (by first | (with_reducible assumption) | assumption)
       have q102 : x4_1 < (l0.length : Int) := of_decide_eq_true (by first | (with_reducible assumption) | assumption)
       obtain ⟨ad102, A102_6, c102_6, A102_7, c102_7, e102, hx102_0, hx102_1, hx102_2, hx102_3, hx102_4, hx102_5, hx102_6, hx102_7, hx102_8, hx102_9, hl102_6, hi102_6, hl102_7, hi102_7⟩ := at_T40 HR0.out x4_1 p102 q102
       obtain rfl : ad101 = ad102 := (by injection e102)
       have HR102_6 := Aside0.mk hi102_6
       have HC102_6 := Aside0.mk hl102_6
       clear hi102_6 hl102_6
       have HR102_7 := Aside0.mk hi102_7
       have HC102_7 := Aside0.mk hl102_7
       clear hi102_7 hl102_7
       replace p102 := eq_true p102
       replace q102 := eq_true q102
       have ea_ := Option.some.inj (hx101_6.symm.trans hx102_6)
       injection ea_ with ea_ en_ ec_
       subst ea_
       subst ec_
       clear en_
       have ea_ := Option.some.inj (hx101_7.symm.trans hx102_7)
       injection ea_ with ea_ en_ ec_
       subst ea_
       subst ec_
       clear en_
       have p103 : 0 ≤ (x4_1 : Int) := of_decide_eq_true (by first | (with_reducible assumption) | assumption)
       have q103 : x4_1 < (l0.length : Int) := of_decide_eq_true (by first | (with_reducible assumption) | assumption)
       obtain ⟨ad103, A103_6, c103_6, A103_7, c103_7, e103, hx103_0, hx103_1, hx103_2, hx103_3, hx103_4, hx103_5, hx103_6, hx103_7, hx103_8, hx103_9, hl103_6, hi103_6, hl103_7, hi103_7⟩ := at_T40 HR0.out x4_1 p103 q103
       obtain rfl : ad101 = ad103 := (by injection e103)
       have HR103_6 := Aside0.mk hi103_6
       have HC103_6 := Aside0.mk hl103_6
       clear hi103_6 hl103_6
       have HR103_7 := Aside0.mk hi103_7
       have HC103_7 := Aside0.mk hl103_7
       clear hi103_7 hl103_7
       replace p103 := eq_true p103
       replace q103 := eq_true q103
       have ea_ := Option.some.inj (hx101_6.symm.trans hx103_6)
       injection ea_ with ea_ en_ ec_
       subst ea_
       subst ec_
       clear en_
       have ea_ := Option.some.inj (hx101_7.symm.trans hx103_7)
       injection ea_ with ea_ en_ ec_
       subst ea_
       subst ec_
       clear en_
       have p104 : 0 ≤ (x4_1 : Int) := of_decide_eq_true (by first | (with_reducible assumption) | assumption)
       have q104 : x4_1 < (l0.length : Int) := of_decide_eq_true (by first | (with_reducible assumption) | assumption)
       obtain ⟨ad104, A104_6, c104_6, A104_7, c104_7, e104, hx104_0, hx104_1, hx104_2, hx104_3, hx104_4, hx104_5, hx104_6, hx104_7, hx104_8, hx104_9, hl104_6, hi104_6, hl104_7, hi104_7⟩ := at_T40 HR0.out x4_1 p104 q104
       obtain rfl : ad101 = ad104 := (by injection e104)
       have HR104_6 := Aside0.mk hi104_6
       have HC104_6 := Aside0.mk hl104_6
       clear hi104_6 hl104_6
       have HR104_7 := Aside0.mk hi104_7
       have HC104_7 := Aside0.mk hl104_7
       clear hi104_7 hl104_7
       replace p104 := eq_true p104
       replace q104 := eq_true q104
       have ea_ := Option.some.inj (hx101_6.symm.trans hx104_6)
       injection ea_ with ea_ en_ ec_
       subst ea_
       subst ec_
       clear en_
       have ea_ := Option.some.inj (hx101_7.symm.trans hx104_7)
       injection ea_ with ea_ en_ ec_
       subst ea_
       subst ec_
       clear en_
       go_wp2
       repeat (go_quiet (fail); try go_wp2)
       go_ret
       exact ⟨by first | rfl | (simp; done) | (simp [*]; done), by repeat (first | exact Drawn0.refl _ | apply Drawn0.step)⟩
      ·
       rw [if_neg c5] at H
       have c5b0 : decide (3000 < (wrap64 (x3_1 + (wrap64 ((wrap64 ((wrap64 ((((rd_T40 l0 x4_1).f6).length : Int) + (((rd_T40 l0 x4_1).f7).length : Int))) + (wrap64 ((((rd_T40 l0 x4_1).f2).size : Int) / 50)))) + (wrap64 ((((rd_T40 l0 x4_1).f1).size : Int) / 50))))))) = false := decide_eq_false c5
       clear c5
       have H' := Aside0.mk H
       clear H
       have p101 : 0 ≤ (x4_1 : Int) := of_decide_eq_true (by first | (with_reducible assumption) | assumption)
       have q101 : x4_1 < (l0.length : Int) := of_decide_eq_true (by first | (with_reducible assumption) | assumption)
       obtain ⟨ad101, A101_6, c101_6, A101_7, c101_7, e101, hx101_0, hx101_1, hx101_2, hx101_3, hx101_4, hx101_5, hx101_6, hx101_7, hx101_8, hx101_9, hl101_6, hi101_6, hl101_7, hi101_7⟩ := at_T40 HR0.out x4_1 p101 q101
       cases e101
       have HR101_6 := Aside0.mk hi101_6
       have HC101_6 := Aside0.mk hl101_6
       clear hi101_6 hl101_6
       have HR101_7 := Aside0.mk hi101_7
       have HC101_7 := Aside0.mk hl101_7
       clear hi101_7 hl101_7
       replace p101 := eq_true p101
       replace q101 := eq_true q101
       have p102 : 0 ≤ (x4_1 : Int) := of_decide_eq_true (by first | (with_reducible assumption) | assumption)
       have q102 : x4_1 < (l0.length : Int) := of_decide_eq_true (by first | (with_reducible assumption) | assumption)
       obtain ⟨ad102, A102_6, c102_6, A102_7, c102_7, e102, hx102_0, hx102_1, hx102_2, hx102_3, hx102_4, hx102_5, hx102_6, hx102_7, hx102_8, hx102_9, hl102_6, hi102_6, hl102_7, hi102_7⟩ := at_T40 HR0.out x4_1 p102 q102
       obtain rfl : ad101 = ad102 := (by injection e102)
       have HR102_6 := Aside0.mk hi102_6
       have HC102_6 := Aside0.mk hl102_6
       clear hi102_6 hl102_6
       have HR102_7 := Aside0.mk hi102_7
       have HC102_7 := Aside0.mk hl102_7
       clear hi102_7 hl102_7
       replace p102 := eq_true p102
       replace q102 := eq_true q102
       have ea_ := Option.some.inj (hx101_6.symm.trans hx102_6)
       injection ea_ with ea_ en_ ec_
       subst ea_
       subst ec_
       clear en_
       have ea_ := Option.some.inj (hx101_7.symm.trans hx102_7)
       injection ea_ with ea_ en_ ec_
       subst ea_
       subst ec_
       clear en_
       have p103 : 0 ≤ (x4_1 : Int) := of_decide_eq_true (by first | (with_reducible assumption) | assumption)
       have q103 : x4_1 < (l0.length : Int) := of_decide_eq_true (by first | (with_reducible assumption) | assumption)
       obtain ⟨ad103, A103_6, c103_6, A103_7, c103_7, e103, hx103_0, hx103_1, hx103_2, hx103_3, hx103_4, hx103_5, hx103_6, hx103_7, hx103_8, hx103_9, hl103_6, hi103_6, hl103_7, hi103_7⟩ := at_T40 HR0.out x4_1 p103 q103
       obtain rfl : ad101 = ad103 := (by injection e103)
       have HR103_6 := Aside0.mk hi103_6
       have HC103_6 := Aside0.mk hl103_6
       clear hi103_6 hl103_6
       have HR103_7 := Aside0.mk hi103_7
       have HC103_7 := Aside0.mk hl103_7
       clear hi103_7 hl103_7
       replace p103 := eq_true p103
       replace q103 := eq_true q103
       have ea_ := Option.some.inj (hx101_6.symm.trans hx103_6)
       injection ea_ with ea_ en_ ec_
       subst ea_
       subst ec_
       clear en_
       have ea_ := Option.some.inj (hx101_7.symm.trans hx103_7)
       injection ea_ with ea_ en_ ec_
       subst ea_
       subst ec_
       clear en_
       have p104 : 0 ≤ (x4_1 : Int) := of_decide_eq_true (by first | (with_reducible assumption) | assumption)
       have q104 : x4_1 < (l0.length : Int) := of_decide_eq_true (by first | (with_reducible assumption) | assumption)
       obtain ⟨ad104, A104_6, c104_6, A104_7, c104_7, e104, hx104_0, hx104_1, hx104_2, hx104_3, hx104_4, hx104_5, hx104_6, hx104_7, hx104_8, hx104_9, hl104_6, hi104_6, hl104_7, hi104_7⟩ := at_T40 HR0.out x4_1 p104 q104
       obtain rfl : ad101 = ad104 := (by injection e104)
       have HR104_6 := Aside0.mk hi104_6
       have HC104_6 := Aside0.mk hl104_6
       clear hi104_6 hl104_6
       have HR104_7 := Aside0.mk hi104_7
       have HC104_7 := Aside0.mk hl104_7
       clear hi104_7 hl104_7
       replace p104 := eq_true p104
       replace q104 := eq_true q104
       have ea_ := Option.some.inj (hx101_6.symm.trans hx104_6)
       injection ea_ with ea_ en_ ec_
       subst ea_
       subst ec_
       clear en_
       have ea_ := Option.some.inj (hx101_7.symm.trans hx104_7)
       injection ea_ with ea_ en_ ec_
       subst ea_
       subst ec_
       clear en_
       go_wp2
       repeat (go_quiet (fail); try go_wp2)
       go_roundg k1
       case measure => have := HK1.out; omega
       case rel => exact ⟨(wrap64 (x3_1 + (wrap64 ((wrap64 ((wrap64 ((((rd_T40 l0 x4_1).f6).length : Int) + (((rd_T40 l0 x4_1).f7).length : Int))) + (wrap64 ((((rd_T40 l0 x4_1).f2).size : Int) / 50)))) + (wrap64 ((((rd_T40 l0 x4_1).f1).size : Int) / 50)))))), (wrap64 (x4_1 + 1)), (by first | rfl | (simp; done) | (simp [*]; done)), (by first | rfl | (simp; done) | (simp [*]; done)), H', ⟨by have := HK1.out; omega⟩, by repeat (first | exact Drawn0.refl _ | apply Drawn0.step)⟩
     ·
      rw [if_neg c4] at H
      exact absurd H (by simp)
    ·
     rw [if_neg c3] at H
     have c3b0 : decide (x4_1 < (l0.length : Int)) = false := decide_eq_false c3
     clear c3
     obtain rfl := Option.some.inj H
     go_wp2
     repeat (go_quiet (fail); try go_wp2)
     go_ret
     exact ⟨by first | rfl | (simp; done) | (simp [*]; done), by repeat (first | exact Drawn0.refl _ | apply Drawn0.step)⟩
end Go.Proofs.Ytgnbemgeiloegaa.PTypesGoods
