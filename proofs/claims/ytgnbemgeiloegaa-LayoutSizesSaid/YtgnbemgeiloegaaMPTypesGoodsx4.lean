import Derived.Test.YtgnbemgeiloegaaMTgM
import Derived.Test.YtgnbemgeiloegaaMPTypesGoodsx3
namespace Go.Proofs.Ytgnbemgeiloegaa.PTypesGoods
open Go.RowKit Go.Proofs.YtgnbemgeiloegaaW.PrintWords Go.Proofs.YtgnbemgeiloegaaW.PrintLast Go.Proofs.YtgnbemgeiloegaaW.PrintMore
attribute [local go_sem] max2_int min2_int max_two min_two max_three min_three max_four min_four
set_option linter.unusedVariables false
set_option linter.unusedSimpArgs false
mutual
def spinetref09_Word.j0 : Nat → ByteArray → Bool → Option (Bool)
 | 0, _, _ => none
 | k + 1, x0, x17 => if x17 = true then (some false) else (spinetref09_Word.l0 k x0 1)
def spinetref09_Word.l0 : Nat → ByteArray → Int → Option (Bool)
 | 0, _, _ => none
 | k + 1, x0, x3 => if x3 < (x0.size : Int) then (if 0 ≤ x3 then ((spinetref09_letter.f (bt x0 x3)).bind fun t141 => (if t141 = true then (spinetref09_Word.l0 k x0 (wrap64 (x3 + 1))) else ((spinetref09_digit.f (bt x0 x3)).bind fun t142 => (if t142 = true then (spinetref09_Word.l0 k x0 (wrap64 (x3 + 1))) else (some false))))) else (none)) else (some true)
end
def spinetref09_Word.f (k : Nat) (a0 : ByteArray) : Option (Bool) := if (a0.size : Int) < 1 then (spinetref09_Word.j0 k a0 true) else (if (a0.size : Int) > 24 then (spinetref09_Word.j0 k a0 true) else (if 0 < (a0.size : Int) then ((spinetref09_letter.f (bt a0 0)).bind fun t140 => (spinetref09_Word.j0 k a0 (!t140))) else (none)))
set_option maxHeartbeats 8000000 in
set_option maxRecDepth 100000 in
theorem spinetref09_Word.calls (k : Nat) (a0 : ByteArray) (r : Bool) (w : World) (h : spinetref09_Word.f k a0 = some r) :
 Calls Try.prog 67 #[.string a0] w fun e w' => e = .returned (.bool r) ∧ Drawn0 w w' := by
 have H : (if (a0.size : Int) < 1 then (spinetref09_Word.j0 k a0 true) else (if (a0.size : Int) > 24 then (spinetref09_Word.j0 k a0 true) else (if 0 < (a0.size : Int) then ((spinetref09_letter.f (bt a0 0)).bind fun t140 => (spinetref09_Word.j0 k a0 (!t140))) else (none)))) = some r := h
 clear h
 have HC2 := Aside0.mk H
 clear H
 go_enter Try.func67, Try.ntmps67
 go_upto_region 1 with (fail)
 go_cut [17] (fun v17 wc => ∃ (kq : Nat) (x17_1 : Bool), v17 = .bool x17_1 ∧ Aside0 (spinetref09_Word.j0 kq a0 x17_1 = some r) ∧ Aside0 (kq ≤ k) ∧ Drawn0 w wc)
 case first =>
  have H := HC2.out
  clear HC2
  by_cases c3 : (a0.size : Int) < 1
  ·
   rw [if_pos c3] at H
   have c3b0 : decide ((a0.size : Int) < 1) = true := decide_eq_true c3
   have c3b1 : decide (a0.size < 1) = true := decide_eq_true (by omega)
   clear c3
   (first | rw [c3b0] | (simp only [i64_w, i32_w]; rw [c3b0]) | skip)
   have H' := Aside0.mk H
   clear H
   go_wp2
   go_meet
   case rel => exact ⟨_, (true), (by first | rfl | (simp; done) | (simp [*]; done)), H', ⟨by first | omega | exact Nat.le_refl _⟩, by repeat (first | exact Drawn0.refl _ | apply Drawn0.step)⟩
  ·
   rw [if_neg c3] at H
   have c3b0 : decide ((a0.size : Int) < 1) = false := decide_eq_false c3
   have c3b1 : decide (a0.size < 1) = false := decide_eq_false (by omega)
   clear c3
   (first | rw [c3b0] | (simp only [i64_w, i32_w]; rw [c3b0]) | skip)
   by_cases c4 : (a0.size : Int) > 24
   ·
    rw [if_pos c4] at H
    have c4b0 : decide (24 < (a0.size : Int)) = true := decide_eq_true c4
    have c4b1 : decide (24 < a0.size) = true := decide_eq_true (by omega)
    clear c4
    have H' := Aside0.mk H
    clear H
    go_wp2
    go_meet
    case rel => exact ⟨_, (true), (by first | rfl | (simp; done) | (simp [*]; done)), H', ⟨by first | omega | exact Nat.le_refl _⟩, by repeat (first | exact Drawn0.refl _ | apply Drawn0.step)⟩
   ·
    rw [if_neg c4] at H
    have c4b0 : decide (24 < (a0.size : Int)) = false := decide_eq_false c4
    have c4b1 : decide (24 < a0.size) = false := decide_eq_false (by omega)
    clear c4
    by_cases c5 : 0 < (a0.size : Int)
    ·
     rw [if_pos c5] at H
     have c5b0 : decide (0 < (a0.size : Int)) = true := decide_eq_true c5
     have c5b1 : decide (0 < a0.size) = true := decide_eq_true (by omega)
     clear c5
     replace H := Option.bind_eq_some_iff.mp H
     obtain ⟨t140, A70, H⟩ := H
     replace H : (spinetref09_Word.j0 k a0 (!t140)) = some r := H
     have A7 := Aside0.mk A70
     clear A70
     have H' := Aside0.mk H
     clear H
     have p6 : 0 ≤ (0 : Int) := (by omega)
     have q6 : 0 < a0.size := (by have : (0 : Int) < (a0.size : Int) := of_decide_eq_true (by first | (with_reducible assumption) | assumption); omega)
     have hx6 : ∀ h : 0 < a0.size, ((a0[0]'h).toNat : Int) = bt a0 0 := bt_at a0 0
     clear p6
     have qi6 : (0 < (a0.size : Int)) = True := eq_true (of_decide_eq_true (by first | (with_reducible assumption) | assumption))
     replace q6 := eq_true q6
     go_wp2_with (first | (go_at_call 76; (with_reducible refine (spinetref09_letter.calls (bt a0 0) t140 _ A7.out).mono ?_); rintro e w' ⟨rfl, ⟨nd, rfl⟩⟩))
     go_meet
     case rel => exact ⟨_, (!t140), (by first | rfl | (simp; done) | (simp [*]; done)), H', ⟨by first | omega | exact Nat.le_refl _⟩, by repeat (first | exact Drawn0.refl _ | apply Drawn0.step)⟩
    ·
     rw [if_neg c5] at H
     exact absurd H (by simp)
 case rest =>
  clear HC2
  try clear p2
  try clear c3
  try clear c3b0
  try clear c3b1
  try clear c4
  try clear c4b0
  try clear c4b1
  try clear c5
  try clear c5b0
  try clear c5b1
  try clear c6
  try clear p6
  try clear q6
  try clear hx6
  try clear qi6
  try clear p6
  try clear q6
  obtain ⟨kq, x17_1, rfl, HA, HJ1, ⟨mc1, rfl⟩⟩ := hcut
  cases kq with
  | zero => exact absurd HA.out (by simp [spinetref09_Word.j0])
  | succ kj1 =>
   have H := HA.out
   clear HA
   simp only [spinetref09_Word.j0] at H
   by_cases c8 : x17_1 = true
   ·
    subst c8
    have H1 : (some false) = some r := by rw [if_pos rfl] at H; exact H
    clear H
    have H := H1
    clear H1
    obtain rfl := Option.some.inj H
    go_wp2
    go_ret
    exact ⟨by first | rfl | (simp; done) | (simp [*]; done), by repeat (first | exact Drawn0.refl _ | apply Drawn0.step)⟩
   ·
    replace c8 := Bool.eq_false_iff.mpr c8
    subst c8
    have H1 : (spinetref09_Word.l0 kj1 a0 1) = some r := by rw [if_neg (show ¬ (false = true) by decide)] at H; exact H
    clear H
    have H := H1
    clear H1
    have H' := Aside0.mk H
    clear H
    go_wp2
    go_loopg [3] kj1 (fun kq v3 w' => ∃ (x3_2 : Int), v3 = .int .i64 x3_2 ∧ Aside0 (spinetref09_Word.l0 kq a0 x3_2 = some r) ∧ Aside0 (kq ≤ kj1) ∧ Drawn0 w w')
    case atStart => exact ⟨(1), (by first | rfl | (simp; done) | (simp [*]; done)), H', ⟨Nat.le_refl _⟩, by repeat (first | exact Drawn0.refl _ | apply Drawn0.step)⟩
    case round =>
     clear H'
     try clear c1
     try clear p2
     try clear c3
     try clear c3b0
     try clear c3b1
     try clear c4
     try clear c4b0
     try clear c4b1
     try clear c5
     try clear c5b0
     try clear c5b1
     try clear c6
     try clear p6
     try clear q6
     try clear hx6
     try clear qi6
     try clear c8
     try clear p2
     try clear p6
     try clear q6
     obtain ⟨x3_2, rfl, HA, HK2, ⟨m2, rfl⟩⟩ := hrel
     cases gk with
     | zero => exact absurd HA.out (by simp [spinetref09_Word.l0])
     | succ k2 =>
      have H := HA.out
      clear HA
      simp only [spinetref09_Word.l0] at H
      by_cases c9 : x3_2 < (a0.size : Int)
      ·
       rw [if_pos c9] at H
       have c9b0 : decide (x3_2 < (a0.size : Int)) = true := decide_eq_true c9
       clear c9
       by_cases c10 : 0 ≤ x3_2
       ·
        rw [if_pos c10] at H
        have c10b0 : decide (0 ≤ x3_2) = true := decide_eq_true c10
        clear c10
        replace H := Option.bind_eq_some_iff.mp H
        obtain ⟨t141, A120, H⟩ := H
        replace H : (if t141 = true then (spinetref09_Word.l0 k2 a0 (wrap64 (x3_2 + 1))) else ((spinetref09_digit.f (bt a0 x3_2)).bind fun t142 => (if t142 = true then (spinetref09_Word.l0 k2 a0 (wrap64 (x3_2 + 1))) else (some false)))) = some r := H
        have A12 := Aside0.mk A120
        clear A120
        by_cases c13 : t141 = true
        ·
         subst c13
         have H1 : (spinetref09_Word.l0 k2 a0 (wrap64 (x3_2 + 1))) = some r := by rw [if_pos rfl] at H; exact H
         clear H
         have H := H1
         clear H1
         have H' := Aside0.mk H
         clear H
         have p11 : 0 ≤ (x3_2 : Int) := of_decide_eq_true (by first | (with_reducible assumption) | assumption)
         have q11 : x3_2 < (a0.size : Int) := of_decide_eq_true (by first | (with_reducible assumption) | assumption)
         have hx11 := bt_at a0 x3_2
         replace p11 := eq_true p11
         replace q11 := eq_true q11
         go_wp2_with (first | ((with_reducible refine gate_callee (f := 76) rfl ?_); refine goesL_ (some 27) rfl rfl Try.func76 (by kernel_rfl) rfl #[.int .u8 (bt a0 x3_2)] rfl (by (try simp only [List.map_toArray, List.map_cons, List.map_nil]); first | done | rfl | (simp only [List.length_drop, List.length_take]; rfl)) ?_; (with_reducible refine (spinetref09_letter.calls (bt a0 x3_2) true _ A12.out).mono ?_); rintro e w' ⟨rfl, ⟨nd, rfl⟩⟩; refine ⟨_, rfl, ?_⟩))
         go_roundg k2
         case measure => have := HJ1.out; have := HK2.out; omega
         case rel => exact ⟨(wrap64 (x3_2 + 1)), (by first | rfl | (simp; done) | (simp [*]; done)), H', ⟨by have := HJ1.out; have := HK2.out; omega⟩, by repeat (first | exact Drawn0.refl _ | apply Drawn0.step)⟩
        ·
         replace c13 := Bool.eq_false_iff.mpr c13
         subst c13
         have H1 : ((spinetref09_digit.f (bt a0 x3_2)).bind fun t142 => (if t142 = true then (spinetref09_Word.l0 k2 a0 (wrap64 (x3_2 + 1))) else (some false))) = some r := by rw [if_neg (show ¬ (false = true) by decide)] at H; exact H
         clear H
         have H := H1
         clear H1
         replace H := Option.bind_eq_some_iff.mp H
         obtain ⟨t142, A150, H⟩ := H
         replace H : (if t142 = true then (spinetref09_Word.l0 k2 a0 (wrap64 (x3_2 + 1))) else (some false)) = some r := H
         have A15 := Aside0.mk A150
         clear A150
         by_cases c16 : t142 = true
         ·
          subst c16
          have H1 : (spinetref09_Word.l0 k2 a0 (wrap64 (x3_2 + 1))) = some r := by rw [if_pos rfl] at H; exact H
          clear H
          have H := H1
          clear H1
          have H' := Aside0.mk H
          clear H
          have p11 : 0 ≤ (x3_2 : Int) := of_decide_eq_true (by first | (with_reducible assumption) | assumption)
          have q11 : x3_2 < (a0.size : Int) := of_decide_eq_true (by first | (with_reducible assumption) | assumption)
          have hx11 := bt_at a0 x3_2
          replace p11 := eq_true p11
          replace q11 := eq_true q11
          go_wp2_with (first | ((with_reducible refine gate_callee (f := 76) rfl ?_); refine goesL_ (some 27) rfl rfl Try.func76 (by kernel_rfl) rfl #[.int .u8 (bt a0 x3_2)] rfl (by (try simp only [List.map_toArray, List.map_cons, List.map_nil]); first | done | rfl | (simp only [List.length_drop, List.length_take]; rfl)) ?_; (with_reducible refine (spinetref09_letter.calls (bt a0 x3_2) false _ A12.out).mono ?_); rintro e w' ⟨rfl, ⟨nd, rfl⟩⟩; refine ⟨_, rfl, ?_⟩; have p14 : 0 ≤ (x3_2 : Int) := of_decide_eq_true (by first | (with_reducible assumption) | assumption); have q14 : x3_2 < (a0.size : Int) := of_decide_eq_true (by first | (with_reducible assumption) | assumption); have hx14 := bt_at a0 x3_2; replace p14 := eq_true p14; replace q14 := eq_true q14) | (go_at_call 77; (with_reducible refine (spinetref09_digit.calls (bt a0 x3_2) true _ A15.out).mono ?_); rintro e w' ⟨rfl, ⟨nd, rfl⟩⟩))
          go_roundg k2
          case measure => have := HJ1.out; have := HK2.out; omega
          case rel => exact ⟨(wrap64 (x3_2 + 1)), (by first | rfl | (simp; done) | (simp [*]; done)), H', ⟨by have := HJ1.out; have := HK2.out; omega⟩, by repeat (first | exact Drawn0.refl _ | apply Drawn0.step)⟩
         ·
          replace c16 := Bool.eq_false_iff.mpr c16
          subst c16
          have H1 : (some false) = some r := by rw [if_neg (show ¬ (false = true) by decide)] at H; exact H
          clear H
          have H := H1
          clear H1
          obtain rfl := Option.some.inj H
          have p11 : 0 ≤ (x3_2 : Int) := of_decide_eq_true (by first | (with_reducible assumption) | assumption)
          have q11 : x3_2 < (a0.size : Int) := of_decide_eq_true (by first | (with_reducible assumption) | assumption)
          have hx11 := bt_at a0 x3_2
          replace p11 := eq_true p11
          replace q11 := eq_true q11
          go_wp2_with (first | ((with_reducible refine gate_callee (f := 76) rfl ?_); refine goesL_ (some 27) rfl rfl Try.func76 (by kernel_rfl) rfl #[.int .u8 (bt a0 x3_2)] rfl (by (try simp only [List.map_toArray, List.map_cons, List.map_nil]); first | done | rfl | (simp only [List.length_drop, List.length_take]; rfl)) ?_; (with_reducible refine (spinetref09_letter.calls (bt a0 x3_2) false _ A12.out).mono ?_); rintro e w' ⟨rfl, ⟨nd, rfl⟩⟩; refine ⟨_, rfl, ?_⟩; have p14 : 0 ≤ (x3_2 : Int) := of_decide_eq_true (by first | (with_reducible assumption) | assumption); have q14 : x3_2 < (a0.size : Int) := of_decide_eq_true (by first | (with_reducible assumption) | assumption); have hx14 := bt_at a0 x3_2; replace p14 := eq_true p14; replace q14 := eq_true q14) | (go_at_call 77; (with_reducible refine (spinetref09_digit.calls (bt a0 x3_2) false _ A15.out).mono ?_); rintro e w' ⟨rfl, ⟨nd, rfl⟩⟩))
          go_ret
          exact ⟨by first | rfl | (simp; done) | (simp [*]; done), by repeat (first | exact Drawn0.refl _ | apply Drawn0.step)⟩
       ·
        rw [if_neg c10] at H
        exact absurd H (by simp)
      ·
       rw [if_neg c9] at H
       have c9b0 : decide (x3_2 < (a0.size : Int)) = false := decide_eq_false c9
       clear c9
       obtain rfl := Option.some.inj H
       go_wp2
       go_ret
       exact ⟨by first | rfl | (simp; done) | (simp [*]; done), by repeat (first | exact Drawn0.refl _ | apply Drawn0.step)⟩
def spinetref13_word.f (k : Nat) (a0 : ByteArray) : Option (Bool) := (spinetref09_Word.f k a0).bind fun t143 => (some t143)
set_option maxHeartbeats 8000000 in
set_option maxRecDepth 100000 in
theorem spinetref13_word.calls (k : Nat) (a0 : ByteArray) (r : Bool) (w : World) (h : spinetref13_word.f k a0 = some r) :
 Calls Try.prog 55 #[.string a0] w fun e w' => e = .returned (.bool r) ∧ Drawn0 w w' := by
 have H : ((spinetref09_Word.f k a0).bind fun t143 => (some t143)) = some r := h
 clear h
 replace H := Option.bind_eq_some_iff.mp H
 obtain ⟨t143, A20, H⟩ := H
 replace H : (some t143) = some r := H
 have A2 := Aside0.mk A20
 clear A20
 obtain rfl := Option.some.inj H
 go_enter Try.func55, Try.ntmps55
 go_wp2_with (first | ((with_reducible refine gate_callee (f := 67) rfl ?_); refine goesL_ (some 4) rfl rfl Try.func67 (by kernel_rfl) rfl #[.string a0] rfl (by (try simp only [List.map_toArray, List.map_cons, List.map_nil]); first | done | rfl | (simp only [List.length_drop, List.length_take]; rfl)) ?_; (with_reducible refine (spinetref09_Word.calls k a0 t143 _ A2.out).mono ?_); rintro e w' ⟨rfl, ⟨nd, rfl⟩⟩; refine ⟨_, rfl, ?_⟩))
 go_ret
 exact ⟨by first | rfl | (simp; done) | (simp [*]; done), by repeat (first | exact Drawn0.refl _ | apply Drawn0.step)⟩
def spinetref13_place.f (l0 : List (S40)) (a1 : Int) : Option (Bool) := if a1 ≥ 0 then (some (decide (a1 < (l0.length : Int)))) else (some false)
set_option maxHeartbeats 8000000 in
set_option maxRecDepth 100000 in
theorem spinetref13_place.calls (A0 : Option Addr) (c0 : Nat) (l0 : List (S40)) (a1 : Int) (r : Bool) (w : World) (hr0 : Kd.C k40 w A0 l0.length l0) (hc0 : l0.length ≤ c0) (h : spinetref13_place.f l0 a1 = some r) :
 Calls Try.prog 57 #[.slice A0 l0.length c0, .int .i64 a1] w fun e w' => e = .returned (.bool r) ∧ Drawn0 w w' := by
 have HR0 := Aside0.mk hr0
 have HC0 := Aside0.mk hc0
 clear hr0 hc0
 have H : (if a1 ≥ 0 then (some (decide (a1 < (l0.length : Int)))) else (some false)) = some r := h
 clear h
 by_cases c3 : a1 ≥ 0
 ·
  rw [if_pos c3] at H
  have c3b0 : decide (0 ≤ a1) = true := decide_eq_true c3
  clear c3
  obtain rfl := Option.some.inj H
  go_enter Try.func57, Try.ntmps57
  go_wp2
  go_ret
  exact ⟨by first | rfl | (simp; done) | (simp [*]; done), by repeat (first | exact Drawn0.refl _ | apply Drawn0.step)⟩
 ·
  rw [if_neg c3] at H
  have c3b0 : decide (0 ≤ a1) = false := decide_eq_false c3
  clear c3
  obtain rfl := Option.some.inj H
  go_enter Try.func57, Try.ntmps57
  go_wp2
  go_ret
  exact ⟨by first | rfl | (simp; done) | (simp [*]; done), by repeat (first | exact Drawn0.refl _ | apply Drawn0.step)⟩
def spinetref13_holds.f (l0 : List (S40)) (a1 : Int) : Option (Bool) := (spinetref13_place.f l0 a1).bind fun t144 => (if t144 = true then (if 0 ≤ a1 then (if a1 < (l0.length : Int) then (if ((rd_T40 l0 a1).f0) = 0 then (some false) else (if ((rd_T40 l0 a1).f0) = 5 then (some false) else (if ((rd_T40 l0 a1).f0) = 6 then (some false) else (some (((rd_T40 l0 a1).f0) != 8))))) else (none)) else (none)) else (some false))
set_option maxHeartbeats 8000000 in
set_option maxRecDepth 100000 in
theorem spinetref13_holds.calls (A0 : Option Addr) (c0 : Nat) (l0 : List (S40)) (a1 : Int) (r : Bool) (w : World) (hr0 : Kd.C k40 w A0 l0.length l0) (hc0 : l0.length ≤ c0) (h : spinetref13_holds.f l0 a1 = some r) :
 Calls Try.prog 56 #[.slice A0 l0.length c0, .int .i64 a1] w fun e w' => e = .returned (.bool r) ∧ Drawn0 w w' := by
 have HR0 := Aside0.mk hr0
 have HC0 := Aside0.mk hc0
 clear hr0 hc0
 have H : ((spinetref13_place.f l0 a1).bind fun t144 => (if t144 = true then (if 0 ≤ a1 then (if a1 < (l0.length : Int) then (if ((rd_T40 l0 a1).f0) = 0 then (some false) else (if ((rd_T40 l0 a1).f0) = 5 then (some false) else (if ((rd_T40 l0 a1).f0) = 6 then (some false) else (some (((rd_T40 l0 a1).f0) != 8))))) else (none)) else (none)) else (some false))) = some r := h
 clear h
 replace H := Option.bind_eq_some_iff.mp H
 obtain ⟨t144, A30, H⟩ := H
 replace H : (if t144 = true then (if 0 ≤ a1 then (if a1 < (l0.length : Int) then (if ((rd_T40 l0 a1).f0) = 0 then (some false) else (if ((rd_T40 l0 a1).f0) = 5 then (some false) else (if ((rd_T40 l0 a1).f0) = 6 then (some false) else (some (((rd_T40 l0 a1).f0) != 8))))) else (none)) else (none)) else (some false)) = some r := H
 have A3 := Aside0.mk A30
 clear A30
 by_cases c4 : t144 = true
 ·
  subst c4
  have H1 : (if 0 ≤ a1 then (if a1 < (l0.length : Int) then (if ((rd_T40 l0 a1).f0) = 0 then (some false) else (if ((rd_T40 l0 a1).f0) = 5 then (some false) else (if ((rd_T40 l0 a1).f0) = 6 then (some false) else (some (((rd_T40 l0 a1).f0) != 8))))) else (none)) else (none)) = some r := by rw [if_pos rfl] at H; exact H
  clear H
  have H := H1
  clear H1
  by_cases c5 : 0 ≤ a1
  ·
   rw [if_pos c5] at H
   have c5b0 : decide (0 ≤ a1) = true := decide_eq_true c5
   clear c5
   by_cases c6 : a1 < (l0.length : Int)
   ·
    rw [if_pos c6] at H
    have c6b0 : decide (a1 < (l0.length : Int)) = true := decide_eq_true c6
    clear c6
    by_cases c7 : ((rd_T40 l0 a1).f0) = 0
    ·
     rw [if_pos c7] at H
     have c7b0 : (((rd_T40 l0 a1).f0) == 0) = true := beq_iff_eq.mpr c7
     have c7b1 : (((rd_T40 l0 a1).f0) != 0) = false := bne_eq_false_iff_eq.mpr c7
     clear c7
     obtain rfl := Option.some.inj H
     go_enter Try.func56, Try.ntmps56
     go_wp2_with (first | ((with_reducible refine gate_callee (f := 57) rfl ?_); refine goesL_ (some 7) rfl rfl Try.func57 (by kernel_rfl) rfl #[.slice A0 l0.length c0, .int .i64 a1] rfl (by (try simp only [List.map_toArray, List.map_cons, List.map_nil]); first | done | rfl | (simp only [List.length_drop, List.length_take]; rfl)) ?_; (with_reducible refine (spinetref13_place.calls _ _ l0 a1 true _ ?side1 ?side2 A3.out).mono ?_); (case side1 => repeat (first | exact HR0.out | (with_reducible refine Kd.C_alloc ?_ _) | (with_reducible refine Kd.C_drewN ?_ _) | (with_reducible refine Kd.C_drew ?_))); (case side2 => exact HC0.out); rintro e w' ⟨rfl, ⟨nd, rfl⟩⟩; refine ⟨_, rfl, ?_⟩; have p145 : 0 ≤ (a1 : Int) := of_decide_eq_true (by first | (with_reducible assumption) | assumption); have q145 : a1 < (l0.length : Int) := of_decide_eq_true (by first | (with_reducible assumption) | assumption); obtain ⟨ad145, A145_6, c145_6, A145_7, c145_7, e145, hx145_0, hx145_1, hx145_2, hx145_3, hx145_4, hx145_5, hx145_6, hx145_7, hx145_8, hx145_9, hl145_6, hi145_6, hl145_7, hi145_7⟩ := at_T40 HR0.out a1 p145 q145; cases e145; have HR145_6 := Aside0.mk hi145_6; have HC145_6 := Aside0.mk hl145_6; clear hi145_6 hl145_6; have HR145_7 := Aside0.mk hi145_7; have HC145_7 := Aside0.mk hl145_7; clear hi145_7 hl145_7; replace p145 := eq_true p145; replace q145 := eq_true q145))
     go_ret
     exact ⟨by first | rfl | (simp; done) | (simp [*]; done), by repeat (first | exact Drawn0.refl _ | apply Drawn0.step)⟩
    ·
     rw [if_neg c7] at H
     have c7b0 : (((rd_T40 l0 a1).f0) == 0) = false := beq_eq_false_iff_ne.mpr c7
     have c7b1 : (((rd_T40 l0 a1).f0) != 0) = true := bne_iff_ne.mpr c7
     by_cases c8 : ((rd_T40 l0 a1).f0) = 5
     ·
      rw [if_pos c8] at H
      have c8b0 : (((rd_T40 l0 a1).f0) == 5) = true := beq_iff_eq.mpr c8
      have c8b1 : (((rd_T40 l0 a1).f0) != 5) = false := bne_eq_false_iff_eq.mpr c8
      clear c8
      obtain rfl := Option.some.inj H
      go_enter Try.func56, Try.ntmps56
      go_wp2_with (first | ((with_reducible refine gate_callee (f := 57) rfl ?_); refine goesL_ (some 7) rfl rfl Try.func57 (by kernel_rfl) rfl #[.slice A0 l0.length c0, .int .i64 a1] rfl (by (try simp only [List.map_toArray, List.map_cons, List.map_nil]); first | done | rfl | (simp only [List.length_drop, List.length_take]; rfl)) ?_; (with_reducible refine (spinetref13_place.calls _ _ l0 a1 true _ ?side1 ?side2 A3.out).mono ?_); (case side1 => repeat (first | exact HR0.out | (with_reducible refine Kd.C_alloc ?_ _) | (with_reducible refine Kd.C_drewN ?_ _) | (with_reducible refine Kd.C_drew ?_))); (case side2 => exact HC0.out); rintro e w' ⟨rfl, ⟨nd, rfl⟩⟩; refine ⟨_, rfl, ?_⟩; have p145 : 0 ≤ (a1 : Int) := of_decide_eq_true (by first | (with_reducible assumption) | assumption); have q145 : a1 < (l0.length : Int) := of_decide_eq_true (by first | (with_reducible assumption) | assumption); obtain ⟨ad145, A145_6, c145_6, A145_7, c145_7, e145, hx145_0, hx145_1, hx145_2, hx145_3, hx145_4, hx145_5, hx145_6, hx145_7, hx145_8, hx145_9, hl145_6, hi145_6, hl145_7, hi145_7⟩ := at_T40 HR0.out a1 p145 q145; cases e145; have HR145_6 := Aside0.mk hi145_6; have HC145_6 := Aside0.mk hl145_6; clear hi145_6 hl145_6; have HR145_7 := Aside0.mk hi145_7; have HC145_7 := Aside0.mk hl145_7; clear hi145_7 hl145_7; replace p145 := eq_true p145; replace q145 := eq_true q145; have p146 : 0 ≤ (a1 : Int) := of_decide_eq_true (by first | (with_reducible assumption) | assumption); have q146 : a1 < (l0.length : Int) := of_decide_eq_true (by first | (with_reducible assumption) | assumption); obtain ⟨ad146, A146_6, c146_6, A146_7, c146_7, e146, hx146_0, hx146_1, hx146_2, hx146_3, hx146_4, hx146_5, hx146_6, hx146_7, hx146_8, hx146_9, hl146_6, hi146_6, hl146_7, hi146_7⟩ := at_T40 HR0.out a1 p146 q146; obtain rfl : ad145 = ad146 := (by injection e146); have HR146_6 := Aside0.mk hi146_6; have HC146_6 := Aside0.mk hl146_6; clear hi146_6 hl146_6; have HR146_7 := Aside0.mk hi146_7; have HC146_7 := Aside0.mk hl146_7; clear hi146_7 hl146_7; replace p146 := eq_true p146; replace q146 := eq_true q146; have ea_ := Option.some.inj (hx145_6.symm.trans hx146_6); injection ea_ with ea_ en_ ec_; subst ea_; subst ec_; clear en_; have ea_ := Option.some.inj (hx145_7.symm.trans hx146_7); injection ea_ with ea_ en_ ec_; subst ea_; subst ec_; clear en_))
      go_ret
      exact ⟨by first | rfl | (simp; done) | (simp [*]; done), by repeat (first | exact Drawn0.refl _ | apply Drawn0.step)⟩
     ·
      rw [if_neg c8] at H
      have c8b0 : (((rd_T40 l0 a1).f0) == 5) = false := beq_eq_false_iff_ne.mpr c8
      have c8b1 : (((rd_T40 l0 a1).f0) != 5) = true := bne_iff_ne.mpr c8
      by_cases c9 : ((rd_T40 l0 a1).f0) = 6
      ·
       rw [if_pos c9] at H
       have c9b0 : (((rd_T40 l0 a1).f0) == 6) = true := beq_iff_eq.mpr c9
       have c9b1 : (((rd_T40 l0 a1).f0) != 6) = false := bne_eq_false_iff_eq.mpr c9
       clear c9
       obtain rfl := Option.some.inj H
       go_enter Try.func56, Try.ntmps56
       go_wp2_with (first | ((with_reducible refine gate_callee (f := 57) rfl ?_); refine goesL_ (some 7) rfl rfl Try.func57 (by kernel_rfl) rfl #[.slice A0 l0.length c0, .int .i64 a1] rfl (by (try simp only [List.map_toArray, List.map_cons, List.map_nil]); first | done | rfl | (simp only [List.length_drop, List.length_take]; rfl)) ?_; (with_reducible refine (spinetref13_place.calls _ _ l0 a1 true _ ?side1 ?side2 A3.out).mono ?_); (case side1 => repeat (first | exact HR0.out | (with_reducible refine Kd.C_alloc ?_ _) | (with_reducible refine Kd.C_drewN ?_ _) | (with_reducible refine Kd.C_drew ?_))); (case side2 => exact HC0.out); rintro e w' ⟨rfl, ⟨nd, rfl⟩⟩; refine ⟨_, rfl, ?_⟩; have p145 : 0 ≤ (a1 : Int) := of_decide_eq_true (by first | (with_reducible assumption) | assumption); have q145 : a1 < (l0.length : Int) := of_decide_eq_true (by first | (with_reducible assumption) | assumption); obtain ⟨ad145, A145_6, c145_6, A145_7, c145_7, e145, hx145_0, hx145_1, hx145_2, hx145_3, hx145_4, hx145_5, hx145_6, hx145_7, hx145_8, hx145_9, hl145_6, hi145_6, hl145_7, hi145_7⟩ := at_T40 HR0.out a1 p145 q145; cases e145; have HR145_6 := Aside0.mk hi145_6; have HC145_6 := Aside0.mk hl145_6; clear hi145_6 hl145_6; have HR145_7 := Aside0.mk hi145_7; have HC145_7 := Aside0.mk hl145_7; clear hi145_7 hl145_7; replace p145 := eq_true p145; replace q145 := eq_true q145; have p146 : 0 ≤ (a1 : Int) := of_decide_eq_true (by first | (with_reducible assumption) | assumption); have q146 : a1 < (l0.length : Int) := of_decide_eq_true (by first | (with_reducible assumption) | assumption); obtain ⟨ad146, A146_6, c146_6, A146_7, c146_7, e146, hx146_0, hx146_1, hx146_2, hx146_3, hx146_4, hx146_5, hx146_6, hx146_7, hx146_8, hx146_9, hl146_6, hi146_6, hl146_7, hi146_7⟩ := at_T40 HR0.out a1 p146 q146; obtain rfl : ad145 = ad146 := (by injection e146); have HR146_6 := Aside0.mk hi146_6; have HC146_6 := Aside0.mk hl146_6; clear hi146_6 hl146_6; have HR146_7 := Aside0.mk hi146_7; have HC146_7 := Aside0.mk hl146_7; clear hi146_7 hl146_7; replace p146 := eq_true p146; replace q146 := eq_true q146; have ea_ := Option.some.inj (hx145_6.symm.trans hx146_6); injection ea_ with ea_ en_ ec_; subst ea_; subst ec_; clear en_; have ea_ := Option.some.inj (hx145_7.symm.trans hx146_7); injection ea_ with ea_ en_ ec_; subst ea_; subst ec_; clear en_; have p147 : 0 ≤ (a1 : Int) := of_decide_eq_true (by first | (with_reducible assumption) | assumption); have q147 : a1 < (l0.length : Int) := of_decide_eq_true (by first | (with_reducible assumption) | assumption); obtain ⟨ad147, A147_6, c147_6, A147_7, c147_7, e147, hx147_0, hx147_1, hx147_2, hx147_3, hx147_4, hx147_5, hx147_6, hx147_7, hx147_8, hx147_9, hl147_6, hi147_6, hl147_7, hi147_7⟩ := at_T40 HR0.out a1 p147 q147; obtain rfl : ad145 = ad147 := (by injection e147); have HR147_6 := Aside0.mk hi147_6; have HC147_6 := Aside0.mk hl147_6; clear hi147_6 hl147_6; have HR147_7 := Aside0.mk hi147_7; have HC147_7 := Aside0.mk hl147_7; clear hi147_7 hl147_7; replace p147 := eq_true p147; replace q147 := eq_true q147; have ea_ := Option.some.inj (hx145_6.symm.trans hx147_6); injection ea_ with ea_ en_ ec_; subst ea_; subst ec_; clear en_; have ea_ := Option.some.inj (hx145_7.symm.trans hx147_7); injection ea_ with ea_ en_ ec_; subst ea_; subst ec_; clear en_))
       go_ret
       exact ⟨by first | rfl | (simp; done) | (simp [*]; done), by repeat (first | exact Drawn0.refl _ | apply Drawn0.step)⟩
      ·
       rw [if_neg c9] at H
       have c9b0 : (((rd_T40 l0 a1).f0) == 6) = false := beq_eq_false_iff_ne.mpr c9
       have c9b1 : (((rd_T40 l0 a1).f0) != 6) = true := bne_iff_ne.mpr c9
       obtain rfl := Option.some.inj H
       go_enter Try.func56, Try.ntmps56
       go_wp2_with (first | ((with_reducible refine gate_callee (f := 57) rfl ?_); refine goesL_ (some 7) rfl rfl Try.func57 (by kernel_rfl) rfl #[.slice A0 l0.length c0, .int .i64 a1] rfl (by (try simp only [List.map_toArray, List.map_cons, List.map_nil]); first | done | rfl | (simp only [List.length_drop, List.length_take]; rfl)) ?_; (with_reducible refine (spinetref13_place.calls _ _ l0 a1 true _ ?side1 ?side2 A3.out).mono ?_); (case side1 => repeat (first | exact HR0.out | (with_reducible refine Kd.C_alloc ?_ _) | (with_reducible refine Kd.C_drewN ?_ _) | (with_reducible refine Kd.C_drew ?_))); (case side2 => exact HC0.out); rintro e w' ⟨rfl, ⟨nd, rfl⟩⟩; refine ⟨_, rfl, ?_⟩; have p145 : 0 ≤ (a1 : Int) := of_decide_eq_true (by first | (with_reducible assumption) | assumption); have q145 : a1 < (l0.length : Int) := of_decide_eq_true (by first | (with_reducible assumption) | assumption); obtain ⟨ad145, A145_6, c145_6, A145_7, c145_7, e145, hx145_0, hx145_1, hx145_2, hx145_3, hx145_4, hx145_5, hx145_6, hx145_7, hx145_8, hx145_9, hl145_6, hi145_6, hl145_7, hi145_7⟩ := at_T40 HR0.out a1 p145 q145; cases e145; have HR145_6 := Aside0.mk hi145_6; have HC145_6 := Aside0.mk hl145_6; clear hi145_6 hl145_6; have HR145_7 := Aside0.mk hi145_7; have HC145_7 := Aside0.mk hl145_7; clear hi145_7 hl145_7; replace p145 := eq_true p145; replace q145 := eq_true q145; have p146 : 0 ≤ (a1 : Int) := of_decide_eq_true (by first | (with_reducible assumption) | assumption); have q146 : a1 < (l0.length : Int) := of_decide_eq_true (by first | (with_reducible assumption) | assumption); obtain ⟨ad146, A146_6, c146_6, A146_7, c146_7, e146, hx146_0, hx146_1, hx146_2, hx146_3, hx146_4, hx146_5, hx146_6, hx146_7, hx146_8, hx146_9, hl146_6, hi146_6, hl146_7, hi146_7⟩ := at_T40 HR0.out a1 p146 q146; obtain rfl : ad145 = ad146 := (by injection e146); have HR146_6 := Aside0.mk hi146_6; have HC146_6 := Aside0.mk hl146_6; clear hi146_6 hl146_6; have HR146_7 := Aside0.mk hi146_7; have HC146_7 := Aside0.mk hl146_7; clear hi146_7 hl146_7; replace p146 := eq_true p146; replace q146 := eq_true q146; have ea_ := Option.some.inj (hx145_6.symm.trans hx146_6); injection ea_ with ea_ en_ ec_; subst ea_; subst ec_; clear en_; have ea_ := Option.some.inj (hx145_7.symm.trans hx146_7); injection ea_ with ea_ en_ ec_; subst ea_; subst ec_; clear en_; have p147 : 0 ≤ (a1 : Int) := of_decide_eq_true (by first | (with_reducible assumption) | assumption); have q147 : a1 < (l0.length : Int) := of_decide_eq_true (by first | (with_reducible assumption) | assumption); obtain ⟨ad147, A147_6, c147_6, A147_7, c147_7, e147, hx147_0, hx147_1, hx147_2, hx147_3, hx147_4, hx147_5, hx147_6, hx147_7, hx147_8, hx147_9, hl147_6, hi147_6, hl147_7, hi147_7⟩ := at_T40 HR0.out a1 p147 q147; obtain rfl : ad145 = ad147 := (by injection e147); have HR147_6 := Aside0.mk hi147_6; have HC147_6 := Aside0.mk hl147_6; clear hi147_6 hl147_6; have HR147_7 := Aside0.mk hi147_7; have HC147_7 := Aside0.mk hl147_7; clear hi147_7 hl147_7; replace p147 := eq_true p147; replace q147 := eq_true q147; have ea_ := Option.some.inj (hx145_6.symm.trans hx147_6); injection ea_ with ea_ en_ ec_; subst ea_; subst ec_; clear en_; have ea_ := Option.some.inj (hx145_7.symm.trans hx147_7); injection ea_ with ea_ en_ ec_; subst ea_; subst ec_; clear en_; have p148 : 0 ≤ (a1 : Int) := of_decide_eq_true (by first | (with_reducible assumption) | assumption); have q148 : a1 < (l0.length : Int) := of_decide_eq_true (by first | (with_reducible assumption) | assumption); obtain ⟨ad148, A148_6, c148_6, A148_7, c148_7, e148, hx148_0, hx148_1, hx148_2, hx148_3, hx148_4, hx148_5, hx148_6, hx148_7, hx148_8, hx148_9, hl148_6, hi148_6, hl148_7, hi148_7⟩ := at_T40 HR0.out a1 p148 q148; obtain rfl : ad145 = ad148 := (by injection e148); have HR148_6 := Aside0.mk hi148_6; have HC148_6 := Aside0.mk hl148_6; clear hi148_6 hl148_6; have HR148_7 := Aside0.mk hi148_7; have HC148_7 := Aside0.mk hl148_7; clear hi148_7 hl148_7; replace p148 := eq_true p148; replace q148 := eq_true q148; have ea_ := Option.some.inj (hx145_6.symm.trans hx148_6); injection ea_ with ea_ en_ ec_; subst ea_; subst ec_; clear en_; have ea_ := Option.some.inj (hx145_7.symm.trans hx148_7); injection ea_ with ea_ en_ ec_; subst ea_; subst ec_; clear en_))
       go_ret
       exact ⟨by first | rfl | (simp; done) | (simp [*]; done), by repeat (first | exact Drawn0.refl _ | apply Drawn0.step)⟩
   ·
    rw [if_neg c6] at H
    exact absurd H (by simp)
  ·
   rw [if_neg c5] at H
   exact absurd H (by simp)
 ·
  replace c4 := Bool.eq_false_iff.mpr c4
  subst c4
  have H1 : (some false) = some r := by rw [if_neg (show ¬ (false = true) by decide)] at H; exact H
  clear H
  have H := H1
  clear H1
  obtain rfl := Option.some.inj H
  go_enter Try.func56, Try.ntmps56
  go_wp2_with (first | ((with_reducible refine gate_callee (f := 57) rfl ?_); refine goesL_ (some 7) rfl rfl Try.func57 (by kernel_rfl) rfl #[.slice A0 l0.length c0, .int .i64 a1] rfl (by (try simp only [List.map_toArray, List.map_cons, List.map_nil]); first | done | rfl | (simp only [List.length_drop, List.length_take]; rfl)) ?_; (with_reducible refine (spinetref13_place.calls _ _ l0 a1 false _ ?side1 ?side2 A3.out).mono ?_); (case side1 => repeat (first | exact HR0.out | (with_reducible refine Kd.C_alloc ?_ _) | (with_reducible refine Kd.C_drewN ?_ _) | (with_reducible refine Kd.C_drew ?_))); (case side2 => exact HC0.out); rintro e w' ⟨rfl, ⟨nd, rfl⟩⟩; refine ⟨_, rfl, ?_⟩))
  go_ret
  exact ⟨by first | rfl | (simp; done) | (simp [*]; done), by repeat (first | exact Drawn0.refl _ | apply Drawn0.step)⟩
def spinetref13_bases.l0 : Nat → List (S40) → Int → List Int → Option (List Int × Bool)
 | 0, _, _, _ => none
 | k + 1, x0, x1, x6 => if 0 ≤ x1 then (if x1 < (x0.length : Int) then (if ((rd_T40 x0 x1).f5) = 0 then (some (x6, true)) else ((spinetref13_place.f x0 ((rd_T40 x0 x1).f5)).bind fun t154 => (if t154 = true then (if 0 ≤ ((rd_T40 x0 x1).f5) then (if ((rd_T40 x0 x1).f5) < (x0.length : Int) then (if ((rd_T40 x0 ((rd_T40 x0 x1).f5)).f0) = 9 then (if (x6.length : Int) > 5 then (some (([] : List Int), false)) else (if x6.length < 17592186044416 then (spinetref13_bases.l0 k x0 ((rd_T40 x0 x1).f5) (x6 ++ [(rd_T40 x0 x1).f5])) else (none))) else (some (([] : List Int), false))) else (none)) else (none)) else (some (([] : List Int), false))))) else (none)) else (none)
def spinetref13_bases.f (k : Nat) (l0 : List (S40)) (a1 : Int) : Option (List Int × Bool) := spinetref13_bases.l0 k l0 a1 (([a1] : List Int))
set_option maxHeartbeats 8000000 in
set_option maxRecDepth 100000 in
theorem spinetref13_bases.calls (k : Nat) (A0 : Option Addr) (c0 : Nat) (l0 : List (S40)) (a1 : Int) (r1 : List Int) (r2 : Bool) (w : World) (hr0 : Kd.C k40 w A0 l0.length l0) (hc0 : l0.length ≤ c0) (h : spinetref13_bases.f k l0 a1 = some (r1, r2)) :
 Calls Try.prog 68 #[.slice A0 l0.length c0, .int .i64 a1] w fun e w' => ∃ v0_ : Value, e = .returned (.tuple #[v0_, .bool r2]) ∧ Kd.R (Kd.int .i64) 3 w' w.heap.size (fun _ => True) v0_ r1 ∧ Below w.heap.size w w' := by
 have HR0 := Aside0.mk hr0
 have HC0 := Aside0.mk hc0
 clear hr0 hc0
 have HB := Aside0.mk (Below.refl w.heap.size w)
 have H : (spinetref13_bases.l0 k l0 a1 (([a1] : List Int))) = some (r1, r2) := h
 clear h
 obtain ⟨y149, hy149⟩ : ∃ y_ : List Int, y_ = (([a1] : List Int)) := ⟨_, rfl⟩
 replace H : (spinetref13_bases.l0 k l0 a1 y149) = some (r1, r2) := by first | (rw [hy149]; with_reducible exact H) | (have H2_ := (Option.bind_some _ _).symm.trans H; rw [hy149]; with_reducible exact H2_) | (have H2_ := (Option.bind_some _ _).symm.trans H; with_reducible exact H2_) | with_reducible exact H | (rw [hy149]; exact H) | exact H
 have Ny149 := Aside0.mk hy149
 clear hy149
 have H' := Aside0.mk H
 clear H
 go_enter Try.func68, Try.ntmps68
 go_wp2_with (first | ((with_reducible refine gate_dst (N := 8) rfl ?_); (try (refine gate_guard (by rfl) ?_; dsimp only)); refine Kd.R_lit (Kd.int .i64) _ 3 ?hg (N := 8) ?hd (xs := ([a1] : List Int)) (inner := [.int .i64 a1]) (ok := fun _ => True) (okp := fun _ => True) ?hr ?hp (fun _ hk => hk) trivial (Below.refl _ _) (Nat.le_refl _) (by simp) ?_; (case hd => rfl); (case hg => rfl); (case hr => first | (go_simp; done) | (go_simp; rfl)); (case hp => exact (Reps.one (show Kd.M (Kd.int .i64) _ _ _ a1 [.int .i64 a1] from rfl) (Reps.none _ _))); intro v150 w3 ho4 hb hg_ hnew_; clear hg_ hnew_; (first | rw [← Ny149.out] at ho4 | (simp only [Int.reduceToNat] at ho4; rw [← Ny149.out] at ho4)); have n0_ := Aside0.mk (Kd.R_lower ho4 (below_size (by repeat (first | (with_reducible first | exact HB.out | apply below_alloc | apply pw_below_drewN | apply below_drew1) | exact HB.out)))); have n1_ := Aside0.mk (below_step (by repeat (first | (with_reducible first | exact HB.out | apply below_alloc | apply pw_below_drewN | apply below_drew1) | exact HB.out)) hb); clear HB; have HO151 := n0_; have HB := n1_; clear n0_ n1_; clear hb ho4))
 go_loopg [1, 6] k (fun kq v1 v6 w' => ∃ (x1_1 : Int) (x6_1 : List Int), v1 = .int .i64 x1_1 ∧ Aside0 (spinetref13_bases.l0 kq l0 x1_1 x6_1 = some (r1, r2)) ∧ Aside0 (kq ≤ k) ∧ Aside0 (Kd.R (Kd.int .i64) 3 w' w.heap.size (fun _ => True) v6 x6_1) ∧ Aside0 (Below w.heap.size w w'))
 case atStart => exact ⟨(a1), (y149), (by first | rfl | (simp; done) | (simp [*]; done)), H', ⟨Nat.le_refl _⟩, ⟨by (with_reducible repeat (first | apply Kd.R_alloc | apply Kd.R_drewN | apply Kd.R_drew)); exact HO151.out⟩, ⟨by repeat (first | (with_reducible first | exact HB.out | apply below_alloc | apply pw_below_drewN | apply below_drew1) | exact HB.out)⟩⟩
 case round =>
  clear H'
  try clear p2
  obtain ⟨x1_1, x6_1, rfl, HA, HK1, HO_6, HB⟩ := hrel
  cases gk with
  | zero => exact absurd HA.out (by simp [spinetref13_bases.l0])
  | succ k1 =>
   have H := HA.out
   clear HA
   simp only [spinetref13_bases.l0] at H
   by_cases c5 : 0 ≤ x1_1
   ·
    rw [if_pos c5] at H
    have c5b0 : decide (0 ≤ x1_1) = true := decide_eq_true c5
    clear c5
    by_cases c6 : x1_1 < (l0.length : Int)
    ·
     rw [if_pos c6] at H
     have c6b0 : decide (x1_1 < (l0.length : Int)) = true := decide_eq_true c6
     clear c6
     by_cases c7 : ((rd_T40 l0 x1_1).f5) = 0
     ·
      rw [if_pos c7] at H
      have c7b0 : (((rd_T40 l0 x1_1).f5) == 0) = true := beq_iff_eq.mpr c7
      have c7b1 : (((rd_T40 l0 x1_1).f5) != 0) = false := bne_eq_false_iff_eq.mpr c7
      clear c7
      simp only [Option.some.injEq, Prod.mk.injEq] at H
      obtain ⟨rfl, rfl⟩ := H
      have p152 : 0 ≤ (x1_1 : Int) := of_decide_eq_true (by first | (with_reducible assumption) | assumption)
      have q152 : x1_1 < (l0.length : Int) := of_decide_eq_true (by first | (with_reducible assumption) | assumption)
      obtain ⟨ad152, A152_6, c152_6, A152_7, c152_7, e152, hx152_0, hx152_1, hx152_2, hx152_3, hx152_4, hx152_5, hx152_6, hx152_7, hx152_8, hx152_9, hl152_6, hi152_6, hl152_7, hi152_7⟩ := at_T40 HR0.out x1_1 p152 q152
      cases e152
      replace hx152_0 := (HB.out.cell (World.block_lt_of_cell? w _ hx152_0)).trans hx152_0
      replace hx152_1 := (HB.out.cell (World.block_lt_of_cell? w _ hx152_1)).trans hx152_1
      replace hx152_2 := (HB.out.cell (World.block_lt_of_cell? w _ hx152_2)).trans hx152_2
      replace hx152_3 := (HB.out.cell (World.block_lt_of_cell? w _ hx152_3)).trans hx152_3
      replace hx152_4 := (HB.out.cell (World.block_lt_of_cell? w _ hx152_4)).trans hx152_4
      replace hx152_5 := (HB.out.cell (World.block_lt_of_cell? w _ hx152_5)).trans hx152_5
      replace hx152_6 := (HB.out.cell (World.block_lt_of_cell? w _ hx152_6)).trans hx152_6
      replace hx152_7 := (HB.out.cell (World.block_lt_of_cell? w _ hx152_7)).trans hx152_7
      replace hx152_8 := (HB.out.cell (World.block_lt_of_cell? w _ hx152_8)).trans hx152_8
      replace hx152_9 := (HB.out.cell (World.block_lt_of_cell? w _ hx152_9)).trans hx152_9
      have HR152_6 := Aside0.mk hi152_6
      have HC152_6 := Aside0.mk hl152_6
      clear hi152_6 hl152_6
      have HR152_7 := Aside0.mk hi152_7
      have HC152_7 := Aside0.mk hl152_7
      clear hi152_7 hl152_7
      replace p152 := eq_true p152
      replace q152 := eq_true q152
      go_wp2
      go_ret2
      exact ⟨_, by first | rfl | (simp [errW_none, errW_some] <;> rfl) | (simp [*, errW_none, errW_some] <;> rfl), by (with_reducible repeat (first | apply Kd.R_alloc | apply Kd.R_drewN | apply Kd.R_drew)); exact HO_6.out, by repeat (first | (with_reducible first | exact HB.out | apply below_alloc | apply pw_below_drewN | apply below_drew1) | exact HB.out)⟩
     ·
      rw [if_neg c7] at H
      have c7b0 : (((rd_T40 l0 x1_1).f5) == 0) = false := beq_eq_false_iff_ne.mpr c7
      have c7b1 : (((rd_T40 l0 x1_1).f5) != 0) = true := bne_iff_ne.mpr c7
      replace H := Option.bind_eq_some_iff.mp H
      obtain ⟨t154, A80, H⟩ := H
      replace H : (if t154 = true then (if 0 ≤ ((rd_T40 l0 x1_1).f5) then (if ((rd_T40 l0 x1_1).f5) < (l0.length : Int) then (if ((rd_T40 l0 ((rd_T40 l0 x1_1).f5)).f0) = 9 then (if (x6_1.length : Int) > 5 then (some (([] : List Int), false)) else (if x6_1.length < 17592186044416 then (spinetref13_bases.l0 k1 l0 ((rd_T40 l0 x1_1).f5) (x6_1 ++ [(rd_T40 l0 x1_1).f5])) else (none))) else (some (([] : List Int), false))) else (none)) else (none)) else (some (([] : List Int), false))) = some (r1, r2) := H
      have A8 := Aside0.mk A80
      clear A80
      by_cases c9 : t154 = true
      ·
       subst c9
       have H1 : (if 0 ≤ ((rd_T40 l0 x1_1).f5) then (if ((rd_T40 l0 x1_1).f5) < (l0.length : Int) then (if ((rd_T40 l0 ((rd_T40 l0 x1_1).f5)).f0) = 9 then (if (x6_1.length : Int) > 5 then (some (([] : List Int), false)) else (if x6_1.length < 17592186044416 then (spinetref13_bases.l0 k1 l0 ((rd_T40 l0 x1_1).f5) (x6_1 ++ [(rd_T40 l0 x1_1).f5])) else (none))) else (some (([] : List Int), false))) else (none)) else (none)) = some (r1, r2) := by rw [if_pos rfl] at H; exact H
       clear H
       have H := H1
       clear H1
       by_cases c10 : 0 ≤ ((rd_T40 l0 x1_1).f5)
       ·
        rw [if_pos c10] at H
        have c10b0 : decide (0 ≤ ((rd_T40 l0 x1_1).f5)) = true := decide_eq_true c10
        clear c10
        by_cases c11 : ((rd_T40 l0 x1_1).f5) < (l0.length : Int)
        ·
         rw [if_pos c11] at H
         have c11b0 : decide (((rd_T40 l0 x1_1).f5) < (l0.length : Int)) = true := decide_eq_true c11
         clear c11
         by_cases c12 : ((rd_T40 l0 ((rd_T40 l0 x1_1).f5)).f0) = 9
         ·
          rw [if_pos c12] at H
          have c12b0 : (((rd_T40 l0 ((rd_T40 l0 x1_1).f5)).f0) == 9) = true := beq_iff_eq.mpr c12
          have c12b1 : (((rd_T40 l0 ((rd_T40 l0 x1_1).f5)).f0) != 9) = false := bne_eq_false_iff_eq.mpr c12
          clear c12
          by_cases c13 : (x6_1.length : Int) > 5
          ·
           rw [if_pos c13] at H
           have c13b0 : decide (5 < (x6_1.length : Int)) = true := decide_eq_true c13
           have c13b1 : decide (5 < x6_1.length) = true := decide_eq_true (by omega)
           clear c13
           simp only [Option.some.injEq, Prod.mk.injEq] at H
           obtain ⟨rfl, rfl⟩ := H
           have p152 : 0 ≤ (x1_1 : Int) := of_decide_eq_true (by first | (with_reducible assumption) | assumption)
           have q152 : x1_1 < (l0.length : Int) := of_decide_eq_true (by first | (with_reducible assumption) | assumption)
           obtain ⟨ad152, A152_6, c152_6, A152_7, c152_7, e152, hx152_0, hx152_1, hx152_2, hx152_3, hx152_4, hx152_5, hx152_6, hx152_7, hx152_8, hx152_9, hl152_6, hi152_6, hl152_7, hi152_7⟩ := at_T40 HR0.out x1_1 p152 q152
           cases e152
           replace hx152_0 := (HB.out.cell (World.block_lt_of_cell? w _ hx152_0)).trans hx152_0
           replace hx152_1 := (HB.out.cell (World.block_lt_of_cell? w _ hx152_1)).trans hx152_1
           replace hx152_2 := (HB.out.cell (World.block_lt_of_cell? w _ hx152_2)).trans hx152_2
           replace hx152_3 := (HB.out.cell (World.block_lt_of_cell? w _ hx152_3)).trans hx152_3
           replace hx152_4 := (HB.out.cell (World.block_lt_of_cell? w _ hx152_4)).trans hx152_4
           replace hx152_5 := (HB.out.cell (World.block_lt_of_cell? w _ hx152_5)).trans hx152_5
           replace hx152_6 := (HB.out.cell (World.block_lt_of_cell? w _ hx152_6)).trans hx152_6
           replace hx152_7 := (HB.out.cell (World.block_lt_of_cell? w _ hx152_7)).trans hx152_7
           replace hx152_8 := (HB.out.cell (World.block_lt_of_cell? w _ hx152_8)).trans hx152_8
           replace hx152_9 := (HB.out.cell (World.block_lt_of_cell? w _ hx152_9)).trans hx152_9
           have HR152_6 := Aside0.mk hi152_6
           have HC152_6 := Aside0.mk hl152_6
           clear hi152_6 hl152_6
           have HR152_7 := Aside0.mk hi152_7
           have HC152_7 := Aside0.mk hl152_7
           clear hi152_7 hl152_7
           replace p152 := eq_true p152
           replace q152 := eq_true q152
           have p153 : 0 ≤ (x1_1 : Int) := of_decide_eq_true (by first | (with_reducible assumption) | assumption)
           have q153 : x1_1 < (l0.length : Int) := of_decide_eq_true (by first | (with_reducible assumption) | assumption)
           obtain ⟨ad153, A153_6, c153_6, A153_7, c153_7, e153, hx153_0, hx153_1, hx153_2, hx153_3, hx153_4, hx153_5, hx153_6, hx153_7, hx153_8, hx153_9, hl153_6, hi153_6, hl153_7, hi153_7⟩ := at_T40 HR0.out x1_1 p153 q153
           obtain rfl : ad152 = ad153 := (by injection e153)
           replace hx153_0 := (HB.out.cell (World.block_lt_of_cell? w _ hx153_0)).trans hx153_0
           replace hx153_1 := (HB.out.cell (World.block_lt_of_cell? w _ hx153_1)).trans hx153_1
           replace hx153_2 := (HB.out.cell (World.block_lt_of_cell? w _ hx153_2)).trans hx153_2
           replace hx153_3 := (HB.out.cell (World.block_lt_of_cell? w _ hx153_3)).trans hx153_3
           replace hx153_4 := (HB.out.cell (World.block_lt_of_cell? w _ hx153_4)).trans hx153_4
           replace hx153_5 := (HB.out.cell (World.block_lt_of_cell? w _ hx153_5)).trans hx153_5
           replace hx153_6 := (HB.out.cell (World.block_lt_of_cell? w _ hx153_6)).trans hx153_6
           replace hx153_7 := (HB.out.cell (World.block_lt_of_cell? w _ hx153_7)).trans hx153_7
           replace hx153_8 := (HB.out.cell (World.block_lt_of_cell? w _ hx153_8)).trans hx153_8
           replace hx153_9 := (HB.out.cell (World.block_lt_of_cell? w _ hx153_9)).trans hx153_9
           have HR153_6 := Aside0.mk hi153_6
           have HC153_6 := Aside0.mk hl153_6
           clear hi153_6 hl153_6
           have HR153_7 := Aside0.mk hi153_7
           have HC153_7 := Aside0.mk hl153_7
           clear hi153_7 hl153_7
           replace p153 := eq_true p153
           replace q153 := eq_true q153
           have ea_ := Option.some.inj (hx152_6.symm.trans hx153_6)
           injection ea_ with ea_ en_ ec_
           subst ea_
           subst ec_
           clear en_
           have ea_ := Option.some.inj (hx152_7.symm.trans hx153_7)
           injection ea_ with ea_ en_ ec_
           subst ea_
           subst ec_
           clear en_
           go_wp2_with (first | ((with_reducible refine gate_callee (f := 57) rfl ?_); refine goesL_ (some 22) rfl rfl Try.func57 (by kernel_rfl) rfl #[.slice (some ad152) l0.length c0, .int .i64 ((rd_T40 l0 x1_1).f5)] rfl (by (try simp only [List.map_toArray, List.map_cons, List.map_nil]); first | done | rfl | (simp only [List.length_drop, List.length_take]; rfl)) ?_; (with_reducible refine (spinetref13_place.calls _ _ l0 ((rd_T40 l0 x1_1).f5) true _ ?side1 ?side2 A8.out).mono ?_); (case side1 => repeat (first | exact (Kd.C_below HR0.out HB.out) | (with_reducible refine Kd.C_alloc ?_ _) | (with_reducible refine Kd.C_drewN ?_ _) | (with_reducible refine Kd.C_drew ?_))); (case side2 => exact HC0.out); rintro e w' ⟨rfl, ⟨nd, rfl⟩⟩; refine ⟨_, rfl, ?_⟩; have p155 : 0 ≤ (((rd_T40 l0 x1_1).f5) : Int) := of_decide_eq_true (by first | (with_reducible assumption) | assumption); have q155 : ((rd_T40 l0 x1_1).f5) < (l0.length : Int) := of_decide_eq_true (by first | (with_reducible assumption) | assumption); obtain ⟨ad155, A155_6, c155_6, A155_7, c155_7, e155, hx155_0, hx155_1, hx155_2, hx155_3, hx155_4, hx155_5, hx155_6, hx155_7, hx155_8, hx155_9, hl155_6, hi155_6, hl155_7, hi155_7⟩ := at_T40 HR0.out ((rd_T40 l0 x1_1).f5) p155 q155; obtain rfl : ad152 = ad155 := (by injection e155); replace hx155_0 := (HB.out.cell (World.block_lt_of_cell? w _ hx155_0)).trans hx155_0; replace hx155_1 := (HB.out.cell (World.block_lt_of_cell? w _ hx155_1)).trans hx155_1; replace hx155_2 := (HB.out.cell (World.block_lt_of_cell? w _ hx155_2)).trans hx155_2; replace hx155_3 := (HB.out.cell (World.block_lt_of_cell? w _ hx155_3)).trans hx155_3; replace hx155_4 := (HB.out.cell (World.block_lt_of_cell? w _ hx155_4)).trans hx155_4; replace hx155_5 := (HB.out.cell (World.block_lt_of_cell? w _ hx155_5)).trans hx155_5; replace hx155_6 := (HB.out.cell (World.block_lt_of_cell? w _ hx155_6)).trans hx155_6; replace hx155_7 := (HB.out.cell (World.block_lt_of_cell? w _ hx155_7)).trans hx155_7; replace hx155_8 := (HB.out.cell (World.block_lt_of_cell? w _ hx155_8)).trans hx155_8; replace hx155_9 := (HB.out.cell (World.block_lt_of_cell? w _ hx155_9)).trans hx155_9; have HR155_6 := Aside0.mk hi155_6; have HC155_6 := Aside0.mk hl155_6; clear hi155_6 hl155_6; have HR155_7 := Aside0.mk hi155_7; have HC155_7 := Aside0.mk hl155_7; clear hi155_7 hl155_7; replace p155 := eq_true p155; replace q155 := eq_true q155; obtain ⟨Ao14, co14, eo14⟩ := Kd.R_slice HO_6.out; subst eo14))
           go_ret2
           exact ⟨_, by first | rfl | (simp [errW_none, errW_some] <;> rfl) | (simp [*, errW_none, errW_some] <;> rfl), by first | exact Kd.R_nil _ _ _ _ _ | exact Kd.N_nil _ _ _ _ _ | exact Kd.V_nil _ _ _ _ _ | exact Kd.Q_nil _ _ _ _ _ | exact Kd.S_nil _ _ _ _ _, by repeat (first | (with_reducible first | exact HB.out | apply below_alloc | apply pw_below_drewN | apply below_drew1) | exact HB.out)⟩
          ·
           rw [if_neg c13] at H
           have c13b0 : decide (5 < (x6_1.length : Int)) = false := decide_eq_false c13
           have c13b1 : decide (5 < x6_1.length) = false := decide_eq_false (by omega)
           clear c13
           by_cases c15 : x6_1.length < 17592186044416
           ·
            rw [if_pos c15] at H
            have LMc15 := Aside0.mk c15
            clear c15
            obtain ⟨y156, hy156⟩ : ∃ y_ : List Int, y_ = (x6_1 ++ [(rd_T40 l0 x1_1).f5]) := ⟨_, rfl⟩
            replace H : (spinetref13_bases.l0 k1 l0 ((rd_T40 l0 x1_1).f5) y156) = some (r1, r2) := by first | (rw [hy156]; with_reducible exact H) | (have H2_ := (Option.bind_some _ _).symm.trans H; rw [hy156]; with_reducible exact H2_) | (have H2_ := (Option.bind_some _ _).symm.trans H; with_reducible exact H2_) | with_reducible exact H | (rw [hy156]; exact H) | exact H
            have Ny156 := Aside0.mk hy156
            clear hy156
            have H' := Aside0.mk H
            clear H
            have p152 : 0 ≤ (x1_1 : Int) := of_decide_eq_true (by first | (with_reducible assumption) | assumption)
            have q152 : x1_1 < (l0.length : Int) := of_decide_eq_true (by first | (with_reducible assumption) | assumption)
            obtain ⟨ad152, A152_6, c152_6, A152_7, c152_7, e152, hx152_0, hx152_1, hx152_2, hx152_3, hx152_4, hx152_5, hx152_6, hx152_7, hx152_8, hx152_9, hl152_6, hi152_6, hl152_7, hi152_7⟩ := at_T40 HR0.out x1_1 p152 q152
            cases e152
            replace hx152_0 := (HB.out.cell (World.block_lt_of_cell? w _ hx152_0)).trans hx152_0
            replace hx152_1 := (HB.out.cell (World.block_lt_of_cell? w _ hx152_1)).trans hx152_1
            replace hx152_2 := (HB.out.cell (World.block_lt_of_cell? w _ hx152_2)).trans hx152_2
            replace hx152_3 := (HB.out.cell (World.block_lt_of_cell? w _ hx152_3)).trans hx152_3
            replace hx152_4 := (HB.out.cell (World.block_lt_of_cell? w _ hx152_4)).trans hx152_4
            replace hx152_5 := (HB.out.cell (World.block_lt_of_cell? w _ hx152_5)).trans hx152_5
            replace hx152_6 := (HB.out.cell (World.block_lt_of_cell? w _ hx152_6)).trans hx152_6
            replace hx152_7 := (HB.out.cell (World.block_lt_of_cell? w _ hx152_7)).trans hx152_7
            replace hx152_8 := (HB.out.cell (World.block_lt_of_cell? w _ hx152_8)).trans hx152_8
            replace hx152_9 := (HB.out.cell (World.block_lt_of_cell? w _ hx152_9)).trans hx152_9
            have HR152_6 := Aside0.mk hi152_6
            have HC152_6 := Aside0.mk hl152_6
            clear hi152_6 hl152_6
            have HR152_7 := Aside0.mk hi152_7
            have HC152_7 := Aside0.mk hl152_7
            clear hi152_7 hl152_7
            replace p152 := eq_true p152
            replace q152 := eq_true q152
            have p153 : 0 ≤ (x1_1 : Int) := of_decide_eq_true (by first | (with_reducible assumption) | assumption)
            have q153 : x1_1 < (l0.length : Int) := of_decide_eq_true (by first | (with_reducible assumption) | assumption)
            obtain ⟨ad153, A153_6, c153_6, A153_7, c153_7, e153, hx153_0, hx153_1, hx153_2, hx153_3, hx153_4, hx153_5, hx153_6, hx153_7, hx153_8, hx153_9, hl153_6, hi153_6, hl153_7, hi153_7⟩ := at_T40 HR0.out x1_1 p153 q153
            obtain rfl : ad152 = ad153 := (by injection e153)
            replace hx153_0 := (HB.out.cell (World.block_lt_of_cell? w _ hx153_0)).trans hx153_0
            replace hx153_1 := (HB.out.cell (World.block_lt_of_cell? w _ hx153_1)).trans hx153_1
            replace hx153_2 := (HB.out.cell (World.block_lt_of_cell? w _ hx153_2)).trans hx153_2
            replace hx153_3 := (HB.out.cell (World.block_lt_of_cell? w _ hx153_3)).trans hx153_3
            replace hx153_4 := (HB.out.cell (World.block_lt_of_cell? w _ hx153_4)).trans hx153_4
            replace hx153_5 := (HB.out.cell (World.block_lt_of_cell? w _ hx153_5)).trans hx153_5
            replace hx153_6 := (HB.out.cell (World.block_lt_of_cell? w _ hx153_6)).trans hx153_6
            replace hx153_7 := (HB.out.cell (World.block_lt_of_cell? w _ hx153_7)).trans hx153_7
            replace hx153_8 := (HB.out.cell (World.block_lt_of_cell? w _ hx153_8)).trans hx153_8
            replace hx153_9 := (HB.out.cell (World.block_lt_of_cell? w _ hx153_9)).trans hx153_9
            have HR153_6 := Aside0.mk hi153_6
            have HC153_6 := Aside0.mk hl153_6
            clear hi153_6 hl153_6
            have HR153_7 := Aside0.mk hi153_7
            have HC153_7 := Aside0.mk hl153_7
            clear hi153_7 hl153_7
            replace p153 := eq_true p153
            replace q153 := eq_true q153
            have ea_ := Option.some.inj (hx152_6.symm.trans hx153_6)
            injection ea_ with ea_ en_ ec_
            subst ea_
            subst ec_
            clear en_
            have ea_ := Option.some.inj (hx152_7.symm.trans hx153_7)
            injection ea_ with ea_ en_ ec_
            subst ea_
            subst ec_
            clear en_
            go_wp2_with (first | ((with_reducible refine gate_callee (f := 57) rfl ?_); refine goesL_ (some 22) rfl rfl Try.func57 (by kernel_rfl) rfl #[.slice (some ad152) l0.length c0, .int .i64 ((rd_T40 l0 x1_1).f5)] rfl (by (try simp only [List.map_toArray, List.map_cons, List.map_nil]); first | done | rfl | (simp only [List.length_drop, List.length_take]; rfl)) ?_; (with_reducible refine (spinetref13_place.calls _ _ l0 ((rd_T40 l0 x1_1).f5) true _ ?side1 ?side2 A8.out).mono ?_); (case side1 => repeat (first | exact (Kd.C_below HR0.out HB.out) | (with_reducible refine Kd.C_alloc ?_ _) | (with_reducible refine Kd.C_drewN ?_ _) | (with_reducible refine Kd.C_drew ?_))); (case side2 => exact HC0.out); rintro e w' ⟨rfl, ⟨nd, rfl⟩⟩; refine ⟨_, rfl, ?_⟩; have p155 : 0 ≤ (((rd_T40 l0 x1_1).f5) : Int) := of_decide_eq_true (by first | (with_reducible assumption) | assumption); have q155 : ((rd_T40 l0 x1_1).f5) < (l0.length : Int) := of_decide_eq_true (by first | (with_reducible assumption) | assumption); obtain ⟨ad155, A155_6, c155_6, A155_7, c155_7, e155, hx155_0, hx155_1, hx155_2, hx155_3, hx155_4, hx155_5, hx155_6, hx155_7, hx155_8, hx155_9, hl155_6, hi155_6, hl155_7, hi155_7⟩ := at_T40 HR0.out ((rd_T40 l0 x1_1).f5) p155 q155; obtain rfl : ad152 = ad155 := (by injection e155); replace hx155_0 := (HB.out.cell (World.block_lt_of_cell? w _ hx155_0)).trans hx155_0; replace hx155_1 := (HB.out.cell (World.block_lt_of_cell? w _ hx155_1)).trans hx155_1; replace hx155_2 := (HB.out.cell (World.block_lt_of_cell? w _ hx155_2)).trans hx155_2; replace hx155_3 := (HB.out.cell (World.block_lt_of_cell? w _ hx155_3)).trans hx155_3; replace hx155_4 := (HB.out.cell (World.block_lt_of_cell? w _ hx155_4)).trans hx155_4; replace hx155_5 := (HB.out.cell (World.block_lt_of_cell? w _ hx155_5)).trans hx155_5; replace hx155_6 := (HB.out.cell (World.block_lt_of_cell? w _ hx155_6)).trans hx155_6; replace hx155_7 := (HB.out.cell (World.block_lt_of_cell? w _ hx155_7)).trans hx155_7; replace hx155_8 := (HB.out.cell (World.block_lt_of_cell? w _ hx155_8)).trans hx155_8; replace hx155_9 := (HB.out.cell (World.block_lt_of_cell? w _ hx155_9)).trans hx155_9; have HR155_6 := Aside0.mk hi155_6; have HC155_6 := Aside0.mk hl155_6; clear hi155_6 hl155_6; have HR155_7 := Aside0.mk hi155_7; have HC155_7 := Aside0.mk hl155_7; clear hi155_7 hl155_7; replace p155 := eq_true p155; replace q155 := eq_true q155; obtain ⟨Ao16, co16, eo16⟩ := Kd.R_slice HO_6.out; subst eo16) | ((with_reducible refine gate_builtin (b := .append) (xs := #[.tmp 37, .tmp 39]) rfl ?_); (try (refine gate_guard (by rfl) ?_; dsimp only)); at_builtin; refine Kd.R_append (Kd.int .i64) (w0 := w) w.heap.size rfl (.tmp 37) (.tmp 39) 32 3 (.int .i64 0) 8 rfl Try.underlying32 info3 rfl (by decide) (by omega) (.slice Ao16 x6_1.length co16) x6_1 ((rd_T40 l0 x1_1).f5) [.int .i64 ((rd_T40 l0 x1_1).f5)] (fun _ => True) (fun _ => False) rfl rfl ?aP (fun _ hk => hk.elim) ?aF ?aO ?aB ?aS ?aL ?_; (case aP => exact rfl); (case aB => exact (by repeat (first | (with_reducible first | exact HB.out | apply below_alloc | apply pw_below_drewN | apply below_drew1) | exact HB.out))); (case aF => exact (fun _ _ => trivial)); (case aO => exact (by (with_reducible repeat (first | apply Kd.R_alloc | apply Kd.R_drewN | apply Kd.R_drew)); exact HO_6.out)); (case aS => exact (below_size (by repeat (first | (with_reducible first | exact HB.out | apply below_alloc | apply pw_below_drewN | apply below_drew1) | exact HB.out)))); (case aL => have := LMc15.out; omega); intro v157 w17 ho hb hg hat; rw [← Ny156.out] at ho; have n0_ := Aside0.mk (hb); have n1_ := Aside0.mk (ho); clear HB; clear HO_6; have HB := n0_; have HO158 := n1_; clear n0_ n1_; clear ho hb hg hat))
            go_roundg k1
            case measure => have := HK1.out; omega
            case rel => exact ⟨((rd_T40 l0 x1_1).f5), (y156), (by first | rfl | (simp; done) | (simp [*]; done)), H', ⟨by have := HK1.out; omega⟩, ⟨by (with_reducible repeat (first | apply Kd.R_alloc | apply Kd.R_drewN | apply Kd.R_drew)); exact HO158.out⟩, ⟨by repeat (first | (with_reducible first | exact HB.out | apply below_alloc | apply pw_below_drewN | apply below_drew1) | exact HB.out)⟩⟩
           ·
            rw [if_neg c15] at H
            exact absurd H (by simp)
         ·
          rw [if_neg c12] at H
          have c12b0 : (((rd_T40 l0 ((rd_T40 l0 x1_1).f5)).f0) == 9) = false := beq_eq_false_iff_ne.mpr c12
          have c12b1 : (((rd_T40 l0 ((rd_T40 l0 x1_1).f5)).f0) != 9) = true := bne_iff_ne.mpr c12
          simp only [Option.some.injEq, Prod.mk.injEq] at H
          obtain ⟨rfl, rfl⟩ := H
          have p152 : 0 ≤ (x1_1 : Int) := of_decide_eq_true (by first | (with_reducible assumption) | assumption)
          have q152 : x1_1 < (l0.length : Int) := of_decide_eq_true (by first | (with_reducible assumption) | assumption)
          obtain ⟨ad152, A152_6, c152_6, A152_7, c152_7, e152, hx152_0, hx152_1, hx152_2, hx152_3, hx152_4, hx152_5, hx152_6, hx152_7, hx152_8, hx152_9, hl152_6, hi152_6, hl152_7, hi152_7⟩ := at_T40 HR0.out x1_1 p152 q152
          cases e152
          replace hx152_0 := (HB.out.cell (World.block_lt_of_cell? w _ hx152_0)).trans hx152_0
          replace hx152_1 := (HB.out.cell (World.block_lt_of_cell? w _ hx152_1)).trans hx152_1
          replace hx152_2 := (HB.out.cell (World.block_lt_of_cell? w _ hx152_2)).trans hx152_2
          replace hx152_3 := (HB.out.cell (World.block_lt_of_cell? w _ hx152_3)).trans hx152_3
          replace hx152_4 := (HB.out.cell (World.block_lt_of_cell? w _ hx152_4)).trans hx152_4
          replace hx152_5 := (HB.out.cell (World.block_lt_of_cell? w _ hx152_5)).trans hx152_5
          replace hx152_6 := (HB.out.cell (World.block_lt_of_cell? w _ hx152_6)).trans hx152_6
          replace hx152_7 := (HB.out.cell (World.block_lt_of_cell? w _ hx152_7)).trans hx152_7
          replace hx152_8 := (HB.out.cell (World.block_lt_of_cell? w _ hx152_8)).trans hx152_8
          replace hx152_9 := (HB.out.cell (World.block_lt_of_cell? w _ hx152_9)).trans hx152_9
          have HR152_6 := Aside0.mk hi152_6
          have HC152_6 := Aside0.mk hl152_6
          clear hi152_6 hl152_6
          have HR152_7 := Aside0.mk hi152_7
          have HC152_7 := Aside0.mk hl152_7
          clear hi152_7 hl152_7
          replace p152 := eq_true p152
          replace q152 := eq_true q152
          have p153 : 0 ≤ (x1_1 : Int) := of_decide_eq_true (by first | (with_reducible assumption) | assumption)
          have q153 : x1_1 < (l0.length : Int) := of_decide_eq_true (by first | (with_reducible assumption) | assumption)
          obtain ⟨ad153, A153_6, c153_6, A153_7, c153_7, e153, hx153_0, hx153_1, hx153_2, hx153_3, hx153_4, hx153_5, hx153_6, hx153_7, hx153_8, hx153_9, hl153_6, hi153_6, hl153_7, hi153_7⟩ := at_T40 HR0.out x1_1 p153 q153
          obtain rfl : ad152 = ad153 := (by injection e153)
          replace hx153_0 := (HB.out.cell (World.block_lt_of_cell? w _ hx153_0)).trans hx153_0
          replace hx153_1 := (HB.out.cell (World.block_lt_of_cell? w _ hx153_1)).trans hx153_1
          replace hx153_2 := (HB.out.cell (World.block_lt_of_cell? w _ hx153_2)).trans hx153_2
          replace hx153_3 := (HB.out.cell (World.block_lt_of_cell? w _ hx153_3)).trans hx153_3
          replace hx153_4 := (HB.out.cell (World.block_lt_of_cell? w _ hx153_4)).trans hx153_4
          replace hx153_5 := (HB.out.cell (World.block_lt_of_cell? w _ hx153_5)).trans hx153_5
          replace hx153_6 := (HB.out.cell (World.block_lt_of_cell? w _ hx153_6)).trans hx153_6
          replace hx153_7 := (HB.out.cell (World.block_lt_of_cell? w _ hx153_7)).trans hx153_7
          replace hx153_8 := (HB.out.cell (World.block_lt_of_cell? w _ hx153_8)).trans hx153_8
          replace hx153_9 := (HB.out.cell (World.block_lt_of_cell? w _ hx153_9)).trans hx153_9
          have HR153_6 := Aside0.mk hi153_6
          have HC153_6 := Aside0.mk hl153_6
          clear hi153_6 hl153_6
          have HR153_7 := Aside0.mk hi153_7
          have HC153_7 := Aside0.mk hl153_7
          clear hi153_7 hl153_7
          replace p153 := eq_true p153
          replace q153 := eq_true q153
          have ea_ := Option.some.inj (hx152_6.symm.trans hx153_6)
          injection ea_ with ea_ en_ ec_
          subst ea_
          subst ec_
          clear en_
          have ea_ := Option.some.inj (hx152_7.symm.trans hx153_7)
          injection ea_ with ea_ en_ ec_
          subst ea_
          subst ec_
          clear en_
          go_wp2_with (first | ((with_reducible refine gate_callee (f := 57) rfl ?_); refine goesL_ (some 22) rfl rfl Try.func57 (by kernel_rfl) rfl #[.slice (some ad152) l0.length c0, .int .i64 ((rd_T40 l0 x1_1).f5)] rfl (by (try simp only [List.map_toArray, List.map_cons, List.map_nil]); first | done | rfl | (simp only [List.length_drop, List.length_take]; rfl)) ?_; (with_reducible refine (spinetref13_place.calls _ _ l0 ((rd_T40 l0 x1_1).f5) true _ ?side1 ?side2 A8.out).mono ?_); (case side1 => repeat (first | exact (Kd.C_below HR0.out HB.out) | (with_reducible refine Kd.C_alloc ?_ _) | (with_reducible refine Kd.C_drewN ?_ _) | (with_reducible refine Kd.C_drew ?_))); (case side2 => exact HC0.out); rintro e w' ⟨rfl, ⟨nd, rfl⟩⟩; refine ⟨_, rfl, ?_⟩; have p155 : 0 ≤ (((rd_T40 l0 x1_1).f5) : Int) := of_decide_eq_true (by first | (with_reducible assumption) | assumption); have q155 : ((rd_T40 l0 x1_1).f5) < (l0.length : Int) := of_decide_eq_true (by first | (with_reducible assumption) | assumption); obtain ⟨ad155, A155_6, c155_6, A155_7, c155_7, e155, hx155_0, hx155_1, hx155_2, hx155_3, hx155_4, hx155_5, hx155_6, hx155_7, hx155_8, hx155_9, hl155_6, hi155_6, hl155_7, hi155_7⟩ := at_T40 HR0.out ((rd_T40 l0 x1_1).f5) p155 q155; obtain rfl : ad152 = ad155 := (by injection e155); replace hx155_0 := (HB.out.cell (World.block_lt_of_cell? w _ hx155_0)).trans hx155_0; replace hx155_1 := (HB.out.cell (World.block_lt_of_cell? w _ hx155_1)).trans hx155_1; replace hx155_2 := (HB.out.cell (World.block_lt_of_cell? w _ hx155_2)).trans hx155_2; replace hx155_3 := (HB.out.cell (World.block_lt_of_cell? w _ hx155_3)).trans hx155_3; replace hx155_4 := (HB.out.cell (World.block_lt_of_cell? w _ hx155_4)).trans hx155_4; replace hx155_5 := (HB.out.cell (World.block_lt_of_cell? w _ hx155_5)).trans hx155_5; replace hx155_6 := (HB.out.cell (World.block_lt_of_cell? w _ hx155_6)).trans hx155_6; replace hx155_7 := (HB.out.cell (World.block_lt_of_cell? w _ hx155_7)).trans hx155_7; replace hx155_8 := (HB.out.cell (World.block_lt_of_cell? w _ hx155_8)).trans hx155_8; replace hx155_9 := (HB.out.cell (World.block_lt_of_cell? w _ hx155_9)).trans hx155_9; have HR155_6 := Aside0.mk hi155_6; have HC155_6 := Aside0.mk hl155_6; clear hi155_6 hl155_6; have HR155_7 := Aside0.mk hi155_7; have HC155_7 := Aside0.mk hl155_7; clear hi155_7 hl155_7; replace p155 := eq_true p155; replace q155 := eq_true q155))
          go_ret2
          exact ⟨_, by first | rfl | (simp [errW_none, errW_some] <;> rfl) | (simp [*, errW_none, errW_some] <;> rfl), by first | exact Kd.R_nil _ _ _ _ _ | exact Kd.N_nil _ _ _ _ _ | exact Kd.V_nil _ _ _ _ _ | exact Kd.Q_nil _ _ _ _ _ | exact Kd.S_nil _ _ _ _ _, by repeat (first | (with_reducible first | exact HB.out | apply below_alloc | apply pw_below_drewN | apply below_drew1) | exact HB.out)⟩
        ·
         rw [if_neg c11] at H
         exact absurd H (by simp)
       ·
        rw [if_neg c10] at H
        exact absurd H (by simp)
      ·
       replace c9 := Bool.eq_false_iff.mpr c9
       subst c9
       have H1 : (some (([] : List Int), false)) = some (r1, r2) := by rw [if_neg (show ¬ (false = true) by decide)] at H; exact H
       clear H
       have H := H1
       clear H1
       simp only [Option.some.injEq, Prod.mk.injEq] at H
       obtain ⟨rfl, rfl⟩ := H
       have p152 : 0 ≤ (x1_1 : Int) := of_decide_eq_true (by first | (with_reducible assumption) | assumption)
       have q152 : x1_1 < (l0.length : Int) := of_decide_eq_true (by first | (with_reducible assumption) | assumption)
       obtain ⟨ad152, A152_6, c152_6, A152_7, c152_7, e152, hx152_0, hx152_1, hx152_2, hx152_3, hx152_4, hx152_5, hx152_6, hx152_7, hx152_8, hx152_9, hl152_6, hi152_6, hl152_7, hi152_7⟩ := at_T40 HR0.out x1_1 p152 q152
       cases e152
       replace hx152_0 := (HB.out.cell (World.block_lt_of_cell? w _ hx152_0)).trans hx152_0
       replace hx152_1 := (HB.out.cell (World.block_lt_of_cell? w _ hx152_1)).trans hx152_1
       replace hx152_2 := (HB.out.cell (World.block_lt_of_cell? w _ hx152_2)).trans hx152_2
       replace hx152_3 := (HB.out.cell (World.block_lt_of_cell? w _ hx152_3)).trans hx152_3
       replace hx152_4 := (HB.out.cell (World.block_lt_of_cell? w _ hx152_4)).trans hx152_4
       replace hx152_5 := (HB.out.cell (World.block_lt_of_cell? w _ hx152_5)).trans hx152_5
       replace hx152_6 := (HB.out.cell (World.block_lt_of_cell? w _ hx152_6)).trans hx152_6
       replace hx152_7 := (HB.out.cell (World.block_lt_of_cell? w _ hx152_7)).trans hx152_7
       replace hx152_8 := (HB.out.cell (World.block_lt_of_cell? w _ hx152_8)).trans hx152_8
       replace hx152_9 := (HB.out.cell (World.block_lt_of_cell? w _ hx152_9)).trans hx152_9
       have HR152_6 := Aside0.mk hi152_6
       have HC152_6 := Aside0.mk hl152_6
       clear hi152_6 hl152_6
       have HR152_7 := Aside0.mk hi152_7
       have HC152_7 := Aside0.mk hl152_7
       clear hi152_7 hl152_7
       replace p152 := eq_true p152
       replace q152 := eq_true q152
       have p153 : 0 ≤ (x1_1 : Int) := of_decide_eq_true (by first | (with_reducible assumption) | assumption)
       have q153 : x1_1 < (l0.length : Int) := of_decide_eq_true (by first | (with_reducible assumption) | assumption)
       obtain ⟨ad153, A153_6, c153_6, A153_7, c153_7, e153, hx153_0, hx153_1, hx153_2, hx153_3, hx153_4, hx153_5, hx153_6, hx153_7, hx153_8, hx153_9, hl153_6, hi153_6, hl153_7, hi153_7⟩ := at_T40 HR0.out x1_1 p153 q153
       obtain rfl : ad152 = ad153 := (by injection e153)
       replace hx153_0 := (HB.out.cell (World.block_lt_of_cell? w _ hx153_0)).trans hx153_0
       replace hx153_1 := (HB.out.cell (World.block_lt_of_cell? w _ hx153_1)).trans hx153_1
       replace hx153_2 := (HB.out.cell (World.block_lt_of_cell? w _ hx153_2)).trans hx153_2
       replace hx153_3 := (HB.out.cell (World.block_lt_of_cell? w _ hx153_3)).trans hx153_3
       replace hx153_4 := (HB.out.cell (World.block_lt_of_cell? w _ hx153_4)).trans hx153_4
       replace hx153_5 := (HB.out.cell (World.block_lt_of_cell? w _ hx153_5)).trans hx153_5
       replace hx153_6 := (HB.out.cell (World.block_lt_of_cell? w _ hx153_6)).trans hx153_6
       replace hx153_7 := (HB.out.cell (World.block_lt_of_cell? w _ hx153_7)).trans hx153_7
       replace hx153_8 := (HB.out.cell (World.block_lt_of_cell? w _ hx153_8)).trans hx153_8
       replace hx153_9 := (HB.out.cell (World.block_lt_of_cell? w _ hx153_9)).trans hx153_9
       have HR153_6 := Aside0.mk hi153_6
       have HC153_6 := Aside0.mk hl153_6
       clear hi153_6 hl153_6
       have HR153_7 := Aside0.mk hi153_7
       have HC153_7 := Aside0.mk hl153_7
       clear hi153_7 hl153_7
       replace p153 := eq_true p153
       replace q153 := eq_true q153
       have ea_ := Option.some.inj (hx152_6.symm.trans hx153_6)
       injection ea_ with ea_ en_ ec_
       subst ea_
       subst ec_
       clear en_
       have ea_ := Option.some.inj (hx152_7.symm.trans hx153_7)
       injection ea_ with ea_ en_ ec_
       subst ea_
       subst ec_
       clear en_
       go_wp2_with (first | ((with_reducible refine gate_callee (f := 57) rfl ?_); refine goesL_ (some 22) rfl rfl Try.func57 (by kernel_rfl) rfl #[.slice (some ad152) l0.length c0, .int .i64 ((rd_T40 l0 x1_1).f5)] rfl (by (try simp only [List.map_toArray, List.map_cons, List.map_nil]); first | done | rfl | (simp only [List.length_drop, List.length_take]; rfl)) ?_; (with_reducible refine (spinetref13_place.calls _ _ l0 ((rd_T40 l0 x1_1).f5) false _ ?side1 ?side2 A8.out).mono ?_); (case side1 => repeat (first | exact (Kd.C_below HR0.out HB.out) | (with_reducible refine Kd.C_alloc ?_ _) | (with_reducible refine Kd.C_drewN ?_ _) | (with_reducible refine Kd.C_drew ?_))); (case side2 => exact HC0.out); rintro e w' ⟨rfl, ⟨nd, rfl⟩⟩; refine ⟨_, rfl, ?_⟩))
       go_ret2
       exact ⟨_, by first | rfl | (simp [errW_none, errW_some] <;> rfl) | (simp [*, errW_none, errW_some] <;> rfl), by first | exact Kd.R_nil _ _ _ _ _ | exact Kd.N_nil _ _ _ _ _ | exact Kd.V_nil _ _ _ _ _ | exact Kd.Q_nil _ _ _ _ _ | exact Kd.S_nil _ _ _ _ _, by repeat (first | (with_reducible first | exact HB.out | apply below_alloc | apply pw_below_drewN | apply below_drew1) | exact HB.out)⟩
    ·
     rw [if_neg c6] at H
     exact absurd H (by simp)
   ·
    rw [if_neg c5] at H
    exact absurd H (by simp)
end Go.Proofs.Ytgnbemgeiloegaa.PTypesGoods
