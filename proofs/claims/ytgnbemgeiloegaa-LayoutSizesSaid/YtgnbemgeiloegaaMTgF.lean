import Derived.Test.YtgnbemgeiloegaaMTgX
namespace Go.Proofs.Ytgnbemgeiloegaa.Tg
open Go.RowKit Go.Maps Go.WideMaps
open Go.Proofs.YtgnbemgeiloegaaW.PrintWords Go.Proofs.YtgnbemgeiloegaaW.PrintLast Go.Proofs.YtgnbemgeiloegaaW.PrintMore
set_option linter.unusedVariables false
set_option linter.unusedSimpArgs false
open Go.Proofs.Ytgnbemgeiloegaa.PTypesGoods (S40 S42 S47 k40 k42 k47 rd_T40 rd_T42 rd_T47 at_T40 at_T42 at_T47)
set_option maxHeartbeats 16000000 in
set_option maxRecDepth 100000 in
theorem one_calls {w : World} {A : Option Addr} {c : Nat} {t : List S40} (hC : Kd.C k40 w A t.length t) (hc : t.length ≤ c) (hz : Sized t) (hpm : Parms t) (a : Int) (h0 : 0 ≤ a) (h1 : a < t.length) :
 Calls Try.prog 43 #[.slice A t.length c, .int .i64 a] w fun e w' => e = .returned (.bool (oneP t a)) ∧ Below w.heap.size w w' := by
 obtain ⟨ad, A6, c6, A7, c7, hA, p0, p1, p2, p3, p4, p5, p6, p7, p8, p9, l6, C6, l7, C7⟩ := at_T40 hC a h0 h1
 subst hA
 have hone : Aside0 (oneP t a = oneX t a (rd_T40 t a)) := ⟨rfl⟩
 have hx7 := (hpm _ (rd_in h0 h1)).1
 clear hpm
 generalize rd_T40 t a = x at p0 p1 p2 p3 p4 p5 p6 p7 p8 p9 l6 C6 l7 C7 hone hx7
 go_enter Try.func43, Try.ntmps43
 go_upto_region 2 with fail
 clear p0 p1 p2 p3 p4 p5 p6 p7 p8 p9
 go_cut [48] (fun s48 wx => s48 = .bool (bad2 x) ∧ wx = w.alloc (.cells #[.int .i64 x.f0, .string x.f1, .string x.f2, .int .i64 x.f3, .int .i64 x.f4, .int .i64 x.f5, .slice A6 x.f6.length c6, .slice A7 x.f7.length c7, .int .i64 x.f8, .int .i64 x.f9] 40))
 case first =>
  as_aux_lemma =>
   go_wp2_with fail
   all_goals (go_meet; (case rel => exact ⟨by first | (simp_all [bad2, nul]; done) | (simp_all [bad2, nul, List.isEmpty_iff]; done) | (have e1 : x.f1.toList.isEmpty = false := (by cases he : x.f1.toList <;> simp_all); simp_all [bad2, nul]; done), by first | rfl | (simp_all; done)⟩))
 case rest =>
  obtain ⟨rfl, rfl⟩ := hcut
  have HX := Aside0.mk (Box.made w x A6 c6 A7 c7)
  obtain ⟨wx, hwx⟩ : ∃ wx, wx = w.alloc (.cells #[.int .i64 x.f0, .string x.f1, .string x.f2, .int .i64 x.f3, .int .i64 x.f4, .int .i64 x.f5, .slice A6 x.f6.length c6, .slice A7 x.f7.length c7, .int .i64 x.f8, .int .i64 x.f9] 40) := ⟨_, rfl⟩
  rw [← hwx] at HX ⊢
  clear hwx
  have hCx := Aside0.mk hC
  have hC6 := Aside0.mk C6
  have hC7 := Aside0.mk C7
  clear hC C6 C7
  cases hb2 : bad2 x with
  | true =>
   go_wp2
   go_ret
   exact ⟨by rw [hone.out]; simp [oneX, hb2], HX.out.below⟩
  | false =>
   go_upto_region 4 with fail
   go_cut [68] (fun s68 wy => s68 = .bool (bad4 x) ∧ Box w wy x A6 c6 A7 c7)
   case first =>
    obtain ⟨b0, b1, b2, b3, b4, b5, b6, b7, b8, b9, blt, bb⟩ := HX.out
    cases n1 : x.f1.toList.isEmpty
    ·
     cases i1 : isName x.f1
     ·
      as_aux_lemma =>
       go_wp2_with (go_at_call 55; refine (word_calls _ _).mono ?_; rintro e w4 ⟨rfl, ⟨⟨n4, rfl⟩⟩⟩)
       go_meet
       case rel => exact ⟨by simp [bad4, nul, n1, i1], HX.out.drewN _⟩
     ·
      cases n2 : x.f2.toList.isEmpty
      ·
       cases i2 : isName x.f2 <;>
       as_aux_lemma =>
        go_wp2_with (go_at_call 55; refine (word_calls _ _).mono ?_; rintro e w4 ⟨rfl, ⟨⟨n4, rfl⟩⟩⟩)
        go_meet
        case rel => exact ⟨by simp [bad4, nul, n1, n2, i1, i2], HX.out.drewN _⟩
      ·
       as_aux_lemma =>
        go_wp2_with (go_at_call 55; refine (word_calls _ _).mono ?_; rintro e w4 ⟨rfl, ⟨⟨n4, rfl⟩⟩⟩)
        go_meet
        case rel => exact ⟨by simp [bad4, nul, n1, n2, i1], HX.out.drewN _⟩
    ·
     cases n2 : x.f2.toList.isEmpty
     ·
      cases i2 : isName x.f2 <;>
      as_aux_lemma =>
       go_wp2_with (go_at_call 55; refine (word_calls _ _).mono ?_; rintro e w4 ⟨rfl, ⟨⟨n4, rfl⟩⟩⟩)
       go_meet
       case rel => exact ⟨by simp [bad4, nul, n1, n2, i2], HX.out.drewN _⟩
     ·
      as_aux_lemma =>
       go_wp2
       go_meet
       case rel => exact ⟨by simp [bad4, nul, n1, n2], HX.out⟩
   case rest =>
    obtain ⟨rfl, HY⟩ := hcut
    clear HX
    have HX := Aside0.mk HY
    clear HY
    cases hb4 : bad4 x with
    | true =>
     go_wp2
     go_ret
     exact ⟨by rw [hone.out]; simp [oneX, hb4], HX.out.below⟩
    | false =>
     obtain ⟨wx, rfl⟩ : ∃ wx, wx = wc := ⟨_, rfl⟩
     go_upto_region 6 with fail
     go_cut [128] (fun s128 wy => s128 = .bool (bad6 x) ∧ wy = wx)
     case first =>
      replace HX := HX
      obtain ⟨b0, b1, b2, b3, b4, b5, b6, b7, b8, b9, blt, bb⟩ := HX.out
      by_cases e7 : x.f0 = 7
      ·
       replace b0 := (b0.trans (by rw [e7]) : wx.cell? ⟨w.heap.size, 0, none⟩ = some (.int .i64 7))
       replace e7 := Aside0.mk e7
       by_cases hC1 : x.f5 = 0
       ·
        have hC1b : (x.f5 == 0) = true := by simp [hC1]
        have hC1c : (x.f5 != 0) = false := by simp [hC1]
        clear hC1
        have hC1 : Aside0 (x.f5 = 0) := ⟨by simpa using hC1b⟩
        by_cases hC2 : x.f6.length = 0
        ·
         have hC2b : decide (0 < x.f6.length) = false := decide_eq_false (by omega)
         have hC2c : decide ((x.f6.length : Int) > 0) = false := decide_eq_false (by omega)
         replace hC2 := Aside0.mk hC2
         by_cases hD1 : x.f7.length = 0
         ·
          have hD1b : decide (0 < x.f7.length) = false := decide_eq_false (by omega)
          have hD1c : decide ((x.f7.length : Int) > 0) = false := decide_eq_false (by omega)
          replace hD1 := Aside0.mk hD1
          by_cases hD2 : x.f8 = 0
          ·
           have hD2b : (x.f8 == 0) = true := by simp [hD2]
           have hD2c : (x.f8 != 0) = false := by simp [hD2]
           clear hD2
           have hD2 : Aside0 (x.f8 = 0) := ⟨by simpa using hD2b⟩
           as_aux_lemma =>
            go_wp2
            go_meet
            case rel => exact ⟨by simp [bad6, e7.out, hC1.out, hC2.out, hD1.out, hD2.out], rfl⟩
          ·
           have hD2b : (x.f8 == 0) = false := by simp [hD2]
           have hD2c : (x.f8 != 0) = true := by simp [hD2]
           replace hD2 := Aside0.mk hD2
           as_aux_lemma =>
            go_wp2
            go_meet
            case rel => exact ⟨by simp [bad6, e7.out, hC1.out, hC2.out, hD1.out, hD2.out], rfl⟩
         ·
          have hD1b : decide (0 < x.f7.length) = true := decide_eq_true (by omega)
          have hD1c : decide ((x.f7.length : Int) > 0) = true := decide_eq_true (by omega)
          have hD1d : 0 < x.f7.length := by omega
          replace hD1 := Aside0.mk hD1
          as_aux_lemma =>
           go_wp2
           go_meet
           case rel => exact ⟨by simp [bad6, e7.out, hC1.out, hC2.out, hD1d], rfl⟩
        ·
         have hC2b : decide (0 < x.f6.length) = true := decide_eq_true (by omega)
         have hC2c : decide ((x.f6.length : Int) > 0) = true := decide_eq_true (by omega)
         have hC2d : 0 < x.f6.length := by omega
         replace hC2 := Aside0.mk hC2
         as_aux_lemma =>
          go_wp2
          go_meet
          case rel => exact ⟨by simp [bad6, e7.out, hC1.out, hC2d], rfl⟩
       ·
        have hC1b : (x.f5 == 0) = false := by simp [hC1]
        have hC1c : (x.f5 != 0) = true := by simp [hC1]
        replace hC1 := Aside0.mk hC1
        as_aux_lemma =>
         go_wp2
         go_meet
         case rel => exact ⟨by simp [bad6, e7.out, hC1.out], rfl⟩
      by_cases e8 : x.f0 = 8
      ·
       replace b0 := (b0.trans (by rw [e8]) : wx.cell? ⟨w.heap.size, 0, none⟩ = some (.int .i64 8))
       replace e8 := Aside0.mk e8
       by_cases hA : x.f3 = 0
       ·
        have hAb : (x.f3 == 0) = true := by simp [hA]
        have hAc : (x.f3 != 0) = false := by simp [hA]
        clear hA
        have hA : Aside0 (x.f3 = 0) := ⟨by simpa using hAb⟩
        by_cases hC1 : x.f5 = 0
        ·
         have hC1b : (x.f5 == 0) = true := by simp [hC1]
         have hC1c : (x.f5 != 0) = false := by simp [hC1]
         clear hC1
         have hC1 : Aside0 (x.f5 = 0) := ⟨by simpa using hC1b⟩
         by_cases hC2 : x.f6.length = 0
         ·
          have hC2b : decide (0 < x.f6.length) = false := decide_eq_false (by omega)
          have hC2c : decide ((x.f6.length : Int) > 0) = false := decide_eq_false (by omega)
          replace hC2 := Aside0.mk hC2
          by_cases hD1 : x.f7.length = 0
          ·
           have hD1b : decide (0 < x.f7.length) = false := decide_eq_false (by omega)
           have hD1c : decide ((x.f7.length : Int) > 0) = false := decide_eq_false (by omega)
           replace hD1 := Aside0.mk hD1
           by_cases hD2 : x.f8 = 0
           ·
            have hD2b : (x.f8 == 0) = true := by simp [hD2]
            have hD2c : (x.f8 != 0) = false := by simp [hD2]
            clear hD2
            have hD2 : Aside0 (x.f8 = 0) := ⟨by simpa using hD2b⟩
            as_aux_lemma =>
             go_wp2
             go_meet
             case rel => exact ⟨by simp [bad6, e8.out, hA.out, hC1.out, hC2.out, hD1.out, hD2.out], rfl⟩
           ·
            have hD2b : (x.f8 == 0) = false := by simp [hD2]
            have hD2c : (x.f8 != 0) = true := by simp [hD2]
            replace hD2 := Aside0.mk hD2
            as_aux_lemma =>
             go_wp2
             go_meet
             case rel => exact ⟨by simp [bad6, e8.out, hA.out, hC1.out, hC2.out, hD1.out, hD2.out], rfl⟩
          ·
           have hD1b : decide (0 < x.f7.length) = true := decide_eq_true (by omega)
           have hD1c : decide ((x.f7.length : Int) > 0) = true := decide_eq_true (by omega)
           have hD1d : 0 < x.f7.length := by omega
           replace hD1 := Aside0.mk hD1
           as_aux_lemma =>
            go_wp2
            go_meet
            case rel => exact ⟨by simp [bad6, e8.out, hA.out, hC1.out, hC2.out, hD1d], rfl⟩
         ·
          have hC2b : decide (0 < x.f6.length) = true := decide_eq_true (by omega)
          have hC2c : decide ((x.f6.length : Int) > 0) = true := decide_eq_true (by omega)
          have hC2d : 0 < x.f6.length := by omega
          replace hC2 := Aside0.mk hC2
          as_aux_lemma =>
           go_wp2
           go_meet
           case rel => exact ⟨by simp [bad6, e8.out, hA.out, hC1.out, hC2d], rfl⟩
        ·
         have hC1b : (x.f5 == 0) = false := by simp [hC1]
         have hC1c : (x.f5 != 0) = true := by simp [hC1]
         replace hC1 := Aside0.mk hC1
         as_aux_lemma =>
          go_wp2
          go_meet
          case rel => exact ⟨by simp [bad6, e8.out, hA.out, hC1.out], rfl⟩
       ·
        have hAb : (x.f3 == 0) = false := by simp [hA]
        have hAc : (x.f3 != 0) = true := by simp [hA]
        replace hA := Aside0.mk hA
        as_aux_lemma =>
         go_wp2
         go_meet
         case rel => exact ⟨by simp [bad6, e8.out, hA.out], rfl⟩
      by_cases e9 : x.f0 = 9
      ·
       replace b0 := (b0.trans (by rw [e9]) : wx.cell? ⟨w.heap.size, 0, none⟩ = some (.int .i64 9))
       replace e9 := Aside0.mk e9
       by_cases hA : x.f3 = 0
       ·
        have hAb : (x.f3 == 0) = true := by simp [hA]
        have hAc : (x.f3 != 0) = false := by simp [hA]
        clear hA
        have hA : Aside0 (x.f3 = 0) := ⟨by simpa using hAb⟩
        by_cases hB : x.f4 = 0
        ·
         have hBb : (x.f4 == 0) = true := by simp [hB]
         have hBc : (x.f4 != 0) = false := by simp [hB]
         clear hB
         have hB : Aside0 (x.f4 = 0) := ⟨by simpa using hBb⟩
         by_cases hD1 : x.f7.length = 0
         ·
          have hD1b : decide (0 < x.f7.length) = false := decide_eq_false (by omega)
          have hD1c : decide ((x.f7.length : Int) > 0) = false := decide_eq_false (by omega)
          replace hD1 := Aside0.mk hD1
          by_cases hD2 : x.f8 = 0
          ·
           have hD2b : (x.f8 == 0) = true := by simp [hD2]
           have hD2c : (x.f8 != 0) = false := by simp [hD2]
           clear hD2
           have hD2 : Aside0 (x.f8 = 0) := ⟨by simpa using hD2b⟩
           as_aux_lemma =>
            go_wp2
            go_meet
            case rel => exact ⟨by simp [bad6, e9.out, hA.out, hB.out, hD1.out, hD2.out], rfl⟩
          ·
           have hD2b : (x.f8 == 0) = false := by simp [hD2]
           have hD2c : (x.f8 != 0) = true := by simp [hD2]
           replace hD2 := Aside0.mk hD2
           as_aux_lemma =>
            go_wp2
            go_meet
            case rel => exact ⟨by simp [bad6, e9.out, hA.out, hB.out, hD1.out, hD2.out], rfl⟩
         ·
          have hD1b : decide (0 < x.f7.length) = true := decide_eq_true (by omega)
          have hD1c : decide ((x.f7.length : Int) > 0) = true := decide_eq_true (by omega)
          have hD1d : 0 < x.f7.length := by omega
          replace hD1 := Aside0.mk hD1
          as_aux_lemma =>
           go_wp2
           go_meet
           case rel => exact ⟨by simp [bad6, e9.out, hA.out, hB.out, hD1d], rfl⟩
        ·
         have hBb : (x.f4 == 0) = false := by simp [hB]
         have hBc : (x.f4 != 0) = true := by simp [hB]
         replace hB := Aside0.mk hB
         as_aux_lemma =>
          go_wp2
          go_meet
          case rel => exact ⟨by simp [bad6, e9.out, hA.out, hB.out], rfl⟩
       ·
        have hAb : (x.f3 == 0) = false := by simp [hA]
        have hAc : (x.f3 != 0) = true := by simp [hA]
        replace hA := Aside0.mk hA
        as_aux_lemma =>
         go_wp2
         go_meet
         case rel => exact ⟨by simp [bad6, e9.out, hA.out], rfl⟩
      by_cases e10 : x.f0 = 10
      ·
       replace b0 := (b0.trans (by rw [e10]) : wx.cell? ⟨w.heap.size, 0, none⟩ = some (.int .i64 10))
       replace e10 := Aside0.mk e10
       by_cases hA : x.f3 = 0
       ·
        have hAb : (x.f3 == 0) = true := by simp [hA]
        have hAc : (x.f3 != 0) = false := by simp [hA]
        clear hA
        have hA : Aside0 (x.f3 = 0) := ⟨by simpa using hAb⟩
        by_cases hC1 : x.f5 = 0
        ·
         have hC1b : (x.f5 == 0) = true := by simp [hC1]
         have hC1c : (x.f5 != 0) = false := by simp [hC1]
         clear hC1
         have hC1 : Aside0 (x.f5 = 0) := ⟨by simpa using hC1b⟩
         by_cases hC2 : x.f6.length = 0
         ·
          have hC2b : decide (0 < x.f6.length) = false := decide_eq_false (by omega)
          have hC2c : decide ((x.f6.length : Int) > 0) = false := decide_eq_false (by omega)
          replace hC2 := Aside0.mk hC2
          by_cases hD1 : x.f7.length = 0
          ·
           have hD1b : decide (0 < x.f7.length) = false := decide_eq_false (by omega)
           have hD1c : decide ((x.f7.length : Int) > 0) = false := decide_eq_false (by omega)
           replace hD1 := Aside0.mk hD1
           by_cases hD2 : x.f8 = 0
           ·
            have hD2b : (x.f8 == 0) = true := by simp [hD2]
            have hD2c : (x.f8 != 0) = false := by simp [hD2]
            clear hD2
            have hD2 : Aside0 (x.f8 = 0) := ⟨by simpa using hD2b⟩
            as_aux_lemma =>
             go_wp2
             go_meet
             case rel => exact ⟨by simp [bad6, e10.out, hA.out, hC1.out, hC2.out, hD1.out, hD2.out], rfl⟩
           ·
            have hD2b : (x.f8 == 0) = false := by simp [hD2]
            have hD2c : (x.f8 != 0) = true := by simp [hD2]
            replace hD2 := Aside0.mk hD2
            as_aux_lemma =>
             go_wp2
             go_meet
             case rel => exact ⟨by simp [bad6, e10.out, hA.out, hC1.out, hC2.out, hD1.out, hD2.out], rfl⟩
          ·
           have hD1b : decide (0 < x.f7.length) = true := decide_eq_true (by omega)
           have hD1c : decide ((x.f7.length : Int) > 0) = true := decide_eq_true (by omega)
           have hD1d : 0 < x.f7.length := by omega
           replace hD1 := Aside0.mk hD1
           as_aux_lemma =>
            go_wp2
            go_meet
            case rel => exact ⟨by simp [bad6, e10.out, hA.out, hC1.out, hC2.out, hD1d], rfl⟩
         ·
          have hC2b : decide (0 < x.f6.length) = true := decide_eq_true (by omega)
          have hC2c : decide ((x.f6.length : Int) > 0) = true := decide_eq_true (by omega)
          have hC2d : 0 < x.f6.length := by omega
          replace hC2 := Aside0.mk hC2
          as_aux_lemma =>
           go_wp2
           go_meet
           case rel => exact ⟨by simp [bad6, e10.out, hA.out, hC1.out, hC2d], rfl⟩
        ·
         have hC1b : (x.f5 == 0) = false := by simp [hC1]
         have hC1c : (x.f5 != 0) = true := by simp [hC1]
         replace hC1 := Aside0.mk hC1
         as_aux_lemma =>
          go_wp2
          go_meet
          case rel => exact ⟨by simp [bad6, e10.out, hA.out, hC1.out], rfl⟩
       ·
        have hAb : (x.f3 == 0) = false := by simp [hA]
        have hAc : (x.f3 != 0) = true := by simp [hA]
        replace hA := Aside0.mk hA
        as_aux_lemma =>
         go_wp2
         go_meet
         case rel => exact ⟨by simp [bad6, e10.out, hA.out], rfl⟩
      by_cases e11 : x.f0 = 11
      ·
       replace b0 := (b0.trans (by rw [e11]) : wx.cell? ⟨w.heap.size, 0, none⟩ = some (.int .i64 11))
       replace e11 := Aside0.mk e11
       by_cases hA : x.f3 = 0
       ·
        have hAb : (x.f3 == 0) = true := by simp [hA]
        have hAc : (x.f3 != 0) = false := by simp [hA]
        clear hA
        have hA : Aside0 (x.f3 = 0) := ⟨by simpa using hAb⟩
        by_cases hB : x.f4 = 0
        ·
         have hBb : (x.f4 == 0) = true := by simp [hB]
         have hBc : (x.f4 != 0) = false := by simp [hB]
         clear hB
         have hB : Aside0 (x.f4 = 0) := ⟨by simpa using hBb⟩
         by_cases hC1 : x.f5 = 0
         ·
          have hC1b : (x.f5 == 0) = true := by simp [hC1]
          have hC1c : (x.f5 != 0) = false := by simp [hC1]
          clear hC1
          have hC1 : Aside0 (x.f5 = 0) := ⟨by simpa using hC1b⟩
          by_cases hC2 : x.f6.length = 0
          ·
           have hC2b : decide (0 < x.f6.length) = false := decide_eq_false (by omega)
           have hC2c : decide ((x.f6.length : Int) > 0) = false := decide_eq_false (by omega)
           replace hC2 := Aside0.mk hC2
           as_aux_lemma =>
            go_wp2
            go_meet
            case rel => exact ⟨by simp [bad6, e11.out, hA.out, hB.out, hC1.out, hC2.out], rfl⟩
          ·
           have hC2b : decide (0 < x.f6.length) = true := decide_eq_true (by omega)
           have hC2c : decide ((x.f6.length : Int) > 0) = true := decide_eq_true (by omega)
           have hC2d : 0 < x.f6.length := by omega
           replace hC2 := Aside0.mk hC2
           as_aux_lemma =>
            go_wp2
            go_meet
            case rel => exact ⟨by simp [bad6, e11.out, hA.out, hB.out, hC1.out, hC2d], rfl⟩
         ·
          have hC1b : (x.f5 == 0) = false := by simp [hC1]
          have hC1c : (x.f5 != 0) = true := by simp [hC1]
          replace hC1 := Aside0.mk hC1
          as_aux_lemma =>
           go_wp2
           go_meet
           case rel => exact ⟨by simp [bad6, e11.out, hA.out, hB.out, hC1.out], rfl⟩
        ·
         have hBb : (x.f4 == 0) = false := by simp [hB]
         have hBc : (x.f4 != 0) = true := by simp [hB]
         replace hB := Aside0.mk hB
         as_aux_lemma =>
          go_wp2
          go_meet
          case rel => exact ⟨by simp [bad6, e11.out, hA.out, hB.out], rfl⟩
       ·
        have hAb : (x.f3 == 0) = false := by simp [hA]
        have hAc : (x.f3 != 0) = true := by simp [hA]
        replace hA := Aside0.mk hA
        as_aux_lemma =>
         go_wp2
         go_meet
         case rel => exact ⟨by simp [bad6, e11.out, hA.out], rfl⟩
      have g7b : (x.f0 == 7) = false := by simp [e7]
      have g7c : (x.f0 != 7) = true := by simp [e7]
      replace e7 := Aside0.mk e7
      have g8b : (x.f0 == 8) = false := by simp [e8]
      have g8c : (x.f0 != 8) = true := by simp [e8]
      replace e8 := Aside0.mk e8
      have g9b : (x.f0 == 9) = false := by simp [e9]
      have g9c : (x.f0 != 9) = true := by simp [e9]
      replace e9 := Aside0.mk e9
      have g10b : (x.f0 == 10) = false := by simp [e10]
      have g10c : (x.f0 != 10) = true := by simp [e10]
      replace e10 := Aside0.mk e10
      have g11b : (x.f0 == 11) = false := by simp [e11]
      have g11c : (x.f0 != 11) = true := by simp [e11]
      replace e11 := Aside0.mk e11
      by_cases hA : x.f3 = 0
      ·
       have hAb : (x.f3 == 0) = true := by simp [hA]
       have hAc : (x.f3 != 0) = false := by simp [hA]
       clear hA
       have hA : Aside0 (x.f3 = 0) := ⟨by simpa using hAb⟩
       by_cases hB : x.f4 = 0
       ·
        have hBb : (x.f4 == 0) = true := by simp [hB]
        have hBc : (x.f4 != 0) = false := by simp [hB]
        clear hB
        have hB : Aside0 (x.f4 = 0) := ⟨by simpa using hBb⟩
        by_cases hC1 : x.f5 = 0
        ·
         have hC1b : (x.f5 == 0) = true := by simp [hC1]
         have hC1c : (x.f5 != 0) = false := by simp [hC1]
         clear hC1
         have hC1 : Aside0 (x.f5 = 0) := ⟨by simpa using hC1b⟩
         by_cases hC2 : x.f6.length = 0
         ·
          have hC2b : decide (0 < x.f6.length) = false := decide_eq_false (by omega)
          have hC2c : decide ((x.f6.length : Int) > 0) = false := decide_eq_false (by omega)
          replace hC2 := Aside0.mk hC2
          by_cases hD1 : x.f7.length = 0
          ·
           have hD1b : decide (0 < x.f7.length) = false := decide_eq_false (by omega)
           have hD1c : decide ((x.f7.length : Int) > 0) = false := decide_eq_false (by omega)
           replace hD1 := Aside0.mk hD1
           by_cases hD2 : x.f8 = 0
           ·
            have hD2b : (x.f8 == 0) = true := by simp [hD2]
            have hD2c : (x.f8 != 0) = false := by simp [hD2]
            clear hD2
            have hD2 : Aside0 (x.f8 = 0) := ⟨by simpa using hD2b⟩
            as_aux_lemma =>
             go_wp2
             go_meet
             case rel => exact ⟨by simp [bad6, e7.out, e8.out, e9.out, e10.out, e11.out, hA.out, hB.out, hC1.out, hC2.out, hD1.out, hD2.out], rfl⟩
           ·
            have hD2b : (x.f8 == 0) = false := by simp [hD2]
            have hD2c : (x.f8 != 0) = true := by simp [hD2]
            replace hD2 := Aside0.mk hD2
            as_aux_lemma =>
             go_wp2
             go_meet
             case rel => exact ⟨by simp [bad6, e7.out, e8.out, e9.out, e10.out, e11.out, hA.out, hB.out, hC1.out, hC2.out, hD1.out, hD2.out], rfl⟩
          ·
           have hD1b : decide (0 < x.f7.length) = true := decide_eq_true (by omega)
           have hD1c : decide ((x.f7.length : Int) > 0) = true := decide_eq_true (by omega)
           have hD1d : 0 < x.f7.length := by omega
           replace hD1 := Aside0.mk hD1
           as_aux_lemma =>
            go_wp2
            go_meet
            case rel => exact ⟨by simp [bad6, e7.out, e8.out, e9.out, e10.out, e11.out, hA.out, hB.out, hC1.out, hC2.out, hD1d], rfl⟩
         ·
          have hC2b : decide (0 < x.f6.length) = true := decide_eq_true (by omega)
          have hC2c : decide ((x.f6.length : Int) > 0) = true := decide_eq_true (by omega)
          have hC2d : 0 < x.f6.length := by omega
          replace hC2 := Aside0.mk hC2
          as_aux_lemma =>
           go_wp2
           go_meet
           case rel => exact ⟨by simp [bad6, e7.out, e8.out, e9.out, e10.out, e11.out, hA.out, hB.out, hC1.out, hC2d], rfl⟩
        ·
         have hC1b : (x.f5 == 0) = false := by simp [hC1]
         have hC1c : (x.f5 != 0) = true := by simp [hC1]
         replace hC1 := Aside0.mk hC1
         as_aux_lemma =>
          go_wp2
          go_meet
          case rel => exact ⟨by simp [bad6, e7.out, e8.out, e9.out, e10.out, e11.out, hA.out, hB.out, hC1.out], rfl⟩
       ·
        have hBb : (x.f4 == 0) = false := by simp [hB]
        have hBc : (x.f4 != 0) = true := by simp [hB]
        replace hB := Aside0.mk hB
        as_aux_lemma =>
         go_wp2
         go_meet
         case rel => exact ⟨by simp [bad6, e7.out, e8.out, e9.out, e10.out, e11.out, hA.out, hB.out], rfl⟩
      ·
       have hAb : (x.f3 == 0) = false := by simp [hA]
       have hAc : (x.f3 != 0) = true := by simp [hA]
       replace hA := Aside0.mk hA
       as_aux_lemma =>
        go_wp2
        go_meet
        case rel => exact ⟨by simp [bad6, e7.out, e8.out, e9.out, e10.out, e11.out, hA.out], rfl⟩
     case rest =>
      obtain ⟨rfl, rfl⟩ := hcut
      cases hb6 : bad6 x with
      | true =>
       go_wp2
       go_ret
       exact ⟨by rw [hone.out]; simp [oneX, hb6], HX.out.below⟩
      | false =>
       have hone2 : Aside0 (oneP t a = caseP t a x) := ⟨by rw [hone.out]; simp [oneX, hb2, hb4, hb6]⟩
       clear hone hb2 hb4 hb6
       have hCy := Aside0.mk (Kd.C_below hCx.out HX.out.below)
       have hHolds := fun i => holds_calls hCy.out hc i
       have hPlace := fun i => place_calls hCy.out hc i
       have HHolds := Aside0.mk hHolds
       have HPlace := Aside0.mk hPlace
       clear hHolds hPlace
       have hForm : ∀ i : Int, placeP t i = true → 0 ≤ i ∧ i < t.length ∧ form t i = (rd_T40 t i).f0 := fun i h => by
        have h' : 0 ≤ i ∧ i < t.length := of_decide_eq_true h
        exact ⟨h'.1, h'.2, if_pos h'⟩
       have HForm := Aside0.mk hForm
       clear hForm
       by_cases e7 : x.f0 = 7
       ·
        obtain ⟨b0, b1, b2, b3, b4, b5, b6, b7, b8, b9, blt, bb⟩ := HX.out
        replace b0 := (b0.trans (by rw [e7]) : wc.cell? ⟨w.heap.size, 0, none⟩ = some (.int .i64 7))
        have hone3 : Aside0 (oneP t a = (decide (1 ≤ x.f3) && decide (x.f3 ≤ 4096) && holdsP t x.f4)) := ⟨by rw [hone2.out]; unfold caseP; rw [if_pos e7]⟩
        clear e7 b1 b2 b5 b6 b7 b8 b9
        by_cases g1 : 1 ≤ x.f3
        ·
         have g1b : decide (1 ≤ x.f3) = true := decide_eq_true g1
         by_cases g2 : x.f3 ≤ 4096
         ·
          have g2b : decide (x.f3 ≤ 4096) = true := decide_eq_true g2
          as_aux_lemma =>
           go_wp2_with (go_at_call 56; refine (HHolds.out _).mono ?_; rintro e w4 ⟨rfl, ⟨⟨n4, rfl⟩⟩⟩)
           go_ret
           exact ⟨by rw [hone3.out]; simp [g1, g2], (HX.out.drewN _).below⟩
         ·
          have g2b : decide (x.f3 ≤ 4096) = false := decide_eq_false g2
          have R : Aside0 (oneP t a = false) := ⟨by rw [hone3.out, g1b, g2b]; rfl⟩
          as_aux_lemma =>
           go_wp2
           go_ret
           exact ⟨by rw [R.out]; rfl, HX.out.below⟩
        ·
         have g1b : decide (1 ≤ x.f3) = false := decide_eq_false g1
         have R : Aside0 (oneP t a = false) := ⟨by rw [hone3.out, g1b]; rfl⟩
         as_aux_lemma =>
          go_wp2
          go_ret
          exact ⟨by rw [R.out]; rfl, HX.out.below⟩
       by_cases e8 : x.f0 = 8
       ·
        obtain ⟨b0, b1, b2, b3, b4, b5, b6, b7, b8, b9, blt, bb⟩ := HX.out
        replace b0 := (b0.trans (by rw [e8]) : wc.cell? ⟨w.heap.size, 0, none⟩ = some (.int .i64 8))
        have hone3 : Aside0 (oneP t a = (holdsP t x.f4 || (placeP t x.f4 && decide (form t x.f4 = 8)))) := ⟨by rw [hone2.out]; unfold caseP; rw [if_neg e7, if_pos e8]⟩
        clear e7 e8 b1 b2 b3 b5 b6 b7 b8 b9
        cases hh : holdsP t x.f4 with
        | true =>
         as_aux_lemma =>
          go_wp2_with (go_at_call 56; refine (HHolds.out _).mono ?_; rintro e w4 ⟨rfl, ⟨⟨n4, rfl⟩⟩⟩)
          go_ret
          exact ⟨by rw [hone3.out, hh]; rfl, (HX.out.drewN _).below⟩
        | false =>
         cases hp : placeP t x.f4 with
         | false =>
          as_aux_lemma =>
           go_wp2_with (first | (go_at_call 56; refine (HHolds.out _).mono ?_; rintro e w4 ⟨rfl, ⟨⟨n4, rfl⟩⟩⟩) | (go_at_call 57; refine (place_calls (Kd.C_below hCx.out (HX.out.drewN _).below) hc _).mono ?_; rintro e w5 ⟨rfl, ⟨⟨n5, rfl⟩⟩⟩))
           go_ret
           exact ⟨by rw [hone3.out, hh, hp]; rfl, (HX.out.drewN _).below⟩
         | true =>
          obtain ⟨f0, f1, f2⟩ := HForm.out _ hp
          obtain ⟨ad2, _, _, _, _, hA2, q0, _⟩ := at_T40 hCy.out x.f4 f0 f1
          obtain rfl := Option.some.inj hA2
          clear hA2
          have F2 := Aside0.mk f2
          clear f2
          generalize (rd_T40 t x.f4).f0 = fo at q0 F2
          by_cases h8 : fo = 8
          ·
           subst h8
           as_aux_lemma =>
            go_wp2_with (first | (go_at_call 56; refine (HHolds.out _).mono ?_; rintro e w4 ⟨rfl, ⟨⟨n4, rfl⟩⟩⟩) | (go_at_call 57; refine (place_calls (Kd.C_below hCx.out (HX.out.drewN _).below) hc _).mono ?_; rintro e w5 ⟨rfl, ⟨⟨n5, rfl⟩⟩⟩))
            go_ret
            exact ⟨by rw [hone3.out, hh, hp, F2.out]; rfl, (HX.out.drewN _).below⟩
          ·
           have h8b : (fo == 8) = false := by simpa using h8
           as_aux_lemma =>
            go_wp2_with (first | (go_at_call 56; refine (HHolds.out _).mono ?_; rintro e w4 ⟨rfl, ⟨⟨n4, rfl⟩⟩⟩) | (go_at_call 57; refine (place_calls (Kd.C_below hCx.out (HX.out.drewN _).below) hc _).mono ?_; rintro e w5 ⟨rfl, ⟨⟨n5, rfl⟩⟩⟩))
            go_ret
            exact ⟨by rw [hone3.out, hh, hp, F2.out]; simp [h8], (HX.out.drewN _).below⟩
       by_cases e10 : x.f0 = 10
       ·
        obtain ⟨b0, b1, b2, b3, b4, b5, b6, b7, b8, b9, blt, bb⟩ := HX.out
        replace b0 := (b0.trans (by rw [e10]) : wc.cell? ⟨w.heap.size, 0, none⟩ = some (.int .i64 10))
        have hone3 : Aside0 (oneP t a = (placeP t x.f4 && decide (form t x.f4 = 9))) := ⟨by rw [hone2.out]; unfold caseP; rw [if_neg e7, if_neg e8, if_pos e10]⟩
        clear e7 e8 e10 b1 b2 b3 b5 b6 b7 b8 b9
        cases hp : placeP t x.f4 with
        | false =>
         as_aux_lemma =>
          go_wp2_with (go_at_call 57; refine (HPlace.out _).mono ?_; rintro e w5 ⟨rfl, ⟨⟨n5, rfl⟩⟩⟩)
          go_ret
          exact ⟨by rw [hone3.out, hp]; rfl, (HX.out.drewN _).below⟩
        | true =>
         obtain ⟨f0, f1, f2⟩ := HForm.out _ hp
         obtain ⟨ad2, _, _, _, _, hA2, q0, _⟩ := at_T40 hCy.out x.f4 f0 f1
         obtain rfl := Option.some.inj hA2
         clear hA2
         have F2 := Aside0.mk f2
         clear f2
         generalize (rd_T40 t x.f4).f0 = fo at q0 F2
         by_cases h9 : fo = 9
         ·
          subst h9
          as_aux_lemma =>
           go_wp2_with (go_at_call 57; refine (HPlace.out _).mono ?_; rintro e w5 ⟨rfl, ⟨⟨n5, rfl⟩⟩⟩)
           go_ret
           exact ⟨by rw [hone3.out, hp, F2.out]; rfl, (HX.out.drewN _).below⟩
         ·
          have h9b : (fo == 9) = false := by simpa using h9
          as_aux_lemma =>
           go_wp2_with (go_at_call 57; refine (HPlace.out _).mono ?_; rintro e w5 ⟨rfl, ⟨⟨n5, rfl⟩⟩⟩)
           go_ret
           exact ⟨by rw [hone3.out, hp, F2.out]; simp [h9], (HX.out.drewN _).below⟩
       by_cases e9 : x.f0 = 9
       ·
        obtain ⟨b0, b1, b2, b3, b4, b5, b6, b7, b8, b9, blt, bb⟩ := HX.out
        replace b0 := (b0.trans (by rw [e9]) : wc.cell? ⟨w.heap.size, 0, none⟩ = some (.int .i64 9))
        have hone3 : Aside0 (oneP t a = recordP t a) := ⟨by rw [hone2.out]; unfold caseP; rw [if_neg e7, if_neg e8, if_neg e10, if_pos e9]⟩
        clear e7 e8 e10 e9 b1 b2 b3 b4 b5 b6 b7 b8 b9
        as_aux_lemma =>
         go_wp2_with (go_at_call 58; refine (record_calls hCy.out hc hz a h0 h1).mono ?_; rintro e w4 ⟨rfl, hb4⟩)
         go_ret
         exact ⟨by rw [hone3.out]; rfl, bb.trans (hb4.mono bb.size)⟩
       by_cases e11 : x.f0 = 11
       ·
        obtain ⟨b0, b1, b2, b3, b4, b5, b6, b7, b8, b9, blt, bb⟩ := HX.out
        replace b0 := (b0.trans (by rw [e11]) : wc.cell? ⟨w.heap.size, 0, none⟩ = some (.int .i64 11))
        have hone3 : Aside0 (oneP t a = (parsP t x.f7 && decide (x.f7.length ≤ 64) && resP t x.f8)) := ⟨by rw [hone2.out]; unfold caseP; rw [if_neg e7, if_neg e8, if_neg e10, if_neg e9, if_pos e11]⟩
        clear e7 e8 e10 e9 e11 b1 b2 b3 b4 b5 b6 b9
        go_wp2
        clear b0 b7 b8 blt bb
        go_loopw [6] (fun i wr => ∃ i0 : Nat, i0 ≤ x.f7.length ∧ i = .int .i64 i0 ∧ Aside0 (parsP t (x.f7.take i0) = true) ∧ Aside0 (Box w wr x A6 c6 A7 c7)) (fun i _ => x.f7.length - (intOf i).toNat)
        case atStart => exact ⟨0, Nat.zero_le _, rfl, ⟨by simp [parsP]⟩, HX⟩
        case round =>
         clear HX hCy HHolds HPlace
         obtain ⟨wo, rfl⟩ : ∃ wo : World, wo = wr := ⟨_, rfl⟩
         obtain ⟨i0, hi0, rfl, hS, HX⟩ := hrel
         have b7 := HX.out.b7
         have b8 := HX.out.b8
         have hCy := Aside0.mk (Kd.C_below hCx.out HX.out.below)
         have HHolds := Aside0.mk fun i => holds_calls hCy.out hc i
         by_cases hlt : i0 < x.f7.length
         ·
          have hx : decide ((i0 : Int) < (x.f7.length : Int)) = true := decide_eq_true (by omega)
          have hin := size_in hlt
          obtain ⟨fd, hfA, r0, r1⟩ := at_T47 (Kd.C_below hC7.out HX.out.below) (i0 : Int) (by omega) (by omega)
          obtain rfl := hfA
          have hk00 : ((i0 : Nat) : Int).toNat = i0 := by omega
          have hrd : rd_T47 x.f7 (i0 : Int) = x.f7[i0] := by unfold rd_T47; simp [List.getD_eq_getElem?_getD, List.getElem?_eq_getElem hlt]
          rw [hk00, hrd] at r0 r1
          have htk : x.f7.take (i0 + 1) = x.f7.take i0 ++ [x.f7[i0]] := by rw [List.take_add_one, List.getElem?_eq_getElem hlt]; rfl
          have hstep : Aside0 (parsP t (x.f7.take (i0 + 1)) = parP t (x.f7[i0]).f1) := ⟨by
           rw [htk]
           unfold parsP
           rw [List.all_append]
           have := hS.out
           unfold parsP at this
           rw [this]
           simp⟩
          have hno : Aside0 (parP t (x.f7[i0]).f1 = false → parsP t x.f7 = false) := ⟨fun h => by
           unfold parsP
           rw [List.all_eq_false]
           exact ⟨_, List.getElem_mem hlt, by simp [h]⟩⟩
          clear htk hrd hk00 r0
          generalize (x.f7[i0]).f1 = p at r1 hstep hno
          cases hh : holdsP t p with
          | true =>
           go_wp2_with (go_at_call 56; refine (HHolds.out _).mono ?_; rintro e w4 ⟨rfl, ⟨⟨n4, rfl⟩⟩⟩)
           go_roundw
           case rel => exact ⟨i0 + 1, by omega, by go_num, ⟨by rw [hstep.out]; simp [parP, hh]⟩, ⟨HX.out.drewN _⟩⟩
           case measure => simp [intOf]; omega
          | false =>
           cases hp : placeP t p with
           | false =>
            go_wp2_with (first | (go_at_call 56; refine (HHolds.out _).mono ?_; rintro e w4 ⟨rfl, ⟨⟨n4, rfl⟩⟩⟩) | (go_at_call 57; refine (place_calls (Kd.C_below hCx.out (HX.out.drewN _).below) hc _).mono ?_; rintro e w5 ⟨rfl, ⟨⟨n5, rfl⟩⟩⟩))
            go_ret
            exact ⟨by rw [hone3.out, hno.out (by simp [parP, hh, hp])]; rfl, (HX.out.drewN _).below⟩
           | true =>
            obtain ⟨f0, f1, f2⟩ := HForm.out _ hp
            obtain ⟨ad2, _, _, _, _, hA2, q0, _⟩ := at_T40 hCy.out p f0 f1
            obtain rfl := Option.some.inj hA2
            clear hA2
            have F2 := Aside0.mk f2
            clear f2
            generalize (rd_T40 t p).f0 = fo at q0 F2
            by_cases h8 : fo = 8
            ·
             subst h8
             go_wp2_with (first | (go_at_call 56; refine (HHolds.out _).mono ?_; rintro e w4 ⟨rfl, ⟨⟨n4, rfl⟩⟩⟩) | (go_at_call 57; refine (place_calls (Kd.C_below hCx.out (HX.out.drewN _).below) hc _).mono ?_; rintro e w5 ⟨rfl, ⟨⟨n5, rfl⟩⟩⟩))
             go_roundw
             case rel => exact ⟨i0 + 1, by omega, by go_num, ⟨by rw [hstep.out]; simp [parP, hp, F2.out]⟩, ⟨HX.out.drewN _⟩⟩
             case measure => simp [intOf]; omega
            ·
             have h8b : (fo != 8) = true := by simpa using h8
             go_wp2_with (first | (go_at_call 56; refine (HHolds.out _).mono ?_; rintro e w4 ⟨rfl, ⟨⟨n4, rfl⟩⟩⟩) | (go_at_call 57; refine (place_calls (Kd.C_below hCx.out (HX.out.drewN _).below) hc _).mono ?_; rintro e w5 ⟨rfl, ⟨⟨n5, rfl⟩⟩⟩))
             go_ret
             exact ⟨by rw [hone3.out, hno.out (by simp [parP, hh, F2.out, h8])]; rfl, (HX.out.drewN _).below⟩
         ·
          have hx : decide ((i0 : Int) < (x.f7.length : Int)) = false := decide_eq_false (by omega)
          have hS2 : Aside0 (parsP t x.f7 = true) := ⟨by have := hS.out; rwa [List.take_of_length_le (by omega)] at this⟩
          clear hS
          by_cases g64 : x.f7.length ≤ 64
          ·
           have g64b : decide ((x.f7.length : Int) ≤ 64) = true := decide_eq_true (by omega)
           by_cases g8 : x.f8 = 0
           ·
            have g8b : (x.f8 == 0) = true := by simpa using g8
            replace g8 := Aside0.mk g8
            go_wp2
            go_ret
            exact ⟨by rw [hone3.out, hS2.out]; simp [g64, resP, g8.out], HX.out.below⟩
           ·
            have g8b : (x.f8 == 0) = false := by simpa using g8
            cases hh : holdsP t x.f8 with
            | false =>
             go_wp2_with (go_at_call 56; refine (HHolds.out _).mono ?_; rintro e w4 ⟨rfl, ⟨⟨n4, rfl⟩⟩⟩)
             go_ret
             exact ⟨by rw [hone3.out, hS2.out]; simp [resP, g8, hh], (HX.out.drewN _).below⟩
            | true =>
             have hp : placeP t x.f8 = true := by
              unfold holdsP at hh
              cases h : placeP t x.f8 with
              | true => rfl
              | false => rw [h] at hh; simp at hh
             obtain ⟨f0, f1, f2⟩ := HForm.out _ hp
             obtain ⟨ad2, _, _, _, _, hA2, q0, _⟩ := at_T40 hCy.out x.f8 f0 f1
             obtain rfl := Option.some.inj hA2
             clear hA2
             have F2 := Aside0.mk f2
             clear f2
             generalize (rd_T40 t x.f8).f0 = fo at q0 F2
             by_cases h7 : fo = 7
             ·
              subst h7
              go_wp2_with (go_at_call 56; refine (HHolds.out _).mono ?_; rintro e w4 ⟨rfl, ⟨⟨n4, rfl⟩⟩⟩)
              go_ret
              exact ⟨by rw [hone3.out, hS2.out]; simp [resP, g8, F2.out], (HX.out.drewN _).below⟩
             ·
              have h7b : (fo != 7) = true := by simpa using h7
              by_cases h9 : fo = 9
              ·
               subst h9
               go_wp2_with (go_at_call 56; refine (HHolds.out _).mono ?_; rintro e w4 ⟨rfl, ⟨⟨n4, rfl⟩⟩⟩)
               go_ret
               exact ⟨by rw [hone3.out, hS2.out]; simp [resP, g8, F2.out], (HX.out.drewN _).below⟩
              ·
               have h9b : (fo != 9) = true := by simpa using h9
               go_wp2_with (go_at_call 56; refine (HHolds.out _).mono ?_; rintro e w4 ⟨rfl, ⟨⟨n4, rfl⟩⟩⟩)
               go_ret
               exact ⟨by rw [hone3.out, hS2.out]; simp [g64, resP, g8, hh, F2.out, h7, h9], (HX.out.drewN _).below⟩
          ·
           have g64b : decide ((x.f7.length : Int) ≤ 64) = false := decide_eq_false (by omega)
           go_wp2
           go_ret
           exact ⟨by rw [hone3.out]; simp [g64], HX.out.below⟩
       obtain ⟨b0, b1, b2, b3, b4, b5, b6, b7, b8, b9, blt, bb⟩ := HX.out
       have hone3 : Aside0 (oneP t a = false) := ⟨by rw [hone2.out]; unfold caseP; rw [if_neg e7, if_neg e8, if_neg e10, if_neg e9, if_neg e11]⟩
       have g7 : (x.f0 == 7) = false := by simpa using e7
       have g8 : (x.f0 == 8) = false := by simpa using e8
       have g9 : (x.f0 == 9) = false := by simpa using e9
       have g10 : (x.f0 == 10) = false := by simpa using e10
       have g11 : (x.f0 == 11) = false := by simpa using e11
       clear e7 e8 e9 e10 e11
       as_aux_lemma =>
        go_wp2
        go_ret
        exact ⟨by rw [hone3.out]; rfl, bb⟩
end Go.Proofs.Ytgnbemgeiloegaa.Tg
