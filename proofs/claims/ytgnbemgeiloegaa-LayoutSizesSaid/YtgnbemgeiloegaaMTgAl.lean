import Derived.Test.YtgnbemgeiloegaaMTgM
import Derived.Deep.QuietTactic
import Derived.BigQuiet
namespace Go.Proofs.Ytgnbemgeiloegaa.Tg
open Go.RowKit
open Go.Proofs.YtgnbemgeiloegaaW.PrintWords Go.Proofs.YtgnbemgeiloegaaW.PrintLast Go.Proofs.YtgnbemgeiloegaaW.PrintMore
set_option linter.unusedVariables false
set_option linter.unusedSimpArgs false
open Go.Proofs.Ytgnbemgeiloegaa.PTypesGoods (S40 S42 S47 k40 k42 k47 rd_T40 rd_T42 rd_T47 at_T40 at_T42 at_T47)
open Classical
theorem bytes_eq {a b : ByteArray} (h : a.toList = b.toList) : a = b := by
 rw [ByteArray.toList_eq, ByteArray.toList_eq] at h
 cases a with | mk a =>
 cases b with | mk b =>
 congr 1
 exact Array.toList_inj.1 h
theorem take_ext {α : Type} {xs ys : List α} (k : Nat) (hx : k < xs.length) (hy : k < ys.length) (h : xs.take k = ys.take k) (e : xs[k] = ys[k]) : xs.take (k + 1) = ys.take (k + 1) := by
 rw [List.take_add_one, List.take_add_one, h, List.getElem?_eq_getElem hx, List.getElem?_eq_getElem hy, e]
theorem take_all {α : Type} {xs ys : List α} (k : Nat) (hx : xs.length ≤ k) (hl : xs.length = ys.length) (h : xs.take k = ys.take k) : xs = ys := by
 rwa [List.take_of_length_le hx, List.take_of_length_le (by omega)] at h
theorem at_ne {α : Type} {xs ys : List α} (k : Nat) (hx : k < xs.length) (hy : k < ys.length) (e : xs[k] ≠ ys[k]) : xs ≠ ys := fun h => e (by subst h; rfl)
theorem rd42 {xs : List S42} (k : Nat) (h : k < xs.length) : rd_T42 xs (k : Int) = xs[k] := by unfold rd_T42; simp [List.getD_eq_getElem?_getD, List.getElem?_eq_getElem h]
theorem rd47 {xs : List S47} (k : Nat) (h : k < xs.length) : rd_T47 xs (k : Int) = xs[k] := by unfold rd_T47; simp [List.getD_eq_getElem?_getD, List.getElem?_eq_getElem h]
set_option maxHeartbeats 16000000 in
set_option maxRecDepth 100000 in
theorem alike_calls {w : World} (x y : S40) {A6 A7 B6 B7 : Option Addr} {c6 c7 d6 d7 : Nat} (hx : x.f7.length ≤ 4000) (hx6 : x.f6.length ≤ 4000)
 (C6 : Kd.C k42 w A6 x.f6.length x.f6) (l6 : x.f6.length ≤ c6) (C7 : Kd.C k47 w A7 x.f7.length x.f7) (l7 : x.f7.length ≤ c7)
 (D6 : Kd.C k42 w B6 y.f6.length y.f6) (m6 : y.f6.length ≤ d6) (D7 : Kd.C k47 w B7 y.f7.length y.f7) (m7 : y.f7.length ≤ d7) :
 Calls Try.prog 37 #[.agg #[.int .i64 x.f0, .string x.f1, .string x.f2, .int .i64 x.f3, .int .i64 x.f4, .int .i64 x.f5, .slice A6 x.f6.length c6, .slice A7 x.f7.length c7, .int .i64 x.f8, .int .i64 x.f9], .agg #[.int .i64 y.f0, .string y.f1, .string y.f2, .int .i64 y.f3, .int .i64 y.f4, .int .i64 y.f5, .slice B6 y.f6.length d6, .slice B7 y.f7.length d7, .int .i64 y.f8, .int .i64 y.f9]] w fun e w' => e = .returned (.bool (decide (x = y))) ∧ Below w.heap.size w w' := by
 obtain ⟨wb, hwb⟩ : ∃ wb, wb = (w.alloc (.cells #[.int .i64 x.f0, .string x.f1, .string x.f2, .int .i64 x.f3, .int .i64 x.f4, .int .i64 x.f5, .slice A6 x.f6.length c6, .slice A7 x.f7.length c7, .int .i64 x.f8, .int .i64 x.f9] 40)).alloc (.cells #[.int .i64 y.f0, .string y.f1, .string y.f2, .int .i64 y.f3, .int .i64 y.f4, .int .i64 y.f5, .slice B6 y.f6.length d6, .slice B7 y.f7.length d7, .int .i64 y.f8, .int .i64 y.f9] 40) := ⟨_, rfl⟩
 have HB : Aside0 (Below w.heap.size w wb) := ⟨by rw [hwb]; exact below_alloc (below_alloc (Below.refl _ _) _) _⟩
 have HX : wb.heap[w.heap.size]? = some (.cells #[.int .i64 x.f0, .string x.f1, .string x.f2, .int .i64 x.f3, .int .i64 x.f4, .int .i64 x.f5, .slice A6 x.f6.length c6, .slice A7 x.f7.length c7, .int .i64 x.f8, .int .i64 x.f9] 40 (0, 0)) := by
  rw [hwb, Below.heap_alloc _ _ _ (by simp)]
  exact heap_alloc_new _ _
 have HY : wb.heap[w.heap.size + 1]? = some (.cells #[.int .i64 y.f0, .string y.f1, .string y.f2, .int .i64 y.f3, .int .i64 y.f4, .int .i64 y.f5, .slice B6 y.f6.length d6, .slice B7 y.f7.length d7, .int .i64 y.f8, .int .i64 y.f9] 40 (0, 0)) := by
  rw [hwb]
  have := heap_alloc_new (w.alloc (.cells #[.int .i64 x.f0, .string x.f1, .string x.f2, .int .i64 x.f3, .int .i64 x.f4, .int .i64 x.f5, .slice A6 x.f6.length c6, .slice A7 x.f7.length c7, .int .i64 x.f8, .int .i64 x.f9] 40)) (.cells #[.int .i64 y.f0, .string y.f1, .string y.f2, .int .i64 y.f3, .int .i64 y.f4, .int .i64 y.f5, .slice B6 y.f6.length d6, .slice B7 y.f7.length d7, .int .i64 y.f8, .int .i64 y.f9] 40)
  rwa [World.size_alloc] at this
 have HC6 := Aside0.mk (Kd.C_below C6 HB.out)
 have HC7 := Aside0.mk (Kd.C_below C7 HB.out)
 have HD6 := Aside0.mk (Kd.C_below D6 HB.out)
 have HD7 := Aside0.mk (Kd.C_below D7 HB.out)
 have KX : Aside0 (∀ W, Below wb.heap.size wb W → W.cell? ⟨w.heap.size, 6, none⟩ = some (.slice A6 x.f6.length c6) ∧ W.cell? ⟨w.heap.size, 7, none⟩ = some (.slice A7 x.f7.length c7) ∧ W.cell? ⟨w.heap.size + 1, 6, none⟩ = some (.slice B6 y.f6.length d6) ∧ W.cell? ⟨w.heap.size + 1, 7, none⟩ = some (.slice B7 y.f7.length d7)) := ⟨fun W h => by
  have e := (h.block _ (blk_lt HX)).trans HX
  have f := (h.block _ (blk_lt HY)).trans HY
  exact ⟨by rw [cell_of_row W _ _ _ _ _ e]; rfl, by rw [cell_of_row W _ _ _ _ _ e]; rfl, by rw [cell_of_row W _ _ _ _ _ f]; rfl, by rw [cell_of_row W _ _ _ _ _ f]; rfl⟩⟩
 clear C6 C7 D6 D7 l6 l7 m6 m7
 have x0 : wb.cell? ⟨w.heap.size, 0, none⟩ = some (.int .i64 x.f0) := by rw [cell_of_row wb _ _ _ _ _ HX]; rfl
 have y0 : wb.cell? ⟨w.heap.size + 1, 0, none⟩ = some (.int .i64 y.f0) := by rw [cell_of_row wb _ _ _ _ _ HY]; rfl
 have x1 : wb.cell? ⟨w.heap.size, 1, none⟩ = some (.string x.f1) := by rw [cell_of_row wb _ _ _ _ _ HX]; rfl
 have y1 : wb.cell? ⟨w.heap.size + 1, 1, none⟩ = some (.string y.f1) := by rw [cell_of_row wb _ _ _ _ _ HY]; rfl
 have x2 : wb.cell? ⟨w.heap.size, 2, none⟩ = some (.string x.f2) := by rw [cell_of_row wb _ _ _ _ _ HX]; rfl
 have y2 : wb.cell? ⟨w.heap.size + 1, 2, none⟩ = some (.string y.f2) := by rw [cell_of_row wb _ _ _ _ _ HY]; rfl
 have x3 : wb.cell? ⟨w.heap.size, 3, none⟩ = some (.int .i64 x.f3) := by rw [cell_of_row wb _ _ _ _ _ HX]; rfl
 have y3 : wb.cell? ⟨w.heap.size + 1, 3, none⟩ = some (.int .i64 y.f3) := by rw [cell_of_row wb _ _ _ _ _ HY]; rfl
 have x4 : wb.cell? ⟨w.heap.size, 4, none⟩ = some (.int .i64 x.f4) := by rw [cell_of_row wb _ _ _ _ _ HX]; rfl
 have y4 : wb.cell? ⟨w.heap.size + 1, 4, none⟩ = some (.int .i64 y.f4) := by rw [cell_of_row wb _ _ _ _ _ HY]; rfl
 have x5 : wb.cell? ⟨w.heap.size, 5, none⟩ = some (.int .i64 x.f5) := by rw [cell_of_row wb _ _ _ _ _ HX]; rfl
 have y5 : wb.cell? ⟨w.heap.size + 1, 5, none⟩ = some (.int .i64 y.f5) := by rw [cell_of_row wb _ _ _ _ _ HY]; rfl
 have x8 : wb.cell? ⟨w.heap.size, 8, none⟩ = some (.int .i64 x.f8) := by rw [cell_of_row wb _ _ _ _ _ HX]; rfl
 have y8 : wb.cell? ⟨w.heap.size + 1, 8, none⟩ = some (.int .i64 y.f8) := by rw [cell_of_row wb _ _ _ _ _ HY]; rfl
 have x9 : wb.cell? ⟨w.heap.size, 9, none⟩ = some (.int .i64 x.f9) := by rw [cell_of_row wb _ _ _ _ _ HX]; rfl
 have y9 : wb.cell? ⟨w.heap.size + 1, 9, none⟩ = some (.int .i64 y.f9) := by rw [cell_of_row wb _ _ _ _ _ HY]; rfl
 obtain ⟨x6, x7, y6, y7⟩ := KX.out wb (Below.refl _ _)
 clear HX HY
 go_enter Try.func37, Try.ntmps37
 go_upto_region 1 with fail
 rw [← hwb]
 clear hwb
 by_cases e0 : x.f0 = y.f0
 rotate_left
 ·
  have b0 : (x.f0 != y.f0) = true := by simpa using e0
  have R : Aside0 (decide (x = y) = false) := ⟨decide_eq_false (fun h => e0 (by rw [h]))⟩
  replace e0 := Aside0.mk e0
  clear x6 x7 y6 y7
  as_aux_lemma =>
   go_wp2
   go_ret
   exact ⟨by rw [R.out]; rfl, by first | exact HB.out | exact pw_below_drewN HB.out _⟩
 have b0 : (x.f0 != y.f0) = false := by simpa using e0
 replace e0 := Aside0.mk e0
 by_cases e1 : x.f1.toList = y.f1.toList
 rotate_left
 ·
  have b1 : (x.f1.toList == y.f1.toList) = false := by simpa using e1
  have R : Aside0 (decide (x = y) = false) := ⟨decide_eq_false (fun h => e1 (by rw [h]))⟩
  replace e1 := Aside0.mk e1
  clear x6 x7 y6 y7
  as_aux_lemma =>
   go_wp2
   go_ret
   exact ⟨by rw [R.out]; rfl, by first | exact HB.out | exact pw_below_drewN HB.out _⟩
 have b1 : (x.f1.toList == y.f1.toList) = true := by simpa using e1
 replace e1 := Aside0.mk e1
 by_cases e2 : x.f2.toList = y.f2.toList
 rotate_left
 ·
  have b2 : (x.f2.toList == y.f2.toList) = false := by simpa using e2
  have R : Aside0 (decide (x = y) = false) := ⟨decide_eq_false (fun h => e2 (by rw [h]))⟩
  replace e2 := Aside0.mk e2
  clear x6 x7 y6 y7
  as_aux_lemma =>
   go_wp2
   go_ret
   exact ⟨by rw [R.out]; rfl, by first | exact HB.out | exact pw_below_drewN HB.out _⟩
 have b2 : (x.f2.toList == y.f2.toList) = true := by simpa using e2
 replace e2 := Aside0.mk e2
 by_cases e3 : x.f3 = y.f3
 rotate_left
 ·
  have b3 : (x.f3 != y.f3) = true := by simpa using e3
  have R : Aside0 (decide (x = y) = false) := ⟨decide_eq_false (fun h => e3 (by rw [h]))⟩
  replace e3 := Aside0.mk e3
  clear x6 x7 y6 y7
  as_aux_lemma =>
   go_wp2
   go_ret
   exact ⟨by rw [R.out]; rfl, by first | exact HB.out | exact pw_below_drewN HB.out _⟩
 have b3 : (x.f3 != y.f3) = false := by simpa using e3
 replace e3 := Aside0.mk e3
 by_cases e4 : x.f4 = y.f4
 rotate_left
 ·
  have b4 : (x.f4 != y.f4) = true := by simpa using e4
  have R : Aside0 (decide (x = y) = false) := ⟨decide_eq_false (fun h => e4 (by rw [h]))⟩
  replace e4 := Aside0.mk e4
  clear x6 x7 y6 y7
  as_aux_lemma =>
   go_wp2
   go_ret
   exact ⟨by rw [R.out]; rfl, by first | exact HB.out | exact pw_below_drewN HB.out _⟩
 have b4 : (x.f4 != y.f4) = false := by simpa using e4
 replace e4 := Aside0.mk e4
 by_cases e5 : x.f5 = y.f5
 rotate_left
 ·
  have b5 : (x.f5 != y.f5) = true := by simpa using e5
  have R : Aside0 (decide (x = y) = false) := ⟨decide_eq_false (fun h => e5 (by rw [h]))⟩
  replace e5 := Aside0.mk e5
  clear x6 x7 y6 y7
  as_aux_lemma =>
   go_wp2
   go_ret
   exact ⟨by rw [R.out]; rfl, by first | exact HB.out | exact pw_below_drewN HB.out _⟩
 have b5 : (x.f5 != y.f5) = false := by simpa using e5
 replace e5 := Aside0.mk e5
 by_cases e8 : x.f8 = y.f8
 rotate_left
 ·
  have b8 : (x.f8 != y.f8) = true := by simpa using e8
  have R : Aside0 (decide (x = y) = false) := ⟨decide_eq_false (fun h => e8 (by rw [h]))⟩
  replace e8 := Aside0.mk e8
  clear x6 x7 y6 y7
  as_aux_lemma =>
   go_wp2
   go_ret
   exact ⟨by rw [R.out]; rfl, by first | exact HB.out | exact pw_below_drewN HB.out _⟩
 have b8 : (x.f8 != y.f8) = false := by simpa using e8
 replace e8 := Aside0.mk e8
 by_cases e9 : x.f9 = y.f9
 rotate_left
 ·
  have b9 : (x.f9 != y.f9) = true := by simpa using e9
  have R : Aside0 (decide (x = y) = false) := ⟨decide_eq_false (fun h => e9 (by rw [h]))⟩
  replace e9 := Aside0.mk e9
  clear x6 x7 y6 y7
  as_aux_lemma =>
   go_wp2
   go_ret
   exact ⟨by rw [R.out]; rfl, by first | exact HB.out | exact pw_below_drewN HB.out _⟩
 have b9 : (x.f9 != y.f9) = false := by simpa using e9
 replace e9 := Aside0.mk e9
 by_cases e6 : x.f6.length = y.f6.length
 rotate_left
 ·
  have b6 : ((x.f6.length : Int) != (y.f6.length : Int)) = true := by simp; omega
  have R : Aside0 (decide (x = y) = false) := ⟨decide_eq_false (fun h => e6 (by rw [h]))⟩
  replace e6 := Aside0.mk e6
  as_aux_lemma =>
   go_wp2
   go_ret
   exact ⟨by rw [R.out]; rfl, by first | exact HB.out | exact pw_below_drewN HB.out _⟩
 have b6 : ((x.f6.length : Int) != (y.f6.length : Int)) = false := by simp; omega
 replace e6 := Aside0.mk e6
 by_cases e7 : x.f7.length = y.f7.length
 rotate_left
 ·
  have b7 : ((x.f7.length : Int) != (y.f7.length : Int)) = true := by simp; omega
  have R : Aside0 (decide (x = y) = false) := ⟨decide_eq_false (fun h => e7 (by rw [h]))⟩
  replace e7 := Aside0.mk e7
  as_aux_lemma =>
   go_wp2
   go_ret
   exact ⟨by rw [R.out]; rfl, by first | exact HB.out | exact pw_below_drewN HB.out _⟩
 have b7 : ((x.f7.length : Int) != (y.f7.length : Int)) = false := by simp; omega
 replace e7 := Aside0.mk e7
 go_wp2
 clear b0 b1 b2 b3 b4 b5 b8 b9 b6 b7 x0 x1 x2 x3 x4 x5 x8 x9 y0 y1 y2 y3 y4 y5 y8 y9
 clear x6 x7 y6 y7
 go_loopw [5] (fun i wr => ∃ k : Nat, k ≤ x.f6.length ∧ i = .int .i64 k ∧ Aside0 (x.f6.take k = y.f6.take k) ∧ Aside0 (Below wb.heap.size wb wr)) (fun i _ => x.f6.length - (intOf i).toNat)
 case atStart => exact ⟨0, by omega, rfl, ⟨rfl⟩, ⟨Below.refl _ _⟩⟩
 case round =>
  obtain ⟨k, hk, rfl, hT, HR⟩ := hrel
  obtain ⟨x6, x7, y6, y7⟩ := KX.out _ HR.out
  by_cases hlt : k < x.f6.length
  ·
   have hx : decide ((k : Int) < (x.f6.length : Int)) = true := decide_eq_true (by omega)
   have hlt2 : k < y.f6.length := by have := e6.out; omega
   have hk0 : 0 ≤ (k : Int) := by omega
   have hk1 : (k : Int) < (x.f6.length : Int) := by omega
   have hk2 : (k : Int) < (y.f6.length : Int) := by omega
   obtain ⟨ad, rfl, p0, p1, p2⟩ := at_T42 (Kd.C_below HC6.out HR.out) (k : Int) hk0 hk1
   obtain ⟨ae, rfl, q0, q1, q2⟩ := at_T42 (Kd.C_below HD6.out HR.out) (k : Int) hk0 hk2
   rw [Int.toNat_natCast, rd42 k hlt] at p0 p1 p2
   rw [Int.toNat_natCast, rd42 k hlt2] at q0 q1 q2
   have hyes := Aside0.mk (take_ext k hlt hlt2 hT.out)
   have hno := Aside0.mk (fun e => (at_ne k hlt hlt2 e : x.f6 ≠ y.f6))
   generalize x.f6[k] = f at p0 p1 p2 hyes hno
   generalize y.f6[k] = g at q0 q1 q2 hyes hno
   by_cases a0 : f.f0.toList = g.f0.toList
   ·
    have c0 : (f.f0.toList == g.f0.toList) = true := by simpa using a0
    replace a0 := Aside0.mk a0
    by_cases a1 : f.f1 = g.f1
    ·
     have c1 : (f.f1 == g.f1) = true := by simpa using a1
     replace a1 := Aside0.mk a1
     by_cases a2 : f.f2 = g.f2
     ·
      have c2 : (f.f2 != g.f2) = false := by simpa using a2
      replace a2 := Aside0.mk a2
      have hT2 := Aside0.mk (hyes.out (by cases f; cases g; simp only at *; rw [bytes_eq a0.out, a1.out, a2.out]))
      clear hyes hno
      as_aux_lemma =>
       go_wp2
       go_quiet (fail)
       all_goals
        go_wp2
        go_roundw
        case rel => exact ⟨k + 1, by omega, by go_num, hT2, ⟨by first | exact HR.out | exact pw_below_drewN HR.out _ | exact below_drew HR.out⟩⟩
        case measure => simp [intOf]; omega
     ·
      have c2 : (f.f2 != g.f2) = true := by simpa using a2
      have R : Aside0 (decide (x = y) = false) := ⟨decide_eq_false fun h => hno.out (fun e => a2 (by rw [e])) (by rw [h])⟩
      replace a2 := Aside0.mk a2
      clear hyes hno
      as_aux_lemma =>
       go_wp2
       go_quiet (fail)
       all_goals
        go_wp2
        go_ret
        exact ⟨by rw [R.out]; rfl, HB.out.trans (Below.mono (by first | exact HR.out | exact pw_below_drewN HR.out _ | exact below_drew HR.out) HB.out.size)⟩
    ·
     have c1 : (f.f1 == g.f1) = false := by simpa using a1
     have R : Aside0 (decide (x = y) = false) := ⟨decide_eq_false fun h => hno.out (fun e => a1 (by rw [e])) (by rw [h])⟩
     replace a1 := Aside0.mk a1
     clear hyes hno
     as_aux_lemma =>
      go_wp2
      go_quiet (fail)
      all_goals
       go_wp2
       go_ret
       exact ⟨by rw [R.out]; rfl, HB.out.trans (Below.mono (by first | exact HR.out | exact pw_below_drewN HR.out _ | exact below_drew HR.out) HB.out.size)⟩
   ·
    have c0 : (f.f0.toList == g.f0.toList) = false := by simpa using a0
    have R : Aside0 (decide (x = y) = false) := ⟨decide_eq_false fun h => hno.out (fun e => a0 (by rw [e])) (by rw [h])⟩
    replace a0 := Aside0.mk a0
    clear hyes hno
    as_aux_lemma =>
     go_wp2
     go_quiet (fail)
     all_goals
      go_wp2
      go_ret
      exact ⟨by rw [R.out]; rfl, HB.out.trans (Below.mono (by first | exact HR.out | exact pw_below_drewN HR.out _ | exact below_drew HR.out) HB.out.size)⟩
  ·
   have hx : decide ((k : Int) < (x.f6.length : Int)) = false := decide_eq_false (by omega)
   have E6 := Aside0.mk (take_all k (by omega) e6.out hT.out)
   clear hT
   go_wp2
   clear x6 x7 y6 y7 hx hlt hk
   go_loopw [6] (fun i wr => ∃ k : Nat, k ≤ x.f7.length ∧ i = .int .i64 k ∧ Aside0 (x.f7.take k = y.f7.take k) ∧ Aside0 (Below wb.heap.size wb wr)) (fun i _ => x.f7.length - (intOf i).toNat)
   case atStart => exact ⟨0, by omega, rfl, ⟨rfl⟩, ⟨by first | exact HR.out | exact pw_below_drewN HR.out _⟩⟩
   case round =>
    clear HR
    obtain ⟨k, hk, rfl, hT, HR⟩ := hrel
    obtain ⟨x6, x7, y6, y7⟩ := KX.out _ HR.out
    by_cases hlt : k < x.f7.length
    ·
     have hx : decide ((k : Int) < (x.f7.length : Int)) = true := decide_eq_true (by omega)
     have hlt2 : k < y.f7.length := by have := e7.out; omega
     have hk0 : 0 ≤ (k : Int) := by omega
     have hk1 : (k : Int) < (x.f7.length : Int) := by omega
     have hk2 : (k : Int) < (y.f7.length : Int) := by omega
     obtain ⟨ad, rfl, p0, p1⟩ := at_T47 (Kd.C_below HC7.out HR.out) (k : Int) hk0 hk1
     obtain ⟨ae, rfl, q0, q1⟩ := at_T47 (Kd.C_below HD7.out HR.out) (k : Int) hk0 hk2
     rw [Int.toNat_natCast, rd47 k hlt] at p0 p1
     rw [Int.toNat_natCast, rd47 k hlt2] at q0 q1
     have hyes := Aside0.mk (take_ext k hlt hlt2 hT.out)
     have hno := Aside0.mk (fun e => (at_ne k hlt hlt2 e : x.f7 ≠ y.f7))
     generalize x.f7[k] = f at p0 p1 hyes hno
     generalize y.f7[k] = g at q0 q1 hyes hno
     by_cases a1 : f.f0 = g.f0
     ·
      have c1 : (f.f0 == g.f0) = true := by simpa using a1
      replace a1 := Aside0.mk a1
      by_cases a2 : f.f1 = g.f1
      ·
       have c2 : (f.f1 != g.f1) = false := by simpa using a2
       replace a2 := Aside0.mk a2
       have hT2 := Aside0.mk (hyes.out (by cases f; cases g; simp only at *; rw [a1.out, a2.out]))
       clear hyes hno
       as_aux_lemma =>
        go_wp2
        go_quiet (fail)
        all_goals
         go_wp2
         go_roundw
         case rel => exact ⟨k + 1, by omega, by go_num, hT2, ⟨by first | exact HR.out | exact pw_below_drewN HR.out _ | exact below_drew HR.out⟩⟩
         case measure => simp [intOf]; omega
      ·
       have c2 : (f.f1 != g.f1) = true := by simpa using a2
       have R : Aside0 (decide (x = y) = false) := ⟨decide_eq_false fun h => hno.out (fun e => a2 (by rw [e])) (by rw [h])⟩
       replace a2 := Aside0.mk a2
       clear hyes hno
       as_aux_lemma =>
        go_wp2
        go_quiet (fail)
        all_goals
         go_wp2
         go_ret
         exact ⟨by rw [R.out]; rfl, HB.out.trans (Below.mono (by first | exact HR.out | exact pw_below_drewN HR.out _ | exact below_drew HR.out) HB.out.size)⟩
     ·
      have c1 : (f.f0 == g.f0) = false := by simpa using a1
      have R : Aside0 (decide (x = y) = false) := ⟨decide_eq_false fun h => hno.out (fun e => a1 (by rw [e])) (by rw [h])⟩
      replace a1 := Aside0.mk a1
      clear hyes hno
      as_aux_lemma =>
       go_wp2
       go_quiet (fail)
       all_goals
        go_wp2
        go_ret
        exact ⟨by rw [R.out]; rfl, HB.out.trans (Below.mono (by first | exact HR.out | exact pw_below_drewN HR.out _ | exact below_drew HR.out) HB.out.size)⟩
    ·
     have hx : decide ((k : Int) < (x.f7.length : Int)) = false := decide_eq_false (by omega)
     have E7 := take_all k (by omega) e7.out hT.out
     have R : Aside0 (decide (x = y) = true) := ⟨decide_eq_true (by
      have g1 := bytes_eq e1.out
      have g2 := bytes_eq e2.out
      have g0 := e0.out; have g3 := e3.out; have g4 := e4.out; have g5 := e5.out; have g8 := e8.out; have g9 := e9.out; have g6 := E6.out
      clear e0 e1 e2 e3 e4 e5 e8 e9 e6 e7 E6 hT HC6 HC7 HD6 HD7 KX x6 x7 y6 y7 HB hlt hx hk
      cases x; cases y
      simp only at *
      subst g0 g1 g2 g3 g4 g5 g6 E7 g8 g9
      rfl)⟩
     clear E7 hT
     go_wp2
     go_ret
     exact ⟨by rw [R.out]; rfl, HB.out.trans (Below.mono (by first | exact HR.out | exact pw_below_drewN HR.out _ | exact below_drew HR.out) HB.out.size)⟩
 end Go.Proofs.Ytgnbemgeiloegaa.Tg
