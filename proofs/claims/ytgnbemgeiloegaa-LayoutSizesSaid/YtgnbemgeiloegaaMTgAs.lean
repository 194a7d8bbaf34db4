import Derived.Test.YtgnbemgeiloegaaMTgDb
namespace Go.Proofs.Ytgnbemgeiloegaa.Tg
open Go.RowKit Go.Maps Go.WideMaps
open Go.Proofs.YtgnbemgeiloegaaW.PrintWords Go.Proofs.YtgnbemgeiloegaaW.PrintLast Go.Proofs.YtgnbemgeiloegaaW.PrintMore
set_option linter.unusedVariables false
set_option linter.unusedSimpArgs false
open Go.Proofs.Ytgnbemgeiloegaa.PTypesGoods (S40 S42 S47 k40 k42 k47 rd_T40 rd_T42 rd_T47 at_T40 at_T42 at_T47)
def asgX (t : List S40) (a b : Int) (x y : S40) : Bool :=
 if y.f0 = 0 ∨ y.f0 = 5 ∨ y.f0 = 6 ∨ y.f0 = 8 then false
 else if (sameT t a b || extT t a b) = true then true
 else if x.f0 = 5 then decide (y.f0 = 10) || decide (y.f0 = 11)
 else if x.f0 = 6 then decide (y.f0 = 7) && decide ((rd_T40 t y.f4).f0 = 3)
 else if x.f0 = 8 then decide (y.f0 = 7) && sameT t x.f4 y.f4
 else false
def asgT (t : List S40) (a b : Int) : Bool := asgX t a b (rd_T40 t a) (rd_T40 t b)
set_option maxHeartbeats 16000000 in
set_option maxRecDepth 100000 in
theorem Assign_calls {w : World} {A : Option Addr} {c : Nat} {t : List S40} (hC : Kd.C k40 w A t.length t) (hc : t.length ≤ c) (hpm : Parms t) (hg : GoodR t) (a b : Int) (ha : InT t a) (hb : InT t b) :
 Calls Try.prog 49 #[.slice A t.length c, .int .i64 a, .int .i64 b] w fun e w' => e = .returned (.bool (asgT t a b)) ∧ Below w.heap.size w w' := by
 have HI := Aside0.mk (gd_inner hg)
 have HC := Aside0.mk hC
 have HG := Aside0.mk hg
 have HP := Aside0.mk hpm
 have HA := Aside0.mk ha
 have HBI := Aside0.mk hb
 obtain ⟨ha0, ha1⟩ := ha
 obtain ⟨hb0, hb1⟩ := hb
 obtain ⟨ad, A6, c6, A7, c7, hA, p0, p1, p2, p3, p4, p5, p6, p7, p8, p9, l6, C6, l7, C7⟩ := at_T40 hC a ha0 ha1
 subst hA
 obtain ⟨ad', B6, d6, B7, d7, hA, q0, q1, q2, q3, q4, q5, q6, q7, q8, q9, m6, D6, m7, D7⟩ := at_T40 hC b hb0 hb1
 cases hA
 have HX0 := Aside0.mk (CellsX.mk p0 p1 p2 p3 p4 p5 p6 p7 p8 p9)
 have HY0 := Aside0.mk (CellsX.mk q0 q1 q2 q3 q4 q5 q6 q7 q8 q9)
 have hE7 := Aside0.mk (fun h => (gd_arr hg ⟨hb0, hb1⟩ h).1)
 have hEA := Aside0.mk (HI.out.elem a ⟨ha0, ha1⟩)
 have hEB := Aside0.mk (HI.out.elem b ⟨hb0, hb1⟩)
 clear p0 p1 p2 p3 p4 p5 p6 p7 p8 p9 q0 q1 q2 q3 q4 q5 q6 q7 q8 q9 hC hg hpm C6 C7 D6 D7 l6 m6 l7 m7
 have hSX : Aside0 (asgT t a b = asgX t a b (rd_T40 t a) (rd_T40 t b)) := ⟨rfl⟩
 generalize rd_T40 t a = x at hSX hEA HX0
 generalize rd_T40 t b = y at hSX hEB hE7 HY0
 go_enter Try.func49, Try.ntmps49
 go_upto_region 1 with fail
 have HWd : Aside0 (Below w.heap.size w w.drew) := ⟨below_drew (Below.refl _ _)⟩
 have HT : Aside0 (HeldD (ad.add (a.toNat * 10)) (ad.add (b.toNat * 10)) x y A6 c6 A7 c7 B6 d6 B7 d7 w.drew) := ⟨HX0.out.on HWd.out, HY0.out.on HWd.out⟩
 refine start_ (n := 12) (S := HeldD (ad.add (a.toNat * 10)) (ad.add (b.toNat * 10)) x y A6 c6 A7 c7 B6 d6 B7 d7) (ds := [11]) #[false, false, false, false, false, false, false, false, false, false, false, false] (by kernel_rfl) rfl rfl (HT.out) (fun hHeld => ?_)
 generalize w.drew = wa at HWd HT hHeld ⊢
 refine pure_ (i := 0) (N := some 9) (v := ?_) (a' := ?_) #[true, false, false, false, false, false, false, false, false, false, false, false] rfl rfl (by kernel_rfl) (fun _ _ _ h => h) (Or.inl ⟨by rfl, ?_⟩) ?_ ?_
 rotate_left
 · intro w'; go_simp; try with_reducible rfl
 rotate_left
 · simp only [Act.put, List.setIfInBounds_toArray, List.set_cons_zero, List.set_cons_succ]; rfl
 refine pure_ (i := 1) (N := some 10) (v := ?_) (a' := ?_) #[true, true, false, false, false, false, false, false, false, false, false, false] rfl rfl (by kernel_rfl) (fun _ _ _ h => h) (Or.inl ⟨by rfl, ?_⟩) ?_ ?_
 rotate_left
 · intro w'; go_simp; try with_reducible rfl
 rotate_left
 · simp only [Act.put, List.setIfInBounds_toArray, List.set_cons_zero, List.set_cons_succ]; rfl
 refine take_ (i := 2) (N := some 11) (v := ?_) (a' := ?_) #[true, true, true, false, false, false, false, false, false, false, false, false] rfl rfl (by kernel_rfl) (fun _ _ _ h => h) (Or.inl ⟨by rfl, ?_⟩) hHeld ?_ ?_
 rotate_left
 · intro w' hSw; obtain ⟨⟨p0, p1, p2, p3, p4, p5, p6, p7, p8, p9⟩, ⟨q0, q1, q2, q3, q4, q5, q6, q7, q8, q9⟩⟩ := hSw; go_simp; try with_reducible rfl
 rotate_left
 · simp only [Act.put, List.setIfInBounds_toArray, List.set_cons_zero, List.set_cons_succ]; rfl
 refine take_ (i := 3) (N := some 12) (v := ?_) (a' := ?_) #[true, true, true, true, false, false, false, false, false, false, false, false] rfl rfl (by kernel_rfl) (fun _ _ _ h => h) (Or.inl ⟨by rfl, ?_⟩) hHeld ?_ ?_
 rotate_left
 · intro w' hSw; obtain ⟨⟨p0, p1, p2, p3, p4, p5, p6, p7, p8, p9⟩, ⟨q0, q1, q2, q3, q4, q5, q6, q7, q8, q9⟩⟩ := hSw; go_simp; try with_reducible rfl
 rotate_left
 · simp only [Act.put, List.setIfInBounds_toArray, List.set_cons_zero, List.set_cons_succ]; rfl
 refine pure_ (i := 4) (N := some 13) (v := ?_) (a' := ?_) #[true, true, true, true, true, false, false, false, false, false, false, false] rfl rfl (by kernel_rfl) (fun _ _ _ h => h) (Or.inl ⟨by rfl, ?_⟩) ?_ ?_
 rotate_left
 · intro w'; go_simp; try with_reducible rfl
 rotate_left
 · simp only [Act.put, List.setIfInBounds_toArray, List.set_cons_zero, List.set_cons_succ]; rfl
 refine pure_ (i := 5) (N := some 14) (v := ?_) (a' := ?_) #[true, true, true, true, true, true, false, false, false, false, false, false] rfl rfl (by kernel_rfl) (fun _ _ _ h => h) (Or.inl ⟨by rfl, ?_⟩) ?_ ?_
 rotate_left
 · intro w'; go_simp; try with_reducible rfl
 rotate_left
 · simp only [Act.put, List.setIfInBounds_toArray, List.set_cons_zero, List.set_cons_succ]; rfl
 refine take_ (i := 6) (N := some 15) (v := ?_) (a' := ?_) #[true, true, true, true, true, true, true, false, false, false, false, false] rfl rfl (by kernel_rfl) (fun _ _ _ h => h) (Or.inl ⟨by rfl, ?_⟩) hHeld ?_ ?_
 rotate_left
 · intro w' hSw; obtain ⟨⟨p0, p1, p2, p3, p4, p5, p6, p7, p8, p9⟩, ⟨q0, q1, q2, q3, q4, q5, q6, q7, q8, q9⟩⟩ := hSw; go_simp; try with_reducible rfl
 rotate_left
 · simp only [Act.put, List.setIfInBounds_toArray, List.set_cons_zero, List.set_cons_succ]; rfl
 refine take_ (i := 7) (N := some 16) (v := ?_) (a' := ?_) #[true, true, true, true, true, true, true, true, false, false, false, false] rfl rfl (by kernel_rfl) (fun _ _ _ h => h) (Or.inl ⟨by rfl, ?_⟩) hHeld ?_ ?_
 rotate_left
 · intro w' hSw; obtain ⟨⟨p0, p1, p2, p3, p4, p5, p6, p7, p8, p9⟩, ⟨q0, q1, q2, q3, q4, q5, q6, q7, q8, q9⟩⟩ := hSw; go_simp; try with_reducible rfl
 rotate_left
 · simp only [Act.put, List.setIfInBounds_toArray, List.set_cons_zero, List.set_cons_succ]; rfl
 refine join_ (σ := Nat × Nat) 2 #[true, true, true, true, true, true, true, true, true, true, false, false] (fun s => [(7, .pointer (some ⟨s.1, 0, none⟩)), (8, .pointer (some ⟨s.2, 0, none⟩))]) (fun s w4 => DB w s.1 s.2 zeroX zeroX w4) ?_ (fun hJ => ?_)
 rotate_left
 ·
  skip
  refine two_ (i := 8) (j := 9) (Ni := some 7) (Nj := some 8) #[true, true, true, true, true, true, true, true, true, false, false, false] #[true, true, true, true, true, true, true, true, false, true, false, false] rfl rfl rfl rfl (by kernel_rfl) (by decide) (by decide) (fun K hK => ?_) (fun K hK => ?_)
  ·
   skip
   rw [if_pos (by rfl)]
   go_simp
   refine hK.out _ _ (HT.out.on (below_alloc (Below.refl _ _) _)) (fun hHeld => ?_)
   clear hK K
   refine norm_ (a' := ?_) ?_ ?_
   rotate_left
   · first | (simp only [Act.put, List.setIfInBounds_toArray, List.set_cons_zero, List.set_cons_succ]; rfl) | rfl
   refine one_ (i := 9) (N := some 8) #[true, true, true, true, true, true, true, true, true, true, false, false] rfl rfl (by kernel_rfl) (by decide) (fun K hK => ?_)
   rw [if_pos (by rfl)]
   go_simp
   refine hK.out _ _ (HT.out.on (below_alloc (below_alloc (Below.refl _ _) _) _)) (fun hHeld => ?_)
   clear hK K
   refine norm_ (a' := ?_) ?_ ?_
   rotate_left
   · first | (simp only [Act.put, List.setIfInBounds_toArray, List.set_cons_zero, List.set_cons_succ]; rfl) | rfl
   exact hJ (wa.heap.size, wa.heap.size + 1) _ (DB.made HWd.out true)
  ·
   skip
   rw [if_pos (by rfl)]
   go_simp
   refine hK.out _ _ (HT.out.on (below_alloc (Below.refl _ _) _)) (fun hHeld => ?_)
   clear hK K
   refine norm_ (a' := ?_) ?_ ?_
   rotate_left
   · first | (simp only [Act.put, List.setIfInBounds_toArray, List.set_cons_zero, List.set_cons_succ]; rfl) | rfl
   refine one_ (i := 8) (N := some 7) #[true, true, true, true, true, true, true, true, true, true, false, false] rfl rfl (by kernel_rfl) (by decide) (fun K hK => ?_)
   rw [if_pos (by rfl)]
   go_simp
   refine hK.out _ _ (HT.out.on (below_alloc (below_alloc (Below.refl _ _) _) _)) (fun hHeld => ?_)
   clear hK K
   refine norm_ (a' := ?_) ?_ ?_
   rotate_left
   · first | (simp only [Act.put, List.setIfInBounds_toArray, List.set_cons_zero, List.set_cons_succ]; rfl) | rfl
   exact hJ (wa.heap.size + 1, wa.heap.size) _ (DB.made HWd.out false)
 rintro ⟨bx, b_y⟩ w4 H5
 dsimp only at H5
 refine norm_ (a' := ?_) ?_ ?_
 rotate_left
 · simp only [putAll, Act.put, List.setIfInBounds_toArray, List.set_cons_zero, List.set_cons_succ]; rfl
 have H6 := H5.putx (rowX x A6 c6 A7 c7) (by simp [zeroX, rowX])
 have hst := run_store_run (P := Try.prog) (o := 0) 40 (.agg #[.int .i64 x.f0, .string x.f1, .string x.f2, .int .i64 x.f3, .int .i64 x.f4, .int .i64 x.f5, .slice A6 x.f6.length c6, .slice A7 x.f7.length c7, .int .i64 x.f8, .int .i64 x.f9]) (rowX x A6 c6 A7 c7) H5.x rfl (by kernel_rfl) (by simp [zeroX, rowX]) (by intro q hq; simp [rowX] at hq; rcases hq with h | h | h | h | h | h | h | h | h | h <;> subst h <;> rfl)
 refine one_ (i := 10) (N := none) #[true, true, true, true, true, true, true, true, true, true, true, false] rfl rfl (by kernel_rfl) (by decide) (fun K hK => ?_)
 refine storeStep (by rfl) rfl rfl rfl rfl hst ?_; clear hst
 refine hK.out _ _ (H6.held HX0.out HY0.out) (fun hHeld => ?_)
 clear hK K hHeld H5
 generalize (World.setCells _ _ _ _) = w5 at H6 ⊢
 have hst := run_store_run (P := Try.prog) (o := 0) 40 (.agg #[.int .i64 y.f0, .string y.f1, .string y.f2, .int .i64 y.f3, .int .i64 y.f4, .int .i64 y.f5, .slice B6 y.f6.length d6, .slice B7 y.f7.length d7, .int .i64 y.f8, .int .i64 y.f9]) (rowX y B6 d6 B7 d7) H6.y rfl (by kernel_rfl) (by simp [zeroX, rowX]) (by intro q hq; simp [rowX] at hq; rcases hq with h | h | h | h | h | h | h | h | h | h <;> subst h <;> rfl)
 refine last_ (i := 11) (N := none) #[true, true, true, true, true, true, true, true, true, true, true, true] rfl rfl (by kernel_rfl) (by decide) (fun K hK => ?_)
 refine storeStep (by rfl) rfl rfl rfl rfl hst ?_; clear hst
 refine hK.out _ _ ?_
 clear hK K
 have H7 := H6.puty (rowX y B6 d6 B7 d7) (by simp [zeroX, rowX])
 generalize (World.setCells _ _ _ _) = wx at H7 ⊢
 refine done_ (by kernel_rfl) ?_
 have HB := Aside0.mk H7
 clear H6 H7 HT HWd
 have x0 : wx.cell? ⟨bx, 0, none⟩ = some (.int .i64 x.f0) := HB.out.cx 0 _ rfl
 have y0 : wx.cell? ⟨b_y, 0, none⟩ = some (.int .i64 y.f0) := HB.out.cy 0 _ rfl
 by_cases g0 : y.f0 = 0
 ·
  have k0 : (y.f0 == 0) = true := by simp [g0]
  replace g0 := Aside0.mk g0
  have R : Aside0 (asgT t a b = false) := ⟨by rw [hSX.out]; simp [asgX, g0.out]⟩
  as_aux_lemma =>
   go_wp2
   go_ret
   rw [R.out]
   exact ⟨rfl, HB.out.below⟩
 ·
  have k0 : (y.f0 == 0) = false := by simp [g0]
  replace g0 := Aside0.mk g0
  by_cases g5 : y.f0 = 5
  ·
   have k5 : (y.f0 == 5) = true := by simp [g5]
   replace g5 := Aside0.mk g5
   have R : Aside0 (asgT t a b = false) := ⟨by rw [hSX.out]; simp [asgX, g5.out]⟩
   as_aux_lemma =>
    go_wp2
    go_ret
    rw [R.out]
    exact ⟨rfl, HB.out.below⟩
  ·
   have k5 : (y.f0 == 5) = false := by simp [g5]
   replace g5 := Aside0.mk g5
   by_cases g6 : y.f0 = 6
   ·
    have k6 : (y.f0 == 6) = true := by simp [g6]
    replace g6 := Aside0.mk g6
    have R : Aside0 (asgT t a b = false) := ⟨by rw [hSX.out]; simp [asgX, g6.out]⟩
    as_aux_lemma =>
     go_wp2
     go_ret
     rw [R.out]
     exact ⟨rfl, HB.out.below⟩
   ·
    have k6 : (y.f0 == 6) = false := by simp [g6]
    replace g6 := Aside0.mk g6
    by_cases g8 : y.f0 = 8
    ·
     have k8 : (y.f0 == 8) = true := by simp [g8]
     replace g8 := Aside0.mk g8
     have R : Aside0 (asgT t a b = false) := ⟨by rw [hSX.out]; simp [asgX, g8.out]⟩
     as_aux_lemma =>
      go_wp2
      go_ret
      rw [R.out]
      exact ⟨rfl, HB.out.below⟩
    ·
     have k8 : (y.f0 == 8) = false := by simp [g8]
     replace g8 := Aside0.mk g8
     go_upto_region 4 with fail
     have HS := Aside0.mk (fun (W : World) (h : Below w.heap.size w W) => Same_calls (Kd.C_below HC.out h) hc HP.out HI.out a b HA.out HBI.out)
     have HE := Aside0.mk (fun (W : World) (h : Below w.heap.size w W) => Extends_calls (Kd.C_below HC.out h) hc HP.out HG.out a b HA.out HBI.out)
     go_cut [44] (fun s44 wr => s44 = .bool (sameT t a b || extT t a b) ∧ DB w bx b_y (rowX x A6 c6 A7 c7).toArray (rowX y B6 d6 B7 d7).toArray wr)
     case first =>
      clear x0 y0
      cases hs : sameT t a b with
      | true =>
       rw [hs] at HS
       replace hs := Aside0.mk hs
       as_aux_lemma =>
        go_wp2_with (first | (go_at_call 47; refine (HS.out _ HB.out.below).mono ?_; rintro e w4 ⟨rfl, hb4⟩; have HB4 := Aside0.mk (HB.out.on hb4); clear hb4) | (go_at_call 48; refine (HE.out _ HB4.out.below).mono ?_; rintro e w5 ⟨rfl, hb5⟩; have HB5 := Aside0.mk (HB4.out.on hb5); clear hb5))
        go_meet
        case rel => exact ⟨by simp [hs.out], HB4.out⟩
      | false =>
       rw [hs] at HS
       replace hs := Aside0.mk hs
       as_aux_lemma =>
        go_wp2_with (first | (go_at_call 47; refine (HS.out _ HB.out.below).mono ?_; rintro e w4 ⟨rfl, hb4⟩; have HB4 := Aside0.mk (HB.out.on hb4); clear hb4) | (go_at_call 48; refine (HE.out _ HB4.out.below).mono ?_; rintro e w5 ⟨rfl, hb5⟩; have HB5 := Aside0.mk (HB4.out.on hb5); clear hb5))
        go_meet
        case rel => exact ⟨by simp [hs.out], HB5.out⟩
     case rest =>
      clear x0 y0
      obtain ⟨rfl, H8⟩ := hcut
      replace HB := Aside0.mk H8
      clear H8
      have x0 : wc.cell? ⟨bx, 0, none⟩ = some (.int .i64 x.f0) := HB.out.cx 0 _ rfl
      have y0 : wc.cell? ⟨b_y, 0, none⟩ = some (.int .i64 y.f0) := HB.out.cy 0 _ rfl
      have x4 : wc.cell? ⟨bx, 4, none⟩ = some (.int .i64 x.f4) := HB.out.cx 4 _ rfl
      have y4 : wc.cell? ⟨b_y, 4, none⟩ = some (.int .i64 y.f4) := HB.out.cy 4 _ rfl
      cases hse : (sameT t a b || extT t a b) with
      | true =>
       replace hse := Aside0.mk hse
       have R : Aside0 (asgT t a b = true) := ⟨by rw [hSX.out]; simp [asgX, hse.out, g0.out, g5.out, g6.out, g8.out]⟩
       as_aux_lemma =>
        go_wp2
        go_ret
        rw [R.out]
        exact ⟨rfl, HB.out.below⟩
      | false =>
       replace hse := Aside0.mk hse
       by_cases f5 : x.f0 = 5
       ·
        have m5 : (x.f0 == 5) = true := by simp [f5]
        replace f5 := Aside0.mk f5
        by_cases y10 : y.f0 = 10
        ·
         have n10 : (y.f0 == 10) = true := by simp [y10]
         replace y10 := Aside0.mk y10
         have R : Aside0 (asgT t a b = true) := ⟨by rw [hSX.out]; simp [asgX, hse.out, g0.out, g5.out, g6.out, g8.out, f5.out, y10.out]⟩
         as_aux_lemma =>
          go_wp2
          go_ret
          rw [R.out]
          exact ⟨rfl, HB.out.below⟩
        ·
         have n10 : (y.f0 == 10) = false := by simp [y10]
         replace y10 := Aside0.mk y10
         by_cases y11 : y.f0 = 11
         ·
          have n11 : (y.f0 == 11) = true := by simp [y11]
          replace y11 := Aside0.mk y11
          have R : Aside0 (asgT t a b = true) := ⟨by rw [hSX.out]; simp [asgX, hse.out, g0.out, g5.out, g6.out, g8.out, f5.out, y10.out, y11.out]⟩
          as_aux_lemma =>
           go_wp2
           go_ret
           rw [R.out]
           exact ⟨rfl, HB.out.below⟩
         ·
          have n11 : (y.f0 == 11) = false := by simp [y11]
          replace y11 := Aside0.mk y11
          have R : Aside0 (asgT t a b = false) := ⟨by rw [hSX.out]; simp [asgX, hse.out, g0.out, g5.out, g6.out, g8.out, f5.out, y10.out, y11.out]⟩
          as_aux_lemma =>
           go_wp2
           go_ret
           rw [R.out]
           exact ⟨rfl, HB.out.below⟩
       ·
        have m5 : (x.f0 == 5) = false := by simp [f5]
        replace f5 := Aside0.mk f5
        by_cases f6 : x.f0 = 6
        ·
         have m6 : (x.f0 == 6) = true := by simp [f6]
         replace f6 := Aside0.mk f6
         by_cases y7 : y.f0 = 7
         ·
          have n7 : (y.f0 == 7) = true := by simp [y7]
          have hin := hEB.out (.inl y7)
          replace y7 := Aside0.mk y7
          obtain ⟨e0, e1⟩ := hin
          obtain ⟨ad', D6, h6_, D7, h7_, hA, r0, -, -, -, -, -, -, -, -, -, -, -, -, -⟩ := at_T40 (Kd.C_below HC.out HB.out.below) y.f4 e0 e1
          cases hA
          by_cases z3 : (rd_T40 t y.f4).f0 = 3
          ·
           have n3 : ((rd_T40 t y.f4).f0 == 3) = true := by simp [z3]
           replace z3 := Aside0.mk z3
           have R : Aside0 (asgT t a b = true) := ⟨by rw [hSX.out]; simp [asgX, hse.out, g0.out, g5.out, g6.out, g8.out, f5.out, f6.out, y7.out, z3.out]⟩
           generalize (rd_T40 t y.f4).f0 = z at r0 n3
           as_aux_lemma =>
            go_wp2
            go_ret
            rw [R.out]
            exact ⟨rfl, HB.out.below⟩
          ·
           have n3 : ((rd_T40 t y.f4).f0 == 3) = false := by simp [z3]
           replace z3 := Aside0.mk z3
           have R : Aside0 (asgT t a b = false) := ⟨by rw [hSX.out]; simp [asgX, hse.out, g0.out, g5.out, g6.out, g8.out, f5.out, f6.out, y7.out, z3.out]⟩
           generalize (rd_T40 t y.f4).f0 = z at r0 n3
           as_aux_lemma =>
            go_wp2
            go_ret
            rw [R.out]
            exact ⟨rfl, HB.out.below⟩
         ·
          have n7 : (y.f0 == 7) = false := by simp [y7]
          replace y7 := Aside0.mk y7
          have R : Aside0 (asgT t a b = false) := ⟨by rw [hSX.out]; simp [asgX, hse.out, g0.out, g5.out, g6.out, g8.out, f5.out, f6.out, y7.out]⟩
          as_aux_lemma =>
           go_wp2
           go_ret
           rw [R.out]
           exact ⟨rfl, HB.out.below⟩
        ·
         have m6 : (x.f0 == 6) = false := by simp [f6]
         replace f6 := Aside0.mk f6
         by_cases f8 : x.f0 = 8
         ·
          have m8 : (x.f0 == 8) = true := by simp [f8]
          replace f8 := Aside0.mk f8
          by_cases y7 : y.f0 = 7
          ·
           have n7 : (y.f0 == 7) = true := by simp [y7]
           have HS2 := Aside0.mk (Same_calls (Kd.C_below HC.out HB.out.below) hc HP.out HI.out x.f4 y.f4 (hEA.out (.inr (.inl f8.out))) (hEB.out (.inl y7)))
           replace y7 := Aside0.mk y7
           have R : Aside0 (asgT t a b = sameT t x.f4 y.f4) := ⟨by rw [hSX.out]; simp [asgX, hse.out, g0.out, g5.out, g6.out, g8.out, f5.out, f6.out, f8.out, y7.out]⟩
           as_aux_lemma =>
            go_wp2_with ((go_at_call 47; refine HS2.out.mono ?_; rintro e w4 ⟨rfl, hb4⟩; have HB4 := Aside0.mk (HB.out.on hb4); clear hb4))
            go_ret
            rw [R.out]
            exact ⟨rfl, HB4.out.below⟩
          ·
           have n7 : (y.f0 == 7) = false := by simp [y7]
           replace y7 := Aside0.mk y7
           have R : Aside0 (asgT t a b = false) := ⟨by rw [hSX.out]; simp [asgX, hse.out, g0.out, g5.out, g6.out, g8.out, f5.out, f6.out, f8.out, y7.out]⟩
           as_aux_lemma =>
            go_wp2
            go_ret
            rw [R.out]
            exact ⟨rfl, HB.out.below⟩
         ·
          have m8 : (x.f0 == 8) = false := by simp [f8]
          replace f8 := Aside0.mk f8
          have R : Aside0 (asgT t a b = false) := ⟨by rw [hSX.out]; simp [asgX, hse.out, g0.out, g5.out, g6.out, g8.out, f5.out, f6.out, f8.out]⟩
          as_aux_lemma =>
           go_wp2
           go_ret
           rw [R.out]
           exact ⟨rfl, HB.out.below⟩
end Go.Proofs.Ytgnbemgeiloegaa.Tg
