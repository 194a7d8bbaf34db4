import Derived.Test.YtgnbemgeiloegaaMTgDb
import Derived.Test.YtgnbemgeiloegaaMTgDfs3
namespace Go.Proofs.Ytgnbemgeiloegaa.Tg
open Go.RowKit Go.Maps Go.WideMaps
open Go.Proofs.YtgnbemgeiloegaaW.PrintWords Go.Proofs.YtgnbemgeiloegaaW.PrintLast Go.Proofs.YtgnbemgeiloegaaW.PrintMore
set_option linter.unusedVariables false
set_option linter.unusedSimpArgs false
open Go.Proofs.Ytgnbemgeiloegaa.PTypesGoods (S40 S42 S47 k40 k42 k47 rd_T40 rd_T42 rd_T47 at_T40 at_T42 at_T47)
def opnX (t : List S40) (f : Int → Int → Bool) (x y : S40) (v : Bool) : Bool :=
 if x.f0 = 7 ∨ x.f0 = 8 then sameT t x.f4 y.f4 || (decide ((rd_T40 t y.f4).f0 = 8) && f x.f4 y.f4)
 else if x.f0 = 6 then !v && decide ((rd_T40 t y.f4).f0 = 3)
 else false
def opnF (t : List S40) (v : Bool) : Nat → Int → Int → Bool
 | 0, _, _ => false
 | n + 1, a, b => opnX t (opnF t v n) (rd_T40 t a) (rd_T40 t b) v
set_option maxHeartbeats 16000000 in
set_option maxRecDepth 100000 in
theorem opens_step {t : List S40} {A : Option Addr} {c : Nat} (hc : t.length ≤ c) (hpm : Parms t) (hg : GoodR t) (v : Bool) (n : Nat)
 (ih : ∀ (a b : Int) (w : World), Kd.C k40 w A t.length t → InT t a → InT t b → (rd_T40 t b).f0 = 8 → Deep (insP t) n b → Calls Try.prog 66 #[.slice A t.length c, .int .i64 a, .int .i64 b, .bool v] w fun e w' => e = .returned (.bool (opnF t v n a b)) ∧ Below w.heap.size w w')
 (a b : Int) (w : World) (hC : Kd.C k40 w A t.length t) (ha : InT t a) (hb : InT t b) (hb8 : (rd_T40 t b).f0 = 8) (hd : Deep (insP t) (n + 1) b) :
 Calls Try.prog 66 #[.slice A t.length c, .int .i64 a, .int .i64 b, .bool v] w fun e w' => e = .returned (.bool (opnF t v (n + 1) a b)) ∧ Below w.heap.size w w' := by
 have IH := Aside0.mk ih
 clear ih
 have hdn : Aside0 (Deep (insP t) n (rd_T40 t b).f4) := ⟨hd _ (by unfold insP; rw [if_pos (.inr hb8)]; simp)⟩
 clear hd
 have HI := Aside0.mk (gd_inner hg)
 have HC := Aside0.mk hC
 have HG := Aside0.mk hg
 have HP := Aside0.mk hpm
 have HA := Aside0.mk ha
 have HBI := Aside0.mk hb
 obtain ⟨ha0, ha1⟩ := ha
 obtain ⟨hb0, hb1⟩ := hb
 obtain ⟨ad, A6, c6, A7, c7, hA, p0, p1, p2, p3, p4, p5, p6, p7, p8, p9, l6, C6, l7, C7⟩ := at_T40 hC a ha0 ha1
 subst hA
 obtain ⟨ad', B6, d6, B7, d7, hA, q0, q1, q2, q3, q4, q5, q6, q7, q8, q9, m6, D6, m7, D7⟩ := at_T40 hC b hb0 hb1
 cases hA
 have HX0 := Aside0.mk (CellsX.mk p0 p1 p2 p3 p4 p5 p6 p7 p8 p9)
 have HY0 := Aside0.mk (CellsX.mk q0 q1 q2 q3 q4 q5 q6 q7 q8 q9)
 have hE7 := Aside0.mk (fun h => (gd_arr hg ⟨hb0, hb1⟩ h).1)
 have hEA := Aside0.mk (HI.out.elem a ⟨ha0, ha1⟩)
 have hEB := Aside0.mk (HI.out.elem b ⟨hb0, hb1⟩)
 clear p0 p1 p2 p3 p4 p5 p6 p7 p8 p9 q0 q1 q2 q3 q4 q5 q6 q7 q8 q9 hC hg hpm C6 C7 D6 D7 l6 m6 l7 m7
 have hSX : Aside0 (opnF t v (n + 1) a b = opnX t (opnF t v n) (rd_T40 t a) (rd_T40 t b) v) := ⟨rfl⟩
 generalize rd_T40 t a = x at hSX hEA HX0
 generalize rd_T40 t b = y at hSX hEB hE7 HY0 hdn hb8
 have H4 := Aside0.mk (hEB.out (.inr (.inl hb8)))
 clear hb8 hE7 hEB
 go_enter Try.func66, Try.ntmps66
 go_upto_region 1 with fail
 have HWd : Aside0 (Below w.heap.size w w.drew) := ⟨below_drew (Below.refl _ _)⟩
 have HT : Aside0 (HeldD (ad.add (a.toNat * 10)) (ad.add (b.toNat * 10)) x y A6 c6 A7 c7 B6 d6 B7 d7 w.drew) := ⟨HX0.out.on HWd.out, HY0.out.on HWd.out⟩
 refine start_ (n := 12) (S := HeldD (ad.add (a.toNat * 10)) (ad.add (b.toNat * 10)) x y A6 c6 A7 c7 B6 d6 B7 d7) (ds := [11]) #[false, false, false, false, false, false, false, false, false, false, false, false] (by kernel_rfl) rfl rfl (HT.out) (fun hHeld => ?_)
 generalize w.drew = wa at HWd HT hHeld ⊢
 refine pure_ (i := 0) (N := some 11) (v := ?_) (a' := ?_) #[true, false, false, false, false, false, false, false, false, false, false, false] rfl rfl (by kernel_rfl) (fun _ _ _ h => h) (Or.inl ⟨by rfl, ?_⟩) ?_ ?_
 rotate_left
 · intro w'; go_simp; try with_reducible rfl
 rotate_left
 · simp only [Act.put, List.setIfInBounds_toArray, List.set_cons_zero, List.set_cons_succ]; rfl
 refine pure_ (i := 1) (N := some 12) (v := ?_) (a' := ?_) #[true, true, false, false, false, false, false, false, false, false, false, false] rfl rfl (by kernel_rfl) (fun _ _ _ h => h) (Or.inl ⟨by rfl, ?_⟩) ?_ ?_
 rotate_left
 · intro w'; go_simp; try with_reducible rfl
 rotate_left
 · simp only [Act.put, List.setIfInBounds_toArray, List.set_cons_zero, List.set_cons_succ]; rfl
 refine take_ (i := 2) (N := some 13) (v := ?_) (a' := ?_) #[true, true, true, false, false, false, false, false, false, false, false, false] rfl rfl (by kernel_rfl) (fun _ _ _ h => h) (Or.inl ⟨by rfl, ?_⟩) hHeld ?_ ?_
 rotate_left
 · intro w' hSw; obtain ⟨⟨p0, p1, p2, p3, p4, p5, p6, p7, p8, p9⟩, ⟨q0, q1, q2, q3, q4, q5, q6, q7, q8, q9⟩⟩ := hSw; go_simp; try with_reducible rfl
 rotate_left
 · simp only [Act.put, List.setIfInBounds_toArray, List.set_cons_zero, List.set_cons_succ]; rfl
 refine take_ (i := 3) (N := some 14) (v := ?_) (a' := ?_) #[true, true, true, true, false, false, false, false, false, false, false, false] rfl rfl (by kernel_rfl) (fun _ _ _ h => h) (Or.inl ⟨by rfl, ?_⟩) hHeld ?_ ?_
 rotate_left
 · intro w' hSw; obtain ⟨⟨p0, p1, p2, p3, p4, p5, p6, p7, p8, p9⟩, ⟨q0, q1, q2, q3, q4, q5, q6, q7, q8, q9⟩⟩ := hSw; go_simp; try with_reducible rfl
 rotate_left
 · simp only [Act.put, List.setIfInBounds_toArray, List.set_cons_zero, List.set_cons_succ]; rfl
 refine pure_ (i := 4) (N := some 15) (v := ?_) (a' := ?_) #[true, true, true, true, true, false, false, false, false, false, false, false] rfl rfl (by kernel_rfl) (fun _ _ _ h => h) (Or.inl ⟨by rfl, ?_⟩) ?_ ?_
 rotate_left
 · intro w'; go_simp; try with_reducible rfl
 rotate_left
 · simp only [Act.put, List.setIfInBounds_toArray, List.set_cons_zero, List.set_cons_succ]; rfl
 refine pure_ (i := 5) (N := some 16) (v := ?_) (a' := ?_) #[true, true, true, true, true, true, false, false, false, false, false, false] rfl rfl (by kernel_rfl) (fun _ _ _ h => h) (Or.inl ⟨by rfl, ?_⟩) ?_ ?_
 rotate_left
 · intro w'; go_simp; try with_reducible rfl
 rotate_left
 · simp only [Act.put, List.setIfInBounds_toArray, List.set_cons_zero, List.set_cons_succ]; rfl
 refine take_ (i := 6) (N := some 17) (v := ?_) (a' := ?_) #[true, true, true, true, true, true, true, false, false, false, false, false] rfl rfl (by kernel_rfl) (fun _ _ _ h => h) (Or.inl ⟨by rfl, ?_⟩) hHeld ?_ ?_
 rotate_left
 · intro w' hSw; obtain ⟨⟨p0, p1, p2, p3, p4, p5, p6, p7, p8, p9⟩, ⟨q0, q1, q2, q3, q4, q5, q6, q7, q8, q9⟩⟩ := hSw; go_simp; try with_reducible rfl
 rotate_left
 · simp only [Act.put, List.setIfInBounds_toArray, List.set_cons_zero, List.set_cons_succ]; rfl
 refine take_ (i := 7) (N := some 18) (v := ?_) (a' := ?_) #[true, true, true, true, true, true, true, true, false, false, false, false] rfl rfl (by kernel_rfl) (fun _ _ _ h => h) (Or.inl ⟨by rfl, ?_⟩) hHeld ?_ ?_
 rotate_left
 · intro w' hSw; obtain ⟨⟨p0, p1, p2, p3, p4, p5, p6, p7, p8, p9⟩, ⟨q0, q1, q2, q3, q4, q5, q6, q7, q8, q9⟩⟩ := hSw; go_simp; try with_reducible rfl
 rotate_left
 · simp only [Act.put, List.setIfInBounds_toArray, List.set_cons_zero, List.set_cons_succ]; rfl
 refine join_ (σ := Nat × Nat) 2 #[true, true, true, true, true, true, true, true, true, true, false, false] (fun s => [(9, .pointer (some ⟨s.1, 0, none⟩)), (10, .pointer (some ⟨s.2, 0, none⟩))]) (fun s w4 => DB w s.1 s.2 zeroX zeroX w4) ?_ (fun hJ => ?_)
 rotate_left
 ·
  skip
  refine two_ (i := 8) (j := 9) (Ni := some 9) (Nj := some 10) #[true, true, true, true, true, true, true, true, true, false, false, false] #[true, true, true, true, true, true, true, true, false, true, false, false] rfl rfl rfl rfl (by kernel_rfl) (by decide) (by decide) (fun K hK => ?_) (fun K hK => ?_)
  ·
   skip
   rw [if_pos (by rfl)]
   go_simp
   refine hK.out _ _ (HT.out.on (below_alloc (Below.refl _ _) _)) (fun hHeld => ?_)
   clear hK K
   refine norm_ (a' := ?_) ?_ ?_
   rotate_left
   · first | (simp only [Act.put, List.setIfInBounds_toArray, List.set_cons_zero, List.set_cons_succ]; rfl) | rfl
   refine one_ (i := 9) (N := some 10) #[true, true, true, true, true, true, true, true, true, true, false, false] rfl rfl (by kernel_rfl) (by decide) (fun K hK => ?_)
   rw [if_pos (by rfl)]
   go_simp
   refine hK.out _ _ (HT.out.on (below_alloc (below_alloc (Below.refl _ _) _) _)) (fun hHeld => ?_)
   clear hK K
   refine norm_ (a' := ?_) ?_ ?_
   rotate_left
   · first | (simp only [Act.put, List.setIfInBounds_toArray, List.set_cons_zero, List.set_cons_succ]; rfl) | rfl
   exact hJ (wa.heap.size, wa.heap.size + 1) _ (DB.made HWd.out true)
  ·
   skip
   rw [if_pos (by rfl)]
   go_simp
   refine hK.out _ _ (HT.out.on (below_alloc (Below.refl _ _) _)) (fun hHeld => ?_)
   clear hK K
   refine norm_ (a' := ?_) ?_ ?_
   rotate_left
   · first | (simp only [Act.put, List.setIfInBounds_toArray, List.set_cons_zero, List.set_cons_succ]; rfl) | rfl
   refine one_ (i := 8) (N := some 9) #[true, true, true, true, true, true, true, true, true, true, false, false] rfl rfl (by kernel_rfl) (by decide) (fun K hK => ?_)
   rw [if_pos (by rfl)]
   go_simp
   refine hK.out _ _ (HT.out.on (below_alloc (below_alloc (Below.refl _ _) _) _)) (fun hHeld => ?_)
   clear hK K
   refine norm_ (a' := ?_) ?_ ?_
   rotate_left
   · first | (simp only [Act.put, List.setIfInBounds_toArray, List.set_cons_zero, List.set_cons_succ]; rfl) | rfl
   exact hJ (wa.heap.size + 1, wa.heap.size) _ (DB.made HWd.out false)
 rintro ⟨bx, b_y⟩ w4 H5
 dsimp only at H5
 refine norm_ (a' := ?_) ?_ ?_
 rotate_left
 · simp only [putAll, Act.put, List.setIfInBounds_toArray, List.set_cons_zero, List.set_cons_succ]; rfl
 have H6 := H5.putx (rowX x A6 c6 A7 c7) (by simp [zeroX, rowX])
 have hst := run_store_run (P := Try.prog) (o := 0) 40 (.agg #[.int .i64 x.f0, .string x.f1, .string x.f2, .int .i64 x.f3, .int .i64 x.f4, .int .i64 x.f5, .slice A6 x.f6.length c6, .slice A7 x.f7.length c7, .int .i64 x.f8, .int .i64 x.f9]) (rowX x A6 c6 A7 c7) H5.x rfl (by kernel_rfl) (by simp [zeroX, rowX]) (by intro q hq; simp [rowX] at hq; rcases hq with h | h | h | h | h | h | h | h | h | h <;> subst h <;> rfl)
 refine one_ (i := 10) (N := none) #[true, true, true, true, true, true, true, true, true, true, true, false] rfl rfl (by kernel_rfl) (by decide) (fun K hK => ?_)
 refine storeStep (by rfl) rfl rfl rfl rfl hst ?_; clear hst
 refine hK.out _ _ (H6.held HX0.out HY0.out) (fun hHeld => ?_)
 clear hK K hHeld H5
 generalize (World.setCells _ _ _ _) = w5 at H6 ⊢
 have hst := run_store_run (P := Try.prog) (o := 0) 40 (.agg #[.int .i64 y.f0, .string y.f1, .string y.f2, .int .i64 y.f3, .int .i64 y.f4, .int .i64 y.f5, .slice B6 y.f6.length d6, .slice B7 y.f7.length d7, .int .i64 y.f8, .int .i64 y.f9]) (rowX y B6 d6 B7 d7) H6.y rfl (by kernel_rfl) (by simp [zeroX, rowX]) (by intro q hq; simp [rowX] at hq; rcases hq with h | h | h | h | h | h | h | h | h | h <;> subst h <;> rfl)
 refine last_ (i := 11) (N := none) #[true, true, true, true, true, true, true, true, true, true, true, true] rfl rfl (by kernel_rfl) (by decide) (fun K hK => ?_)
 refine storeStep (by rfl) rfl rfl rfl rfl hst ?_; clear hst
 refine hK.out _ _ ?_
 clear hK K
 have H7 := H6.puty (rowX y B6 d6 B7 d7) (by simp [zeroX, rowX])
 generalize (World.setCells _ _ _ _) = wx at H7 ⊢
 refine done_ (by kernel_rfl) ?_
 have HB := Aside0.mk H7
 clear H6 H7 HT HWd
 have x0 : wx.cell? ⟨bx, 0, none⟩ = some (.int .i64 x.f0) := HB.out.cx 0 _ rfl
 have y0 : wx.cell? ⟨b_y, 0, none⟩ = some (.int .i64 y.f0) := HB.out.cy 0 _ rfl
 have x4 : wx.cell? ⟨bx, 4, none⟩ = some (.int .i64 x.f4) := HB.out.cx 4 _ rfl
 have y4 : wx.cell? ⟨b_y, 4, none⟩ = some (.int .i64 y.f4) := HB.out.cy 4 _ rfl
 have hin := H4.out
 obtain ⟨e0, e1⟩ := hin
 have KR := Aside0.mk (fun (W : World) (h : Below w.heap.size w W) => at_T40 (Kd.C_below HC.out h) y.f4 e0 e1)
 have FR : Aside0 (∀ W, Below w.heap.size w W → W.cell? (ad.add (y.f4.toNat * 10)) = some (.int .i64 (rd_T40 t y.f4).f0)) := ⟨fun W h => by
  obtain ⟨ad', _, _, _, _, hA, r0, _⟩ := KR.out W h
  cases hA
  exact r0⟩
 clear KR
 by_cases f7 : x.f0 = 7
 ·
  have m7 : (x.f0 == 7) = true := by simp [f7]
  have hin4 := Aside0.mk (hEA.out (.inl f7))
  replace f7 := Aside0.mk f7
  have HS := Aside0.mk (Same_calls (Kd.C_below HC.out HB.out.below) hc HP.out HI.out x.f4 y.f4 hin4.out H4.out)
  cases hs : sameT t x.f4 y.f4 with
  | true =>
   rw [hs] at HS
   have R : Aside0 (opnF t v (n + 1) a b = true) := ⟨by rw [hSX.out]; simp [opnX, f7.out, hs]⟩
   replace hs := Aside0.mk hs
   as_aux_lemma =>
    go_wp2_with (first | (go_at_call 47; refine HS.out.mono ?_; rintro e w4 ⟨rfl, hb4⟩; have HB4 := Aside0.mk (HB.out.on hb4); clear hb4; have r0 := FR.out w4 HB4.out.below; have x4b : w4.cell? ⟨bx, 4, none⟩ = some (.int .i64 x.f4) := HB4.out.cx 4 _ rfl; have y4b : w4.cell? ⟨b_y, 4, none⟩ = some (.int .i64 y.f4) := HB4.out.cy 4 _ rfl))
    go_ret
    rw [R.out]
    exact ⟨rfl, HB4.out.below⟩
  | false =>
   rw [hs] at HS
   by_cases z8 : (rd_T40 t y.f4).f0 = 8
   ·
    have n8 : ((rd_T40 t y.f4).f0 == 8) = true := by simp [z8]
    have R : Aside0 (opnF t v (n + 1) a b = opnF t v n x.f4 y.f4) := ⟨by rw [hSX.out]; simp [opnX, f7.out, hs, z8]⟩
    have HO := Aside0.mk (fun (W : World) (h : Below w.heap.size w W) => IH.out x.f4 y.f4 W (Kd.C_below HC.out h) hin4.out H4.out z8 hdn.out)
    replace hs := Aside0.mk hs
    replace z8 := Aside0.mk z8
    generalize (rd_T40 t y.f4).f0 = z at FR n8
    as_aux_lemma =>
     go_wp2_with (first | (go_at_call 47; refine HS.out.mono ?_; rintro e w4 ⟨rfl, hb4⟩; have HB4 := Aside0.mk (HB.out.on hb4); clear hb4; have r0 := FR.out w4 HB4.out.below; have x4b : w4.cell? ⟨bx, 4, none⟩ = some (.int .i64 x.f4) := HB4.out.cx 4 _ rfl; have y4b : w4.cell? ⟨b_y, 4, none⟩ = some (.int .i64 y.f4) := HB4.out.cy 4 _ rfl) | (go_at_call 66; refine (HO.out w4 HB4.out.below).mono ?_; rintro e w5 ⟨rfl, hb5⟩; have HB5 := Aside0.mk (HB4.out.on hb5); clear hb5))
     go_ret
     rw [R.out]
     exact ⟨rfl, HB5.out.below⟩
   ·
    have n8 : ((rd_T40 t y.f4).f0 == 8) = false := by simp [z8]
    have R : Aside0 (opnF t v (n + 1) a b = false) := ⟨by rw [hSX.out]; simp [opnX, f7.out, hs, z8]⟩
    replace hs := Aside0.mk hs
    replace z8 := Aside0.mk z8
    generalize (rd_T40 t y.f4).f0 = z at FR n8
    as_aux_lemma =>
     go_wp2_with (first | (go_at_call 47; refine HS.out.mono ?_; rintro e w4 ⟨rfl, hb4⟩; have HB4 := Aside0.mk (HB.out.on hb4); clear hb4; have r0 := FR.out w4 HB4.out.below; have x4b : w4.cell? ⟨bx, 4, none⟩ = some (.int .i64 x.f4) := HB4.out.cx 4 _ rfl; have y4b : w4.cell? ⟨b_y, 4, none⟩ = some (.int .i64 y.f4) := HB4.out.cy 4 _ rfl))
     go_ret
     rw [R.out]
     exact ⟨rfl, HB4.out.below⟩
 ·
  have m7 : (x.f0 == 7) = false := by simp [f7]
  replace f7 := Aside0.mk f7
  by_cases f8 : x.f0 = 8
  ·
   have m8 : (x.f0 == 8) = true := by simp [f8]
   have hin4 := Aside0.mk (hEA.out (.inr (.inl f8)))
   replace f8 := Aside0.mk f8
   have HS := Aside0.mk (Same_calls (Kd.C_below HC.out HB.out.below) hc HP.out HI.out x.f4 y.f4 hin4.out H4.out)
   cases hs : sameT t x.f4 y.f4 with
   | true =>
    rw [hs] at HS
    have R : Aside0 (opnF t v (n + 1) a b = true) := ⟨by rw [hSX.out]; simp [opnX, f7.out, f8.out, hs]⟩
    replace hs := Aside0.mk hs
    as_aux_lemma =>
     go_wp2_with (first | (go_at_call 47; refine HS.out.mono ?_; rintro e w4 ⟨rfl, hb4⟩; have HB4 := Aside0.mk (HB.out.on hb4); clear hb4; have r0 := FR.out w4 HB4.out.below; have x4b : w4.cell? ⟨bx, 4, none⟩ = some (.int .i64 x.f4) := HB4.out.cx 4 _ rfl; have y4b : w4.cell? ⟨b_y, 4, none⟩ = some (.int .i64 y.f4) := HB4.out.cy 4 _ rfl))
     go_ret
     rw [R.out]
     exact ⟨rfl, HB4.out.below⟩
   | false =>
    rw [hs] at HS
    by_cases z8 : (rd_T40 t y.f4).f0 = 8
    ·
     have n8 : ((rd_T40 t y.f4).f0 == 8) = true := by simp [z8]
     have R : Aside0 (opnF t v (n + 1) a b = opnF t v n x.f4 y.f4) := ⟨by rw [hSX.out]; simp [opnX, f7.out, f8.out, hs, z8]⟩
     have HO := Aside0.mk (fun (W : World) (h : Below w.heap.size w W) => IH.out x.f4 y.f4 W (Kd.C_below HC.out h) hin4.out H4.out z8 hdn.out)
     replace hs := Aside0.mk hs
     replace z8 := Aside0.mk z8
     generalize (rd_T40 t y.f4).f0 = z at FR n8
     as_aux_lemma =>
      go_wp2_with (first | (go_at_call 47; refine HS.out.mono ?_; rintro e w4 ⟨rfl, hb4⟩; have HB4 := Aside0.mk (HB.out.on hb4); clear hb4; have r0 := FR.out w4 HB4.out.below; have x4b : w4.cell? ⟨bx, 4, none⟩ = some (.int .i64 x.f4) := HB4.out.cx 4 _ rfl; have y4b : w4.cell? ⟨b_y, 4, none⟩ = some (.int .i64 y.f4) := HB4.out.cy 4 _ rfl) | (go_at_call 66; refine (HO.out w4 HB4.out.below).mono ?_; rintro e w5 ⟨rfl, hb5⟩; have HB5 := Aside0.mk (HB4.out.on hb5); clear hb5))
      go_ret
      rw [R.out]
      exact ⟨rfl, HB5.out.below⟩
    ·
     have n8 : ((rd_T40 t y.f4).f0 == 8) = false := by simp [z8]
     have R : Aside0 (opnF t v (n + 1) a b = false) := ⟨by rw [hSX.out]; simp [opnX, f7.out, f8.out, hs, z8]⟩
     replace hs := Aside0.mk hs
     replace z8 := Aside0.mk z8
     generalize (rd_T40 t y.f4).f0 = z at FR n8
     as_aux_lemma =>
      go_wp2_with (first | (go_at_call 47; refine HS.out.mono ?_; rintro e w4 ⟨rfl, hb4⟩; have HB4 := Aside0.mk (HB.out.on hb4); clear hb4; have r0 := FR.out w4 HB4.out.below; have x4b : w4.cell? ⟨bx, 4, none⟩ = some (.int .i64 x.f4) := HB4.out.cx 4 _ rfl; have y4b : w4.cell? ⟨b_y, 4, none⟩ = some (.int .i64 y.f4) := HB4.out.cy 4 _ rfl))
      go_ret
      rw [R.out]
      exact ⟨rfl, HB4.out.below⟩
  ·
   have m8 : (x.f0 == 8) = false := by simp [f8]
   replace f8 := Aside0.mk f8
   have r0 := FR.out wx HB.out.below
   by_cases f6 : x.f0 = 6
   ·
    have m6 : (x.f0 == 6) = true := by simp [f6]
    replace f6 := Aside0.mk f6
    by_cases z3 : (rd_T40 t y.f4).f0 = 3
    ·
     have n3 : ((rd_T40 t y.f4).f0 == 3) = true := by simp [z3]
     have R : Aside0 (opnF t v (n + 1) a b = (!v)) := ⟨by rw [hSX.out]; simp [opnX, f7.out, f8.out, f6.out, z3]⟩
     replace z3 := Aside0.mk z3
     generalize (rd_T40 t y.f4).f0 = z at r0 n3
     clear FR
     cases v
     ·
      as_aux_lemma =>
       go_wp2
       go_ret
       rw [R.out]
       exact ⟨rfl, HB.out.below⟩
     ·
      as_aux_lemma =>
       go_wp2
       go_ret
       rw [R.out]
       exact ⟨rfl, HB.out.below⟩
    ·
     have n3 : ((rd_T40 t y.f4).f0 == 3) = false := by simp [z3]
     have R : Aside0 (opnF t v (n + 1) a b = false) := ⟨by rw [hSX.out]; simp [opnX, f7.out, f8.out, f6.out, z3]⟩
     replace z3 := Aside0.mk z3
     generalize (rd_T40 t y.f4).f0 = z at r0 n3
     clear FR
     cases v
     ·
      as_aux_lemma =>
       go_wp2
       go_ret
       rw [R.out]
       exact ⟨rfl, HB.out.below⟩
     ·
      as_aux_lemma =>
       go_wp2
       go_ret
       rw [R.out]
       exact ⟨rfl, HB.out.below⟩
   ·
    have m6 : (x.f0 == 6) = false := by simp [f6]
    replace f6 := Aside0.mk f6
    have R : Aside0 (opnF t v (n + 1) a b = false) := ⟨by rw [hSX.out]; simp [opnX, f7.out, f8.out, f6.out]⟩
    as_aux_lemma =>
     go_wp2
     go_ret
     rw [R.out]
     exact ⟨rfl, HB.out.below⟩
theorem opens_calls {t : List S40} {A : Option Addr} {c : Nat} (hc : t.length ≤ c) (hpm : Parms t) (hg : GoodR t) (v : Bool) : ∀ (n : Nat)
 (a b : Int) (w : World), Kd.C k40 w A t.length t → InT t a → InT t b → (rd_T40 t b).f0 = 8 → Deep (insP t) n b → Calls Try.prog 66 #[.slice A t.length c, .int .i64 a, .int .i64 b, .bool v] w fun e w' => e = .returned (.bool (opnF t v n a b)) ∧ Below w.heap.size w w'
 | 0, a, b, w, _, _, _, _, hd => hd.elim
 | n + 1, a, b, w, hC, ha, hb, h8, hd => opens_step hc hpm hg v n (opens_calls hc hpm hg v n) a b w hC ha hb h8 hd
end Go.Proofs.Ytgnbemgeiloegaa.Tg
