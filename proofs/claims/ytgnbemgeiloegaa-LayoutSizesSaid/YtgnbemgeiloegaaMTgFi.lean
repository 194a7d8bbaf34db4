import Derived.Test.YtgnbemgeiloegaaMTgAs
import Derived.Test.YtgnbemgeiloegaaMTgOp
namespace Go.Proofs.Ytgnbemgeiloegaa.Tg
open Go.RowKit Go.Maps Go.WideMaps
open Go.Proofs.YtgnbemgeiloegaaW.PrintWords Go.Proofs.YtgnbemgeiloegaaW.PrintLast Go.Proofs.YtgnbemgeiloegaaW.PrintMore
set_option linter.unusedVariables false
set_option linter.unusedSimpArgs false
open Go.Proofs.Ytgnbemgeiloegaa.PTypesGoods (S40 S42 S47 k40 k42 k47 rd_T40 rd_T42 rd_T47 at_T40 at_T42 at_T47)
def fitX (t : List S40) (N : Nat) (a b : Int) (v : Bool) (x y : S40) : Bool :=
 if (decide (y.f0 = 8) && opnF t v N a b) = true then true
 else if v = true then decide (x.f0 ≠ 0) && (decide (x.f0 ≠ 5) && (decide (x.f0 ≠ 6) && (sameT t a b || (decide (x.f0 = 9) && extT t a b))))
 else decide (x.f0 ≠ 8) && (decide (x.f0 ≠ 6) && asgT t a b)
def fitT (t : List S40) (N : Nat) (a b : Int) (v : Bool) : Bool := fitX t N a b v (rd_T40 t a) (rd_T40 t b)
def HeldE (q : Nat) (b : Int) (ax ay : Addr) (x y : S40) (A6 : Option Addr) (c6 : Nat) (A7 : Option Addr) (c7 : Nat) (B6 : Option Addr) (d6 : Nat) (B7 : Option Addr) (d7 : Nat) (w : World) : Prop :=
 HeldD ax ay x y A6 c6 A7 c7 B6 d6 B7 d7 w ∧ w.cell? ⟨q, 1, none⟩ = some (.int .i64 b)
theorem HeldE.on {q : Nat} {b : Int} {ax ay : Addr} {x y : S40} {A6 : Option Addr} {c6 : Nat} {A7 : Option Addr} {c7 : Nat} {B6 : Option Addr} {d6 : Nat} {B7 : Option Addr} {d7 : Nat} {w w2 : World}
 (h : HeldE q b ax ay x y A6 c6 A7 c7 B6 d6 B7 d7 w) (hb : Below w.heap.size w w2) : HeldE q b ax ay x y A6 c6 A7 c7 B6 d6 B7 d7 w2 := ⟨h.1.on hb, (hb.cell (World.block_lt_of_cell? w _ h.2)).trans h.2⟩
set_option maxHeartbeats 16000000 in
set_option maxRecDepth 100000 in
theorem Fits_calls {w0 : World} {A : Option Addr} {c : Nat} {t : List S40} (hC0 : Kd.C k40 w0 A t.length t) (hc : t.length ≤ c) (hpm : Parms t) (hg : GoodR t) (N : Nat) (hN : ∀ a, InT t a → Deep (insP t) N a) (a b : Int) (v : Bool) (ha : InT t a) (hb : InT t b) :
 Calls Try.prog 51 #[.slice A t.length c, .int .i64 a, .agg #[.bool v, .int .i64 b]] w0 fun e w' => e = .returned (.bool (fitT t N a b v)) ∧ Below w0.heap.size w0 w' := by
 obtain ⟨w, hw⟩ : ∃ w, w = w0.alloc (.cells #[.bool v, .int .i64 b] 47) := ⟨_, rfl⟩
 have HW0 : Aside0 (Below w0.heap.size w0 w) := ⟨by rw [hw]; exact below_alloc (Below.refl _ _) _⟩
 have hk : w.heap[w0.heap.size]? = some (.cells #[.bool v, .int .i64 b] 47 (0, 0)) := by rw [hw]; exact heap_alloc_new _ _
 have Q5 : Aside0 (∀ W, Below w.heap.size w W → W.cell? ⟨w0.heap.size, 0, none⟩ = some (.bool v) ∧ W.cell? ⟨w0.heap.size, 1, none⟩ = some (.int .i64 b)) := ⟨fun W h => by
  have e := (h.block _ (blk_lt hk)).trans hk
  exact ⟨by rw [cell_of_row W _ _ _ _ _ e]; rfl, by rw [cell_of_row W _ _ _ _ _ e]; rfl⟩⟩
 have hC := Kd.C_below hC0 HW0.out
 have hdb := Aside0.mk (hN b hb)
 clear hC0 hk hN
 have HI := Aside0.mk (gd_inner hg)
 have HC := Aside0.mk hC
 have HG := Aside0.mk hg
 have HP := Aside0.mk hpm
 have HA := Aside0.mk ha
 have HBI := Aside0.mk hb
 obtain ⟨ha0, ha1⟩ := ha
 obtain ⟨hb0, hb1⟩ := hb
 obtain ⟨ad, A6, c6, A7, c7, hA, p0, p1, p2, p3, p4, p5, p6, p7, p8, p9, l6, C6, l7, C7⟩ := at_T40 hC a ha0 ha1
 subst hA
 obtain ⟨ad', B6, d6, B7, d7, hA, q0, q1, q2, q3, q4, q5, q6, q7, q8, q9, m6, D6, m7, D7⟩ := at_T40 hC b hb0 hb1
 cases hA
 have HX0 := Aside0.mk (CellsX.mk p0 p1 p2 p3 p4 p5 p6 p7 p8 p9)
 have HY0 := Aside0.mk (CellsX.mk q0 q1 q2 q3 q4 q5 q6 q7 q8 q9)
 have hE7 := Aside0.mk (fun h => (gd_arr hg ⟨hb0, hb1⟩ h).1)
 have hEA := Aside0.mk (HI.out.elem a ⟨ha0, ha1⟩)
 have hEB := Aside0.mk (HI.out.elem b ⟨hb0, hb1⟩)
 clear p0 p1 p2 p3 p4 p5 p6 p7 p8 p9 q0 q1 q2 q3 q4 q5 q6 q7 q8 q9 hC hg hpm C6 C7 D6 D7 l6 m6 l7 m7
 have hSX : Aside0 (fitT t N a b v = fitX t N a b v (rd_T40 t a) (rd_T40 t b)) := ⟨rfl⟩
 have hOp := Aside0.mk (fun (h8 : (rd_T40 t b).f0 = 8) (W : World) (h : Below w.heap.size w W) => opens_calls hc HP.out HG.out v N a b W (Kd.C_below HC.out h) HA.out HBI.out h8 hdb.out)
 have HS := Aside0.mk (fun (W : World) (h : Below w.heap.size w W) => Same_calls (Kd.C_below HC.out h) hc HP.out HI.out a b HA.out HBI.out)
 have HE := Aside0.mk (fun (W : World) (h : Below w.heap.size w W) => Extends_calls (Kd.C_below HC.out h) hc HP.out HG.out a b HA.out HBI.out)
 have HAs := Aside0.mk (fun (W : World) (h : Below w.heap.size w W) => Assign_calls (Kd.C_below HC.out h) hc HP.out HG.out a b HA.out HBI.out)
 generalize rd_T40 t a = x at hSX hEA HX0
 generalize rd_T40 t b = y at hSX hEB hE7 HY0 hOp
 clear hEA hEB hE7
 go_enter Try.func51, Try.ntmps51
 go_upto_region 1 with fail
 rw [← hw]
 clear hw
 have HWd : Aside0 (Below w.heap.size w w.drew) := ⟨below_drew (Below.refl _ _)⟩
 have HT : Aside0 (HeldE w0.heap.size b (ad.add (a.toNat * 10)) (ad.add (b.toNat * 10)) x y A6 c6 A7 c7 B6 d6 B7 d7 w.drew) := ⟨⟨HX0.out.on HWd.out, HY0.out.on HWd.out⟩, (Q5.out _ HWd.out).2⟩
 refine start_ (n := 13) (S := HeldE w0.heap.size b (ad.add (a.toNat * 10)) (ad.add (b.toNat * 10)) x y A6 c6 A7 c7 B6 d6 B7 d7) (ds := [12]) #[false, false, false, false, false, false, false, false, false, false, false, false, false] (by kernel_rfl) rfl rfl (HT.out) (fun hHeld => ?_)
 generalize w.drew = wa at HWd HT hHeld ⊢
 refine pure_ (i := 0) (N := some 9) (v := ?_) (a' := ?_) #[true, false, false, false, false, false, false, false, false, false, false, false, false] rfl rfl (by kernel_rfl) (fun _ _ _ h => h) (Or.inl ⟨by rfl, ?_⟩) ?_ ?_
 rotate_left
 · intro w'; go_simp; try with_reducible rfl
 rotate_left
 · simp only [Act.put, List.setIfInBounds_toArray, List.set_cons_zero, List.set_cons_succ]; rfl
 refine pure_ (i := 1) (N := some 10) (v := ?_) (a' := ?_) #[true, true, false, false, false, false, false, false, false, false, false, false, false] rfl rfl (by kernel_rfl) (fun _ _ _ h => h) (Or.inl ⟨by rfl, ?_⟩) ?_ ?_
 rotate_left
 · intro w'; go_simp; try with_reducible rfl
 rotate_left
 · simp only [Act.put, List.setIfInBounds_toArray, List.set_cons_zero, List.set_cons_succ]; rfl
 refine take_ (i := 2) (N := some 11) (v := ?_) (a' := ?_) #[true, true, true, false, false, false, false, false, false, false, false, false, false] rfl rfl (by kernel_rfl) (fun _ _ _ h => h) (Or.inl ⟨by rfl, ?_⟩) hHeld ?_ ?_
 rotate_left
 · intro w' hSw; obtain ⟨⟨⟨p0, p1, p2, p3, p4, p5, p6, p7, p8, p9⟩, ⟨q0, q1, q2, q3, q4, q5, q6, q7, q8, q9⟩⟩, k1⟩ := hSw; go_simp; try with_reducible rfl
 rotate_left
 · simp only [Act.put, List.setIfInBounds_toArray, List.set_cons_zero, List.set_cons_succ]; rfl
 refine take_ (i := 3) (N := some 12) (v := ?_) (a' := ?_) #[true, true, true, true, false, false, false, false, false, false, false, false, false] rfl rfl (by kernel_rfl) (fun _ _ _ h => h) (Or.inl ⟨by rfl, ?_⟩) hHeld ?_ ?_
 rotate_left
 · intro w' hSw; obtain ⟨⟨⟨p0, p1, p2, p3, p4, p5, p6, p7, p8, p9⟩, ⟨q0, q1, q2, q3, q4, q5, q6, q7, q8, q9⟩⟩, k1⟩ := hSw; go_simp; try with_reducible rfl
 rotate_left
 · simp only [Act.put, List.setIfInBounds_toArray, List.set_cons_zero, List.set_cons_succ]; rfl
 refine pure_ (i := 4) (N := some 13) (v := ?_) (a' := ?_) #[true, true, true, true, true, false, false, false, false, false, false, false, false] rfl rfl (by kernel_rfl) (fun _ _ _ h => h) (Or.inl ⟨by rfl, ?_⟩) ?_ ?_
 rotate_left
 · intro w'; go_simp; try with_reducible rfl
 rotate_left
 · simp only [Act.put, List.setIfInBounds_toArray, List.set_cons_zero, List.set_cons_succ]; rfl
 refine pure_ (i := 5) (N := some 14) (v := ?_) (a' := ?_) #[true, true, true, true, true, true, false, false, false, false, false, false, false] rfl rfl (by kernel_rfl) (fun _ _ _ h => h) (Or.inl ⟨by rfl, ?_⟩) ?_ ?_
 rotate_left
 · intro w'; go_simp; try with_reducible rfl
 rotate_left
 · simp only [Act.put, List.setIfInBounds_toArray, List.set_cons_zero, List.set_cons_succ]; rfl
 refine take_ (i := 6) (N := some 15) (v := ?_) (a' := ?_) #[true, true, true, true, true, true, true, false, false, false, false, false, false] rfl rfl (by kernel_rfl) (fun _ _ _ h => h) (Or.inl ⟨by rfl, ?_⟩) hHeld ?_ ?_
 rotate_left
 · intro w' hSw; obtain ⟨⟨⟨p0, p1, p2, p3, p4, p5, p6, p7, p8, p9⟩, ⟨q0, q1, q2, q3, q4, q5, q6, q7, q8, q9⟩⟩, k1⟩ := hSw; go_simp; try with_reducible rfl
 rotate_left
 · simp only [Act.put, List.setIfInBounds_toArray, List.set_cons_zero, List.set_cons_succ]; rfl
 refine take_ (i := 7) (N := some 16) (v := ?_) (a' := ?_) #[true, true, true, true, true, true, true, true, false, false, false, false, false] rfl rfl (by kernel_rfl) (fun _ _ _ h => h) (Or.inl ⟨by rfl, ?_⟩) hHeld ?_ ?_
 rotate_left
 · intro w' hSw; obtain ⟨⟨⟨p0, p1, p2, p3, p4, p5, p6, p7, p8, p9⟩, ⟨q0, q1, q2, q3, q4, q5, q6, q7, q8, q9⟩⟩, k1⟩ := hSw; go_simp; try with_reducible rfl
 rotate_left
 · simp only [Act.put, List.setIfInBounds_toArray, List.set_cons_zero, List.set_cons_succ]; rfl
 refine take_ (i := 8) (N := some 17) (v := ?_) (a' := ?_) #[true, true, true, true, true, true, true, true, true, false, false, false, false] rfl rfl (by kernel_rfl) (fun _ _ _ h => h) (Or.inl ⟨by rfl, ?_⟩) hHeld ?_ ?_
 rotate_left
 · intro w' hSw; obtain ⟨⟨⟨p0, p1, p2, p3, p4, p5, p6, p7, p8, p9⟩, ⟨q0, q1, q2, q3, q4, q5, q6, q7, q8, q9⟩⟩, k1⟩ := hSw; go_simp; try with_reducible rfl
 rotate_left
 · simp only [Act.put, List.setIfInBounds_toArray, List.set_cons_zero, List.set_cons_succ]; rfl
 refine join_ (σ := Nat × Nat) 2 #[true, true, true, true, true, true, true, true, true, true, true, false, false] (fun s => [(7, .pointer (some ⟨s.1, 0, none⟩)), (8, .pointer (some ⟨s.2, 0, none⟩))]) (fun s w4 => DB w s.1 s.2 zeroX zeroX w4) ?_ (fun hJ => ?_)
 rotate_left
 ·
  skip
  refine two_ (i := 9) (j := 10) (Ni := some 7) (Nj := some 8) #[true, true, true, true, true, true, true, true, true, true, false, false, false] #[true, true, true, true, true, true, true, true, true, false, true, false, false] rfl rfl rfl rfl (by kernel_rfl) (by decide) (by decide) (fun K hK => ?_) (fun K hK => ?_)
  ·
   skip
   rw [if_pos (by rfl)]
   go_simp
   refine hK.out _ _ (HT.out.on (below_alloc (Below.refl _ _) _)) (fun hHeld => ?_)
   clear hK K
   refine norm_ (a' := ?_) ?_ ?_
   rotate_left
   · first | (simp only [Act.put, List.setIfInBounds_toArray, List.set_cons_zero, List.set_cons_succ]; rfl) | rfl
   refine one_ (i := 10) (N := some 8) #[true, true, true, true, true, true, true, true, true, true, true, false, false] rfl rfl (by kernel_rfl) (by decide) (fun K hK => ?_)
   rw [if_pos (by rfl)]
   go_simp
   refine hK.out _ _ (HT.out.on (below_alloc (below_alloc (Below.refl _ _) _) _)) (fun hHeld => ?_)
   clear hK K
   refine norm_ (a' := ?_) ?_ ?_
   rotate_left
   · first | (simp only [Act.put, List.setIfInBounds_toArray, List.set_cons_zero, List.set_cons_succ]; rfl) | rfl
   exact hJ (wa.heap.size, wa.heap.size + 1) _ (DB.made HWd.out true)
  ·
   skip
   rw [if_pos (by rfl)]
   go_simp
   refine hK.out _ _ (HT.out.on (below_alloc (Below.refl _ _) _)) (fun hHeld => ?_)
   clear hK K
   refine norm_ (a' := ?_) ?_ ?_
   rotate_left
   · first | (simp only [Act.put, List.setIfInBounds_toArray, List.set_cons_zero, List.set_cons_succ]; rfl) | rfl
   refine one_ (i := 9) (N := some 7) #[true, true, true, true, true, true, true, true, true, true, true, false, false] rfl rfl (by kernel_rfl) (by decide) (fun K hK => ?_)
   rw [if_pos (by rfl)]
   go_simp
   refine hK.out _ _ (HT.out.on (below_alloc (below_alloc (Below.refl _ _) _) _)) (fun hHeld => ?_)
   clear hK K
   refine norm_ (a' := ?_) ?_ ?_
   rotate_left
   · first | (simp only [Act.put, List.setIfInBounds_toArray, List.set_cons_zero, List.set_cons_succ]; rfl) | rfl
   exact hJ (wa.heap.size + 1, wa.heap.size) _ (DB.made HWd.out false)
 rintro ⟨bx, b_y⟩ w4 H5
 dsimp only at H5
 refine norm_ (a' := ?_) ?_ ?_
 rotate_left
 · simp only [putAll, Act.put, List.setIfInBounds_toArray, List.set_cons_zero, List.set_cons_succ]; rfl
 have H6 := H5.putx (rowX x A6 c6 A7 c7) (by simp [zeroX, rowX])
 have hst := run_store_run (P := Try.prog) (o := 0) 40 (.agg #[.int .i64 x.f0, .string x.f1, .string x.f2, .int .i64 x.f3, .int .i64 x.f4, .int .i64 x.f5, .slice A6 x.f6.length c6, .slice A7 x.f7.length c7, .int .i64 x.f8, .int .i64 x.f9]) (rowX x A6 c6 A7 c7) H5.x rfl (by kernel_rfl) (by simp [zeroX, rowX]) (by intro q hq; simp [rowX] at hq; rcases hq with h | h | h | h | h | h | h | h | h | h <;> subst h <;> rfl)
 refine one_ (i := 11) (N := none) #[true, true, true, true, true, true, true, true, true, true, true, true, false] rfl rfl (by kernel_rfl) (by decide) (fun K hK => ?_)
 refine storeStep (by rfl) rfl rfl rfl rfl hst ?_; clear hst
 refine hK.out _ _ ⟨H6.held HX0.out HY0.out, (Q5.out _ H6.below).2⟩ (fun hHeld => ?_)
 clear hK K hHeld H5
 generalize (World.setCells _ _ _ _) = w5 at H6 ⊢
 have hst := run_store_run (P := Try.prog) (o := 0) 40 (.agg #[.int .i64 y.f0, .string y.f1, .string y.f2, .int .i64 y.f3, .int .i64 y.f4, .int .i64 y.f5, .slice B6 y.f6.length d6, .slice B7 y.f7.length d7, .int .i64 y.f8, .int .i64 y.f9]) (rowX y B6 d6 B7 d7) H6.y rfl (by kernel_rfl) (by simp [zeroX, rowX]) (by intro q hq; simp [rowX] at hq; rcases hq with h | h | h | h | h | h | h | h | h | h <;> subst h <;> rfl)
 refine last_ (i := 12) (N := none) #[true, true, true, true, true, true, true, true, true, true, true, true, true] rfl rfl (by kernel_rfl) (by decide) (fun K hK => ?_)
 refine storeStep (by rfl) rfl rfl rfl rfl hst ?_; clear hst
 refine hK.out _ _ ?_
 clear hK K
 have H7 := H6.puty (rowX y B6 d6 B7 d7) (by simp [zeroX, rowX])
 generalize (World.setCells _ _ _ _) = wx at H7 ⊢
 refine done_ (by kernel_rfl) ?_
 have HB := Aside0.mk H7
 clear H6 H7 HT HWd
 have x0 : wx.cell? ⟨bx, 0, none⟩ = some (.int .i64 x.f0) := HB.out.cx 0 _ rfl
 have y0 : wx.cell? ⟨b_y, 0, none⟩ = some (.int .i64 y.f0) := HB.out.cy 0 _ rfl
 have k5 := Q5.out wx HB.out.below
 obtain ⟨k50, k51⟩ := k5
 go_upto_region 2 with fail
 go_cut [29] (fun s29 wr => s29 = .bool (decide (y.f0 = 8) && opnF t v N a b) ∧ DB w bx b_y (rowX x A6 c6 A7 c7).toArray (rowX y B6 d6 B7 d7).toArray wr)
 case first =>
  by_cases y8 : y.f0 = 8
  ·
   have n8 : (y.f0 == 8) = true := by simp [y8]
   replace y8 := Aside0.mk y8
   as_aux_lemma =>
    go_wp2_with (first | (go_at_call 66; refine (hOp.out y8.out _ HB.out.below).mono ?_; rintro e w4 ⟨rfl, hb4⟩; have HB4 := Aside0.mk (HB.out.on hb4); clear hb4))
    go_meet
    case rel => exact ⟨by simp [y8.out], HB4.out⟩
  ·
   have n8 : (y.f0 == 8) = false := by simp [y8]
   replace y8 := Aside0.mk y8
   as_aux_lemma =>
    go_wp2
    go_meet
    case rel => exact ⟨by simp [y8.out], HB.out⟩
 case rest =>
  clear x0 y0 k50 k51 hOp
  obtain ⟨rfl, H8⟩ := hcut
  replace HB := Aside0.mk H8
  clear H8
  have x0 : wc.cell? ⟨bx, 0, none⟩ = some (.int .i64 x.f0) := HB.out.cx 0 _ rfl
  have y0 : wc.cell? ⟨b_y, 0, none⟩ = some (.int .i64 y.f0) := HB.out.cy 0 _ rfl
  have k5 := Q5.out wc HB.out.below
  obtain ⟨k50, k51⟩ := k5
  cases ho : (decide (y.f0 = 8) && opnF t v N a b) with
  | true =>
   replace ho := Aside0.mk ho
   have R : Aside0 (fitT t N a b v = true) := ⟨by rw [hSX.out]; simp [fitX, ho.out]⟩
   as_aux_lemma =>
    go_wp2
    go_ret
    rw [R.out]
    exact ⟨rfl, HW0.out.trans (HB.out.below.mono HW0.out.size)⟩
  | false =>
   replace ho := Aside0.mk ho
   cases v with
   | true =>
    by_cases f0 : x.f0 = 0
    ·
     have m0 : (x.f0 != 0) = false := by simp [f0]
     replace f0 := Aside0.mk f0
     have R : Aside0 (fitT t N a b true = false) := ⟨by rw [hSX.out]; simp [fitX, ho.out, f0.out]⟩
     as_aux_lemma =>
      go_wp2
      go_ret
      rw [R.out]
      exact ⟨rfl, HW0.out.trans (HB.out.below.mono HW0.out.size)⟩
    ·
     have m0 : (x.f0 != 0) = true := by simp [f0]
     replace f0 := Aside0.mk f0
     by_cases f5 : x.f0 = 5
     ·
      have m5 : (x.f0 != 5) = false := by simp [f5]
      replace f5 := Aside0.mk f5
      have R : Aside0 (fitT t N a b true = false) := ⟨by rw [hSX.out]; simp [fitX, ho.out, f0.out, f5.out]⟩
      as_aux_lemma =>
       go_wp2
       go_ret
       rw [R.out]
       exact ⟨rfl, HW0.out.trans (HB.out.below.mono HW0.out.size)⟩
     ·
      have m5 : (x.f0 != 5) = true := by simp [f5]
      replace f5 := Aside0.mk f5
      by_cases f6 : x.f0 = 6
      ·
       have m6 : (x.f0 != 6) = false := by simp [f6]
       replace f6 := Aside0.mk f6
       have R : Aside0 (fitT t N a b true = false) := ⟨by rw [hSX.out]; simp [fitX, ho.out, f0.out, f5.out, f6.out]⟩
       as_aux_lemma =>
        go_wp2
        go_ret
        rw [R.out]
        exact ⟨rfl, HW0.out.trans (HB.out.below.mono HW0.out.size)⟩
      ·
       have m6 : (x.f0 != 6) = true := by simp [f6]
       replace f6 := Aside0.mk f6
       cases hs : sameT t a b with
       | true =>
        rw [hs] at HS
        replace hs := Aside0.mk hs
        have R : Aside0 (fitT t N a b true = true) := ⟨by rw [hSX.out]; simp [fitX, ho.out, f0.out, f5.out, f6.out, hs.out]⟩
        as_aux_lemma =>
         go_wp2_with (first | (go_at_call 47; refine (HS.out _ HB.out.below).mono ?_; rintro e w4 ⟨rfl, hb4⟩; have HB4 := Aside0.mk (HB.out.on hb4); clear hb4; have x0b : w4.cell? ⟨bx, 0, none⟩ = some (.int .i64 x.f0) := HB4.out.cx 0 _ rfl; have k5 := Q5.out w4 HB4.out.below; obtain ⟨z0, z1⟩ := k5))
         go_ret
         rw [R.out]
         exact ⟨rfl, HW0.out.trans (HB4.out.below.mono HW0.out.size)⟩
       | false =>
        rw [hs] at HS
        replace hs := Aside0.mk hs
        by_cases f9 : x.f0 = 9
        ·
         have m9 : (x.f0 == 9) = true := by simp [f9]
         replace f9 := Aside0.mk f9
         have R : Aside0 (fitT t N a b true = extT t a b) := ⟨by rw [hSX.out]; simp [fitX, ho.out, f0.out, f5.out, f6.out, hs.out, f9.out]⟩
         as_aux_lemma =>
          go_wp2_with (first | (go_at_call 47; refine (HS.out _ HB.out.below).mono ?_; rintro e w4 ⟨rfl, hb4⟩; have HB4 := Aside0.mk (HB.out.on hb4); clear hb4; have x0b : w4.cell? ⟨bx, 0, none⟩ = some (.int .i64 x.f0) := HB4.out.cx 0 _ rfl; have k5 := Q5.out w4 HB4.out.below; obtain ⟨z0, z1⟩ := k5) | (go_at_call 48; refine (HE.out _ HB4.out.below).mono ?_; rintro e w5 ⟨rfl, hb5⟩; have HB5 := Aside0.mk (HB4.out.on hb5); clear hb5))
          go_ret
          rw [R.out]
          exact ⟨rfl, HW0.out.trans (HB5.out.below.mono HW0.out.size)⟩
        ·
         have m9 : (x.f0 == 9) = false := by simp [f9]
         replace f9 := Aside0.mk f9
         have R : Aside0 (fitT t N a b true = false) := ⟨by rw [hSX.out]; simp [fitX, ho.out, f0.out, f5.out, f6.out, hs.out, f9.out]⟩
         as_aux_lemma =>
          go_wp2_with (first | (go_at_call 47; refine (HS.out _ HB.out.below).mono ?_; rintro e w4 ⟨rfl, hb4⟩; have HB4 := Aside0.mk (HB.out.on hb4); clear hb4; have x0b : w4.cell? ⟨bx, 0, none⟩ = some (.int .i64 x.f0) := HB4.out.cx 0 _ rfl; have k5 := Q5.out w4 HB4.out.below; obtain ⟨z0, z1⟩ := k5))
          go_ret
          rw [R.out]
          exact ⟨rfl, HW0.out.trans (HB4.out.below.mono HW0.out.size)⟩
   | false =>
    by_cases f8 : x.f0 = 8
    ·
     have m8 : (x.f0 != 8) = false := by simp [f8]
     replace f8 := Aside0.mk f8
     have R : Aside0 (fitT t N a b false = false) := ⟨by rw [hSX.out]; simp [fitX, ho.out, f8.out]⟩
     as_aux_lemma =>
      go_wp2
      go_ret
      rw [R.out]
      exact ⟨rfl, HW0.out.trans (HB.out.below.mono HW0.out.size)⟩
    ·
     have m8 : (x.f0 != 8) = true := by simp [f8]
     replace f8 := Aside0.mk f8
     by_cases f6 : x.f0 = 6
     ·
      have m6 : (x.f0 != 6) = false := by simp [f6]
      replace f6 := Aside0.mk f6
      have R : Aside0 (fitT t N a b false = false) := ⟨by rw [hSX.out]; simp [fitX, ho.out, f8.out, f6.out]⟩
      as_aux_lemma =>
       go_wp2
       go_ret
       rw [R.out]
       exact ⟨rfl, HW0.out.trans (HB.out.below.mono HW0.out.size)⟩
     ·
      have m6 : (x.f0 != 6) = true := by simp [f6]
      replace f6 := Aside0.mk f6
      have R : Aside0 (fitT t N a b false = asgT t a b) := ⟨by rw [hSX.out]; simp [fitX, ho.out, f8.out, f6.out]⟩
      as_aux_lemma =>
       go_wp2_with (first | (go_at_call 49; refine (HAs.out _ HB.out.below).mono ?_; rintro e w4 ⟨rfl, hb4⟩; have HB4 := Aside0.mk (HB.out.on hb4); clear hb4))
       go_ret
       rw [R.out]
       exact ⟨rfl, HW0.out.trans (HB4.out.below.mono HW0.out.size)⟩
end Go.Proofs.Ytgnbemgeiloegaa.Tg
