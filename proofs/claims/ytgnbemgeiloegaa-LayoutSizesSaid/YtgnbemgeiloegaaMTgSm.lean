import Derived.Test.YtgnbemgeiloegaaMTgZ
namespace Go.Proofs.Ytgnbemgeiloegaa.Tg
open Go.RowKit Go.Maps Go.WideMaps
open Go.Proofs.YtgnbemgeiloegaaW.PrintWords Go.Proofs.YtgnbemgeiloegaaW.PrintLast Go.Proofs.YtgnbemgeiloegaaW.PrintMore
set_option linter.unusedVariables false
set_option linter.unusedSimpArgs false
open Go.Proofs.Ytgnbemgeiloegaa.PTypesGoods (S40 S42 S47 k40 k42 k47 rd_T40 rd_T42 rd_T47 at_T40 at_T42 at_T47)
section
variable {ops : Array Oper} {o : Oper} {a : Act} {Q : Exit → Act → World → Prop} {K : Act → World → Prop}
theorem storeStep {W w1 : World} {t : TypeId} {p x : Operand} {pv u : Value} (hw : Region.wanted o (yielded ops a.tmps) = true) (hN : o.dst = none) (ho : o.op = .store t p x) (haddr : a.eval p = pv) (hx : a.eval x = u)
 (hrun : (Instr.storeAt t pv u).run Try.prog W = .ok () w1) (h : K a w1) : if Region.wanted o (yielded ops a.tmps) = true then Oper.wp Try.prog o a W K Q else K (a.put none undef) W := by
 rw [if_pos hw]
 unfold Oper.wp execOp
 simp only [ho, haddr, hx, Sem.run_bind, Sem.run_pure, Result.andThen_ok, hrun]
 show K (a.put o.dst undef) _
 rw [hN]
 exact h
end
section
variable {t : List S40} {w0 : World} {A : Option Addr} {c g n : Nat}
theorem equalR_ok (hI : Inner t) (n : Nat) {p : Prs} {vs us : List S47} (hp : Pok t p) (hv : ∀ v ∈ vs, InT t v.f1) (hu : ∀ v ∈ us, InT t v.f1) : Pok t (equalR (sameF t n) p vs us).2 ∧ p.length ≤ (equalR (sameF t n) p vs us).2.length := by
 unfold equalR
 split
 · exact parsR_ok (sameF_ok hI n) vs us p hp hv hu
 · exact ⟨hp, Nat.le_refl _⟩
set_option maxHeartbeats 16000000 in
set_option maxRecDepth 100000 in
theorem same_succ (hI : Inner t) (hC : Kd.C k40 w0 A t.length t) (hc : t.length ≤ c) (hpm : Parms t) (hgw : w0.heap.size ≤ g) (h : SameAt t w0 A c g n) : SameAt t w0 A c g (n + 1) := by
 intro p a b w hp ha hb hf hw
 have HI := Aside0.mk hI
 have HP := Aside0.mk hp
 have HH := Aside0.mk h
 have HCC := Aside0.mk hC
 obtain ⟨ha0, ha1⟩ := ha
 obtain ⟨hb0, hb1⟩ := hb
 obtain ⟨ad, A6, c6, A7, c7, hA, p0, p1, p2, p3, p4, p5, p6, p7, p8, p9, l6, C6, l7, C7⟩ := at_T40 hC a ha0 ha1
 subst hA
 obtain ⟨ad', B6, d6, B7, d7, hA, q0, q1, q2, q3, q4, q5, q6, q7, q8, q9, m6, D6, m7, D7⟩ := at_T40 hC b hb0 hb1
 cases hA
 have hSX : Aside0 (sameF t (n + 1) p a b = sameX (sameF t n) p a b (rd_T40 t a) (rd_T40 t b)) := ⟨rfl⟩
 have hEA := Aside0.mk (hI.elem a ⟨ha0, ha1⟩)
 have hEB := Aside0.mk (hI.elem b ⟨hb0, hb1⟩)
 have hPA := Aside0.mk (hI.par a ⟨ha0, ha1⟩)
 have hPB := Aside0.mk (hI.par b ⟨hb0, hb1⟩)
 have hX7 := Aside0.mk (hpm _ (rd_in ha0 ha1)).1
 have hC7 := Aside0.mk C7
 have hD7 := Aside0.mk D7
 have hl7 := l7
 have hm7 := m7
 have hL := hI.hi
 have hbase := hw.below.size
 have hng := hw.map.lt
 obtain ⟨wa, hwa⟩ : ∃ wa, wa = ((w.alloc (.cells #[.map (some g)] 76)).alloc (.cells #[.slice (some ad) t.length c] 22)).drew := ⟨_, rfl⟩
 have hba : Below w.heap.size w wa := by rw [hwa]; exact below_drew (below_alloc (below_alloc (Below.refl _ _) _) _)
 have hmA : wa.heap[w.heap.size]? = some (.cells #[.map (some g)] 76 (0, 0)) := by
  rw [hwa]
  show ((w.alloc (.cells #[.map (some g)] 76)).alloc (.cells #[.slice (some ad) t.length c] 22)).heap[w.heap.size]? = _
  rw [Below.heap_alloc _ _ _ (by simp)]
  exact heap_alloc_new _ _
 have hsA : wa.heap[w.heap.size + 1]? = some (.cells #[.slice (some ad) t.length c] 22 (0, 0)) := by
  rw [hwa]
  have := heap_alloc_new (w.alloc (.cells #[.map (some g)] 76)) (.cells #[.slice (some ad) t.length c] 22)
  rw [World.size_alloc] at this
  exact this
 have hWP := Aside0.mk (hw.on hba)
 have HX0 := Aside0.mk (CellsX.mk p0 p1 p2 p3 p4 p5 p6 p7 p8 p9)
 have HY0 := Aside0.mk (CellsX.mk q0 q1 q2 q3 q4 q5 q6 q7 q8 q9)
 have HT0 : HeldT (w.heap.size + 1) (.slice (some ad) t.length c) (ad.add (a.toNat * 10)) (ad.add (b.toNat * 10)) (rd_T40 t a) (rd_T40 t b) A6 c6 A7 c7 B6 d6 B7 d7 wa :=
  ⟨by rw [cell_of_row wa _ _ _ _ _ hsA]; rfl, CellsX.on ⟨p0, p1, p2, p3, p4, p5, p6, p7, p8, p9⟩ hWP.out.below, CellsX.on ⟨q0, q1, q2, q3, q4, q5, q6, q7, q8, q9⟩ hWP.out.below⟩
 have HT := Aside0.mk HT0
 have HMA := Aside0.mk hmA
 have HSA := Aside0.mk hsA
 have HBA := Aside0.mk hba
 clear p0 p1 p2 p3 p4 p5 p6 p7 p8 p9 q0 q1 q2 q3 q4 q5 q6 q7 q8 q9 hI hp h hC hw hpm C6 C7 D6 D7 l6 m6 HT0 hmA hsA hba
 generalize rd_T40 t a = x at hSX hEA hPA hX7 hC7 HT l7 hl7 HX0
 generalize rd_T40 t b = y at hSX hEB hPB hD7 HT m7 hm7 HY0
 go_enter Try.func65, Try.ntmps65
 go_upto_region 1 with fail
 have hHT := HT.out
 refine start_ (n := 12) (S := HeldT (w.heap.size + 1) (.slice (some ad) t.length c) (ad.add (a.toNat * 10)) (ad.add (b.toNat * 10)) x y A6 c6 A7 c7 B6 d6 B7 d7) (ds := [11]) #[false, false, false, false, false, false, false, false, false, false, false, false] (by kernel_rfl) rfl rfl (by rw [← hwa]; exact HT.out) (fun hHeld => ?_)
 rw [← hwa] at hHeld ⊢
 clear hHT hwa
 refine take_ (i := 0) (N := some 11) (v := ?_) (a' := ?_) #[true, false, false, false, false, false, false, false, false, false, false, false] rfl rfl (by kernel_rfl) (fun _ _ _ h => h) (Or.inl ⟨by rfl, ?_⟩) hHeld ?_ ?_
 rotate_left
 · intro w' hSw; obtain ⟨s0, ⟨p0, p1, p2, p3, p4, p5, p6, p7, p8, p9⟩, ⟨q0, q1, q2, q3, q4, q5, q6, q7, q8, q9⟩⟩ := hSw; go_simp; try with_reducible rfl
 rotate_left
 · simp only [Act.put, List.setIfInBounds_toArray, List.set_cons_zero, List.set_cons_succ]; rfl
 refine pure_ (i := 1) (N := some 12) (v := ?_) (a' := ?_) #[true, true, false, false, false, false, false, false, false, false, false, false] rfl rfl (by kernel_rfl) (fun _ _ _ h => h) (Or.inl ⟨by rfl, ?_⟩) ?_ ?_
 rotate_left
 · intro w'; go_simp; try with_reducible rfl
 rotate_left
 · simp only [Act.put, List.setIfInBounds_toArray, List.set_cons_zero, List.set_cons_succ]; rfl
 refine take_ (i := 2) (N := some 13) (v := ?_) (a' := ?_) #[true, true, true, false, false, false, false, false, false, false, false, false] rfl rfl (by kernel_rfl) (fun _ _ _ h => h) (Or.inl ⟨by rfl, ?_⟩) hHeld ?_ ?_
 rotate_left
 · intro w' hSw; obtain ⟨s0, ⟨p0, p1, p2, p3, p4, p5, p6, p7, p8, p9⟩, ⟨q0, q1, q2, q3, q4, q5, q6, q7, q8, q9⟩⟩ := hSw; go_simp; try with_reducible rfl
 rotate_left
 · simp only [Act.put, List.setIfInBounds_toArray, List.set_cons_zero, List.set_cons_succ]; rfl
 refine take_ (i := 3) (N := some 14) (v := ?_) (a' := ?_) #[true, true, true, true, false, false, false, false, false, false, false, false] rfl rfl (by kernel_rfl) (fun _ _ _ h => h) (Or.inl ⟨by rfl, ?_⟩) hHeld ?_ ?_
 rotate_left
 · intro w' hSw; obtain ⟨s0, ⟨p0, p1, p2, p3, p4, p5, p6, p7, p8, p9⟩, ⟨q0, q1, q2, q3, q4, q5, q6, q7, q8, q9⟩⟩ := hSw; go_simp; try with_reducible rfl
 rotate_left
 · simp only [Act.put, List.setIfInBounds_toArray, List.set_cons_zero, List.set_cons_succ]; rfl
 refine take_ (i := 4) (N := some 15) (v := ?_) (a' := ?_) #[true, true, true, true, true, false, false, false, false, false, false, false] rfl rfl (by kernel_rfl) (fun _ _ _ h => h) (Or.inl ⟨by rfl, ?_⟩) hHeld ?_ ?_
 rotate_left
 · intro w' hSw; obtain ⟨s0, ⟨p0, p1, p2, p3, p4, p5, p6, p7, p8, p9⟩, ⟨q0, q1, q2, q3, q4, q5, q6, q7, q8, q9⟩⟩ := hSw; go_simp; try with_reducible rfl
 rotate_left
 · simp only [Act.put, List.setIfInBounds_toArray, List.set_cons_zero, List.set_cons_succ]; rfl
 refine pure_ (i := 5) (N := some 16) (v := ?_) (a' := ?_) #[true, true, true, true, true, true, false, false, false, false, false, false] rfl rfl (by kernel_rfl) (fun _ _ _ h => h) (Or.inl ⟨by rfl, ?_⟩) ?_ ?_
 rotate_left
 · intro w'; go_simp; try with_reducible rfl
 rotate_left
 · simp only [Act.put, List.setIfInBounds_toArray, List.set_cons_zero, List.set_cons_succ]; rfl
 refine take_ (i := 6) (N := some 17) (v := ?_) (a' := ?_) #[true, true, true, true, true, true, true, false, false, false, false, false] rfl rfl (by kernel_rfl) (fun _ _ _ h => h) (Or.inl ⟨by rfl, ?_⟩) hHeld ?_ ?_
 rotate_left
 · intro w' hSw; obtain ⟨s0, ⟨p0, p1, p2, p3, p4, p5, p6, p7, p8, p9⟩, ⟨q0, q1, q2, q3, q4, q5, q6, q7, q8, q9⟩⟩ := hSw; go_simp; try with_reducible rfl
 rotate_left
 · simp only [Act.put, List.setIfInBounds_toArray, List.set_cons_zero, List.set_cons_succ]; rfl
 refine take_ (i := 7) (N := some 18) (v := ?_) (a' := ?_) #[true, true, true, true, true, true, true, true, false, false, false, false] rfl rfl (by kernel_rfl) (fun _ _ _ h => h) (Or.inl ⟨by rfl, ?_⟩) hHeld ?_ ?_
 rotate_left
 · intro w' hSw; obtain ⟨s0, ⟨p0, p1, p2, p3, p4, p5, p6, p7, p8, p9⟩, ⟨q0, q1, q2, q3, q4, q5, q6, q7, q8, q9⟩⟩ := hSw; go_simp; try with_reducible rfl
 rotate_left
 · simp only [Act.put, List.setIfInBounds_toArray, List.set_cons_zero, List.set_cons_succ]; rfl
 refine join_ (σ := Nat × Nat) 2 #[true, true, true, true, true, true, true, true, true, true, false, false] (fun s => [(9, .pointer (some ⟨s.1, 0, none⟩)), (10, .pointer (some ⟨s.2, 0, none⟩))]) (fun s w4 => TB w0 w g (.slice (some ad) t.length c) s.1 s.2 zeroX zeroX p w4) ?_ (fun hJ => ?_)
 rotate_left
 ·
  skip
  refine two_ (i := 8) (j := 9) (Ni := some 9) (Nj := some 10) #[true, true, true, true, true, true, true, true, true, false, false, false] #[true, true, true, true, true, true, true, true, false, true, false, false] rfl rfl rfl rfl (by kernel_rfl) (by decide) (by decide) (fun K hK => ?_) (fun K hK => ?_)
  ·
   skip
   rw [if_pos (by rfl)]
   go_simp
   refine hK.out _ _ (HT.out.on (below_alloc (Below.refl _ _) _)) (fun hHeld => ?_)
   clear hK K
   refine norm_ (a' := ?_) ?_ ?_
   rotate_left
   · first | (simp only [Act.put, List.setIfInBounds_toArray, List.set_cons_zero, List.set_cons_succ]; rfl) | rfl
   refine one_ (i := 9) (N := some 10) #[true, true, true, true, true, true, true, true, true, true, false, false] rfl rfl (by kernel_rfl) (by decide) (fun K hK => ?_)
   rw [if_pos (by rfl)]
   go_simp
   refine hK.out _ _ (HT.out.on (below_alloc (below_alloc (Below.refl _ _) _) _)) (fun hHeld => ?_)
   clear hK K
   refine norm_ (a' := ?_) ?_ ?_
   rotate_left
   · first | (simp only [Act.put, List.setIfInBounds_toArray, List.set_cons_zero, List.set_cons_succ]; rfl) | rfl
   exact hJ (wa.heap.size, wa.heap.size + 1) _ (TB.made HMA.out HSA.out hWP.out (KeepBut.of_below HBA.out g none) hng hbase HBA.out.size true)
  ·
   skip
   rw [if_pos (by rfl)]
   go_simp
   refine hK.out _ _ (HT.out.on (below_alloc (Below.refl _ _) _)) (fun hHeld => ?_)
   clear hK K
   refine norm_ (a' := ?_) ?_ ?_
   rotate_left
   · first | (simp only [Act.put, List.setIfInBounds_toArray, List.set_cons_zero, List.set_cons_succ]; rfl) | rfl
   refine one_ (i := 8) (N := some 9) #[true, true, true, true, true, true, true, true, true, true, false, false] rfl rfl (by kernel_rfl) (by decide) (fun K hK => ?_)
   rw [if_pos (by rfl)]
   go_simp
   refine hK.out _ _ (HT.out.on (below_alloc (below_alloc (Below.refl _ _) _) _)) (fun hHeld => ?_)
   clear hK K
   refine norm_ (a' := ?_) ?_ ?_
   rotate_left
   · first | (simp only [Act.put, List.setIfInBounds_toArray, List.set_cons_zero, List.set_cons_succ]; rfl) | rfl
   exact hJ (wa.heap.size + 1, wa.heap.size) _ (TB.made HMA.out HSA.out hWP.out (KeepBut.of_below HBA.out g none) hng hbase HBA.out.size false)
 rintro ⟨bx, b_y⟩ w4 H5
 dsimp only at H5
 refine norm_ (a' := ?_) ?_ ?_
 rotate_left
 · simp only [putAll, Act.put, List.setIfInBounds_toArray, List.set_cons_zero, List.set_cons_succ]; rfl
 have H6 := H5.putx (rowX x A6 c6 A7 c7) (by simp [zeroX, rowX])
 have hst := run_store_run (P := Try.prog) (o := 0) 40 (.agg #[.int .i64 x.f0, .string x.f1, .string x.f2, .int .i64 x.f3, .int .i64 x.f4, .int .i64 x.f5, .slice A6 x.f6.length c6, .slice A7 x.f7.length c7, .int .i64 x.f8, .int .i64 x.f9]) (rowX x A6 c6 A7 c7) H5.x rfl (by kernel_rfl) (by simp [zeroX, rowX]) (by intro q hq; simp [rowX] at hq; rcases hq with h | h | h | h | h | h | h | h | h | h <;> subst h <;> rfl)
 refine one_ (i := 10) (N := none) #[true, true, true, true, true, true, true, true, true, true, true, false] rfl rfl (by kernel_rfl) (by decide) (fun K hK => ?_)
 refine storeStep (by rfl) rfl rfl rfl rfl hst ?_; clear hst
 refine hK.out _ _ (H6.held HX0.out HY0.out) (fun hHeld => ?_)
 clear hK K hHeld H5
 generalize (World.setCells _ _ _ _) = w5 at H6 ⊢
 have hst := run_store_run (P := Try.prog) (o := 0) 40 (.agg #[.int .i64 y.f0, .string y.f1, .string y.f2, .int .i64 y.f3, .int .i64 y.f4, .int .i64 y.f5, .slice B6 y.f6.length d6, .slice B7 y.f7.length d7, .int .i64 y.f8, .int .i64 y.f9]) (rowX y B6 d6 B7 d7) H6.y rfl (by kernel_rfl) (by simp [zeroX, rowX]) (by intro q hq; simp [rowX] at hq; rcases hq with h | h | h | h | h | h | h | h | h | h <;> subst h <;> rfl)
 refine last_ (i := 11) (N := none) #[true, true, true, true, true, true, true, true, true, true, true, true] rfl rfl (by kernel_rfl) (by decide) (fun K hK => ?_)
 refine storeStep (by rfl) rfl rfl rfl rfl hst ?_; clear hst
 refine hK.out _ _ ?_
 clear hK K
 have H7 := H6.puty (rowX y B6 d6 B7 d7) (by simp [zeroX, rowX])
 generalize (World.setCells _ _ _ _) = wx at H7 ⊢
 refine done_ (by kernel_rfl) ?_
 have HB := Aside0.mk H7
 clear H6 H7 HT
 clear HX0 HY0 HMA HSA HBA hWP
 have hnbx := HB.out.nx
 have x0 : wx.cell? ⟨bx, 0, none⟩ = some (.int .i64 x.f0) := HB.out.cx 0 _ rfl
 have y0 : wx.cell? ⟨b_y, 0, none⟩ = some (.int .i64 y.f0) := HB.out.cy 0 _ rfl
 have x1 : wx.cell? ⟨bx, 1, none⟩ = some (.string x.f1) := HB.out.cx 1 _ rfl
 have y1 : wx.cell? ⟨b_y, 1, none⟩ = some (.string y.f1) := HB.out.cy 1 _ rfl
 have x2 : wx.cell? ⟨bx, 2, none⟩ = some (.string x.f2) := HB.out.cx 2 _ rfl
 have y2 : wx.cell? ⟨b_y, 2, none⟩ = some (.string y.f2) := HB.out.cy 2 _ rfl
 have x9 : wx.cell? ⟨bx, 9, none⟩ = some (.int .i64 x.f9) := HB.out.cx 9 _ rfl
 have y9 : wx.cell? ⟨b_y, 9, none⟩ = some (.int .i64 y.f9) := HB.out.cy 9 _ rfl
 by_cases eab : a = b
 ·
  have b1 : (a == b) = true := by simp [eab]
  replace eab := Aside0.mk eab
  have R : Aside0 (sameF t (n + 1) p a b = (true, p)) := ⟨by rw [hSX.out]; simp [sameX, eab.out]⟩
  go_wp2
  go_ret
  rw [R.out]
  exact ⟨rfl, by first | exact HB.out.wp | exact (HB.out.drewN _).wp, by first | exact HB.out.keep | exact (HB.out.drewN _).keep⟩
 ·
  have b1 : (a == b) = false := by simp [eab]
  replace eab := Aside0.mk eab
  by_cases fx9 : x.f0 = 9
  ·
   have bx9 : (x.f0 == 9) = true := by simp [fx9]
   by_cases fy9 : y.f0 = 9
   ·
    have by9 : (y.f0 == 9) = true := by simp [fy9]
    have bxy : (x.f0 == y.f0) = true := by simp [fx9, fy9]
    replace fx9 := Aside0.mk fx9
    replace fy9 := Aside0.mk fy9
    cases e1 : (x.f1.toList == y.f1.toList) with
    | false =>
     as_aux_lemma =>
      have R : Aside0 (sameF t (n + 1) p a b = (false, p)) := ⟨by rw [hSX.out]; simp [sameX, sameRec, eab.out, fx9.out, fy9.out, e1]⟩
      go_wp2
      go_ret
      rw [R.out]
      exact ⟨rfl, by first | exact HB.out.wp | exact (HB.out.drewN _).wp, by first | exact HB.out.keep | exact (HB.out.drewN _).keep⟩
    | true =>
     cases e2 : (x.f9 == y.f9) with
     | false =>
      have e2n : ¬ x.f9 = y.f9 := by simpa using e2
      replace e2n := Aside0.mk e2n
      as_aux_lemma =>
       have R : Aside0 (sameF t (n + 1) p a b = (false, p)) := ⟨by rw [hSX.out]; simp [sameX, sameRec, eab.out, fx9.out, fy9.out, e1, e2n.out]⟩
       go_wp2
       go_ret
       rw [R.out]
       exact ⟨rfl, by first | exact HB.out.wp | exact (HB.out.drewN _).wp, by first | exact HB.out.keep | exact (HB.out.drewN _).keep⟩
     | true =>
      have e2n : x.f9 = y.f9 := by simpa using e2
      replace e2n := Aside0.mk e2n
      cases e3 : (x.f9 != -1) with
      | false =>
       have e3n : x.f9 = -1 := by simpa using e3
       replace e3n := Aside0.mk e3n
       as_aux_lemma =>
        have R : Aside0 (sameF t (n + 1) p a b = (false, p)) := ⟨by rw [hSX.out]; simp [sameX, sameRec, eab.out, fx9.out, fy9.out, e1, ← e2n.out, e3n.out]⟩
        go_wp2
        go_ret
        rw [R.out]
        exact ⟨rfl, by first | exact HB.out.wp | exact (HB.out.drewN _).wp, by first | exact HB.out.keep | exact (HB.out.drewN _).keep⟩
      | true =>
       have e3n : ¬ x.f9 = -1 := by simpa using e3
       replace e3n := Aside0.mk e3n
       as_aux_lemma =>
        have R : Aside0 (sameF t (n + 1) p a b = (true, p)) := ⟨by rw [hSX.out]; simp [sameX, sameRec, eab.out, fx9.out, fy9.out, e1, ← e2n.out, e3n.out]⟩
        go_wp2
        go_ret
        rw [R.out]
        exact ⟨rfl, by first | exact HB.out.wp | exact (HB.out.drewN _).wp, by first | exact HB.out.keep | exact (HB.out.drewN _).keep⟩
   ·
    have by9 : (y.f0 == 9) = false := by simp [fy9]
    have bxy : (x.f0 == y.f0) = false := by simp [fx9]; exact fun h => fy9 h.symm
    have y9n : ¬ 9 = y.f0 := fun h => fy9 h.symm
    replace fx9 := Aside0.mk fx9
    replace y9n := Aside0.mk y9n
    replace fy9 := Aside0.mk fy9
    as_aux_lemma =>
     have R : Aside0 (sameF t (n + 1) p a b = (false, p)) := ⟨by rw [hSX.out]; simp [sameX, sameRec, eab.out, fx9.out, fy9.out, y9n.out]⟩
     go_wp2
     go_ret
     rw [R.out]
     exact ⟨rfl, by first | exact HB.out.wp | exact (HB.out.drewN _).wp, by first | exact HB.out.keep | exact (HB.out.drewN _).keep⟩
  ·
   have bx9 : (x.f0 == 9) = false := by simp [fx9]
   by_cases fy9 : y.f0 = 9
   ·
    have by9 : (y.f0 == 9) = true := by simp [fy9]
    have bxy : (x.f0 == y.f0) = false := by simp [fy9]; exact fx9
    replace fx9 := Aside0.mk fx9
    replace fy9 := Aside0.mk fy9
    as_aux_lemma =>
     have R : Aside0 (sameF t (n + 1) p a b = (false, p)) := ⟨by rw [hSX.out]; simp [sameX, sameRec, eab.out, fx9.out, fy9.out]⟩
     go_wp2
     go_ret
     rw [R.out]
     exact ⟨rfl, by first | exact HB.out.wp | exact (HB.out.drewN _).wp, by first | exact HB.out.keep | exact (HB.out.drewN _).keep⟩
   ·
    have by9 : (y.f0 == 9) = false := by simp [fy9]
    replace fx9 := Aside0.mk fx9
    replace fy9 := Aside0.mk fy9
    go_upto_region 6 with fail
    go_cut [80] (fun s80 wr => s80 = .bool (sameName x y) ∧ wr = wx)
    case first =>
     cases n1 : x.f2.toList.isEmpty with
     | false =>
      cases n2 : (x.f2.toList == y.f2.toList) with
      | false =>
       as_aux_lemma =>
        go_wp2_with fail
        go_meet
        case rel => exact ⟨by first | (simp [sameName, nul, n1, n2]; done) | (have h4 := n4; simp at h4; simp [sameName, nul, n1, n2, h4]; done) | (have h4 := n4; have h5 := n5; simp at h4 h5; simp [sameName, nul, n1, n2, h4, h5]; done), rfl⟩
      | true =>
       cases n3 : (x.f1.toList == y.f1.toList) with
       | false =>
        as_aux_lemma =>
         go_wp2_with fail
         go_meet
         case rel => exact ⟨by first | (simp [sameName, nul, n1, n2, n3]; done) | (have h4 := n4; simp at h4; simp [sameName, nul, n1, n2, n3, h4]; done) | (have h4 := n4; have h5 := n5; simp at h4 h5; simp [sameName, nul, n1, n2, n3, h4, h5]; done), rfl⟩
       | true =>
        cases n4 : (x.f0 != 11) with
        | false =>
         as_aux_lemma =>
          go_wp2_with fail
          go_meet
          case rel => exact ⟨by first | (simp [sameName, nul, n1, n2, n3, n4]; done) | (have h4 := n4; simp at h4; simp [sameName, nul, n1, n2, n3, n4, h4]; done) | (have h4 := n4; have h5 := n5; simp at h4 h5; simp [sameName, nul, n1, n2, n3, n4, h4, h5]; done), rfl⟩
        | true =>
         cases n5 : (y.f0 != 11) with
         | false =>
          as_aux_lemma =>
           go_wp2_with fail
           go_meet
           case rel => exact ⟨by first | (simp [sameName, nul, n1, n2, n3, n4, n5]; done) | (have h4 := n4; simp at h4; simp [sameName, nul, n1, n2, n3, n4, n5, h4]; done) | (have h4 := n4; have h5 := n5; simp at h4 h5; simp [sameName, nul, n1, n2, n3, n4, n5, h4, h5]; done), rfl⟩
         | true =>
          as_aux_lemma =>
           go_wp2_with fail
           go_meet
           case rel => exact ⟨by first | (simp [sameName, nul, n1, n2, n3, n4, n5]; done) | (have h4 := n4; simp at h4; simp [sameName, nul, n1, n2, n3, n4, n5, h4]; done) | (have h4 := n4; have h5 := n5; simp at h4 h5; simp [sameName, nul, n1, n2, n3, n4, n5, h4, h5]; done), rfl⟩
     | true =>
      as_aux_lemma =>
       go_wp2_with fail
       go_meet
       case rel => exact ⟨by first | (simp [sameName, nul, n1]; done) | (have h4 := n4; simp at h4; simp [sameName, nul, n1, h4]; done) | (have h4 := n4; have h5 := n5; simp at h4 h5; simp [sameName, nul, n1, h4, h5]; done), rfl⟩
    case rest =>
     obtain ⟨rfl, rfl⟩ := hcut
     cases hsn : sameName x y with
     | true =>
      as_aux_lemma =>
       have R : Aside0 (sameF t (n + 1) p a b = (true, p)) := ⟨by rw [hSX.out]; simp [sameX, eab.out, fx9.out, fy9.out, hsn]⟩
       go_wp2
       go_ret
       rw [R.out]
       exact ⟨rfl, by first | exact HB.out.wp | exact (HB.out.drewN _).wp, by first | exact HB.out.keep | exact (HB.out.drewN _).keep⟩
     | false =>
      replace hsn := Aside0.mk hsn
      clear bx9 by9 x1 y1
      by_cases exy : x.f0 = y.f0
      ·
       have bxy : (x.f0 == y.f0) = true := by simp [exy]
       have nxy : (x.f0 != y.f0) = false := by simp [exy]
       replace exy := Aside0.mk exy
       have hwa : (Lit.int .i64 a).wf = true := WalkArith.wf_i64 (by omega)
       have hwb : (Lit.int .i64 b).wf = true := WalkArith.wf_i64 (by omega)
       obtain ⟨kl, hkl⟩ := key83 hwa hwb
       have hkk := Aside0.mk hkl
       clear hkl hwa hwb
       have law83 := Keyed.of_law klaw83
       have hl1 := HB.out.wp.map.look law83 Try.underlying76 hkk.out
       have cm := HB.out.cm
       by_cases hin : (a, b) ∈ p
       ·
        rw [metP_in hin] at hl1
        unfold keyP at hl1
        have R : Aside0 (sameF t (n + 1) p a b = (true, p)) := ⟨by rw [hSX.out]; simp [sameX, eab.out, fx9.out, fy9.out, hsn.out, ← exy.out, hin]⟩
        replace hin := Aside0.mk hin
        as_aux_lemma =>
         go_wp2
         go_ret
         rw [R.out]
         exact ⟨rfl, HB.out.wp, HB.out.keep⟩
       ·
        skip
        rw [metP_out hin] at hl1
        unfold keyP at hl1
        go_upto_region 10 with fail
        have hinA := Aside0.mk hin
        clear hl1
        have hpl : p.length ≤ 65536 := Nat.le_trans HP.out.len (Nat.mul_le_mul hL hL)
        have HBd := Aside0.mk (HB.out.on (below_drew (Below.refl _ _)))
        have HMd := HBd.out.wp.map
        have hl1 := HMd.look law83 Try.underlying76 hkk.out
        rw [metP_out hin] at hl1
        obtain ⟨v0, sst, wm, w6, hent, hsto, HM6, hg6, hwm6⟩ := HMd.entry klaw83 Try.underlying76 (by unfold maxLen; omega) (x := 1) hkk.out (by decide)
        have hl1m := HMd.entry_wm klaw83 Try.underlying76 (by unfold maxLen; omega) hkk.out hent
        rw [metP_out hin] at hl1m
        rw [metP_put] at HM6
        have HB6 := Aside0.mk (HBd.out.next (p2 := (a, b) :: p) ⟨HM6, HBd.out.wp.below.grown hg6 HBd.out.wp.below.size (fun k e => by cases e; exact hgw)⟩ ⟨hg6.size, fun i hi h1 _ => hg6.block i hi (fun e => h1 (Option.some.inj e))⟩)
        have z1 : wm.cell? ⟨w.heap.size, 0, none⟩ = some (.map (some g)) := (hwm6 ⟨w.heap.size, 0, none⟩ (by simp; omega)).trans HBd.out.cm
        have z2 := HB6.out.cm
        have u1 : IntKind.i64.wrap (0 + 1) = 1 := by decide
        have u2 : IntKind.i64.wrap 1 = 1 := by decide
        have hf1 : t.length * t.length < ((a, b) :: p).length + n := by rw [List.length_cons]; omega
        have HP1 := Aside0.mk (HP.out.cons ⟨ha0, ha1⟩ ⟨hb0, hb1⟩ hin)
        clear hwm6 HM6 hg6 HMd HBd hin HP
        unfold keyP at hl1 hent hl1m
        unfold goInt at hent hsto
        go_region_held3 (fun w7 => w7.cell? ⟨w.heap.size, 0, none⟩ = some (.map (some g))) (first | go_keep | exact z1 | exact z2) (fail)
        all_goals
         clear hl1 hl1m hent hsto z1 z2 u1 u2 HB bxy nxy law83 hkk
         have x0 : w6.cell? ⟨bx, 0, none⟩ = some (.int .i64 x.f0) := HB6.out.cx 0 _ rfl
         have y0 : w6.cell? ⟨b_y, 0, none⟩ = some (.int .i64 y.f0) := HB6.out.cy 0 _ rfl
         have x2 : w6.cell? ⟨bx, 2, none⟩ = some (.string x.f2) := HB6.out.cx 2 _ rfl
         have y2 : w6.cell? ⟨b_y, 2, none⟩ = some (.string y.f2) := HB6.out.cy 2 _ rfl
         have x3 : w6.cell? ⟨bx, 3, none⟩ = some (.int .i64 x.f3) := HB6.out.cx 3 _ rfl
         have y3 : w6.cell? ⟨b_y, 3, none⟩ = some (.int .i64 y.f3) := HB6.out.cy 3 _ rfl
         have x4 : w6.cell? ⟨bx, 4, none⟩ = some (.int .i64 x.f4) := HB6.out.cx 4 _ rfl
         have y4 : w6.cell? ⟨b_y, 4, none⟩ = some (.int .i64 y.f4) := HB6.out.cy 4 _ rfl
         have x8 : w6.cell? ⟨bx, 8, none⟩ = some (.int .i64 x.f8) := HB6.out.cx 8 _ rfl
         have y8 : w6.cell? ⟨b_y, 8, none⟩ = some (.int .i64 y.f8) := HB6.out.cy 8 _ rfl
         have x7 : w6.cell? ⟨bx, 7, none⟩ = some (.slice A7 x.f7.length c7) := HB6.out.cx 7 _ rfl
         have y7 : w6.cell? ⟨b_y, 7, none⟩ = some (.slice B7 y.f7.length d7) := HB6.out.cy 7 _ rfl
         have cm := HB6.out.cm
         have cs := HB6.out.cs
         by_cases f7 : x.f0 = 7
         ·
          have m7 : (x.f0 == 7) = true := by simp [f7]
          replace f7 := Aside0.mk f7
          cases n1 : x.f2.toList.isEmpty with
          | false =>
           as_aux_lemma =>
            have R : Aside0 (sameF t (n + 1) p a b = (false, (a, b) :: p)) := ⟨by rw [hSX.out]; simp [sameX, eab.out, fx9.out, fy9.out, hsn.out, ← exy.out, hinA.out, f7.out, sameLen, nul, n1]⟩
            go_wp2
            go_ret
            rw [R.out]
            exact ⟨rfl, HB6.out.wp, HB6.out.keep⟩
          | true =>
           cases n2 : y.f2.toList.isEmpty with
           | false =>
            as_aux_lemma =>
             have R : Aside0 (sameF t (n + 1) p a b = (false, (a, b) :: p)) := ⟨by rw [hSX.out]; simp [sameX, eab.out, fx9.out, fy9.out, hsn.out, ← exy.out, hinA.out, f7.out, sameLen, nul, n1, n2]⟩
             go_wp2
             go_ret
             rw [R.out]
             exact ⟨rfl, HB6.out.wp, HB6.out.keep⟩
           | true =>
            cases e3 : (x.f3 == y.f3) with
            | false =>
             have e3n : ¬ x.f3 = y.f3 := by simpa using e3
             replace e3n := Aside0.mk e3n
             as_aux_lemma =>
              have R : Aside0 (sameF t (n + 1) p a b = (false, (a, b) :: p)) := ⟨by rw [hSX.out]; simp [sameX, eab.out, fx9.out, fy9.out, hsn.out, ← exy.out, hinA.out, f7.out, sameLen, nul, n1, n2, e3n.out]⟩
              go_wp2
              go_ret
              rw [R.out]
              exact ⟨rfl, HB6.out.wp, HB6.out.keep⟩
            | true =>
             have e3n : x.f3 = y.f3 := by simpa using e3
             replace e3n := Aside0.mk e3n
             as_aux_lemma =>
              have R : Aside0 (sameF t (n + 1) p a b = sameF t n ((a, b) :: p) x.f4 y.f4) := ⟨by rw [hSX.out]; simp [sameX, eab.out, fx9.out, fy9.out, hsn.out, ← exy.out, hinA.out, f7.out, sameLen, nul, n1, n2, ← e3n.out]⟩
              go_wp2_with (go_at_call 65; refine (HH.out ((a, b) :: p) x.f4 y.f4 _ HP1.out (hEA.out (.inl f7.out)) (hEB.out (by rw [← exy.out]; exact .inl f7.out)) hf1 HB6.out.wp).mono ?_; rintro e w8 ⟨rfl, hW8, hK8⟩)
              go_ret
              rw [R.out]
              exact ⟨rfl, hW8, HB6.out.keep.trans hK8 (.inl rfl)⟩
         ·
          have n7 := Aside0.mk f7
          clear f7
          by_cases f8 : x.f0 = 8
          ·
           have m8 : (x.f0 == 8) = true := by simp [f8]
           have m7 : (x.f0 == 7) = false := by simp [n7.out]
           replace f8 := Aside0.mk f8
           cases n1 : x.f2.toList.isEmpty with
           | false =>
            as_aux_lemma =>
             have R : Aside0 (sameF t (n + 1) p a b = (false, (a, b) :: p)) := ⟨by rw [hSX.out]; simp [sameX, eab.out, fx9.out, fy9.out, hsn.out, ← exy.out, hinA.out, f8.out, sameLen, nul, n1]⟩
             go_wp2
             go_ret
             rw [R.out]
             exact ⟨rfl, HB6.out.wp, HB6.out.keep⟩
           | true =>
            cases n2 : y.f2.toList.isEmpty with
            | false =>
             as_aux_lemma =>
              have R : Aside0 (sameF t (n + 1) p a b = (false, (a, b) :: p)) := ⟨by rw [hSX.out]; simp [sameX, eab.out, fx9.out, fy9.out, hsn.out, ← exy.out, hinA.out, f8.out, sameLen, nul, n1, n2]⟩
              go_wp2
              go_ret
              rw [R.out]
              exact ⟨rfl, HB6.out.wp, HB6.out.keep⟩
            | true =>
             cases e3 : (x.f3 == y.f3) with
             | false =>
              have e3n : ¬ x.f3 = y.f3 := by simpa using e3
              replace e3n := Aside0.mk e3n
              as_aux_lemma =>
               have R : Aside0 (sameF t (n + 1) p a b = (false, (a, b) :: p)) := ⟨by rw [hSX.out]; simp [sameX, eab.out, fx9.out, fy9.out, hsn.out, ← exy.out, hinA.out, f8.out, sameLen, nul, n1, n2, e3n.out]⟩
               go_wp2
               go_ret
               rw [R.out]
               exact ⟨rfl, HB6.out.wp, HB6.out.keep⟩
             | true =>
              have e3n : x.f3 = y.f3 := by simpa using e3
              replace e3n := Aside0.mk e3n
              as_aux_lemma =>
               have R : Aside0 (sameF t (n + 1) p a b = sameF t n ((a, b) :: p) x.f4 y.f4) := ⟨by rw [hSX.out]; simp [sameX, eab.out, fx9.out, fy9.out, hsn.out, ← exy.out, hinA.out, f8.out, sameLen, nul, n1, n2, ← e3n.out]⟩
               go_wp2_with (go_at_call 65; refine (HH.out ((a, b) :: p) x.f4 y.f4 _ HP1.out (hEA.out (.inr (.inl f8.out))) (hEB.out (by rw [← exy.out]; exact .inr (.inl f8.out))) hf1 HB6.out.wp).mono ?_; rintro e w8 ⟨rfl, hW8, hK8⟩)
               go_ret
               rw [R.out]
               exact ⟨rfl, hW8, HB6.out.keep.trans hK8 (.inl rfl)⟩
          ·
           have n8 := Aside0.mk f8
           clear f8
           by_cases f10 : x.f0 = 10
           ·
            have m10 : (x.f0 == 10) = true := by simp [f10]
            have m7 : (x.f0 == 7) = false := by simp [n7.out]
            have m8 : (x.f0 == 8) = false := by simp [n8.out]
            replace f10 := Aside0.mk f10
            cases n1 : x.f2.toList.isEmpty with
            | false =>
             as_aux_lemma =>
              have R : Aside0 (sameF t (n + 1) p a b = (false, (a, b) :: p)) := ⟨by rw [hSX.out]; simp [sameX, eab.out, fx9.out, fy9.out, hsn.out, ← exy.out, hinA.out, f10.out, sameLen, nul, n1]⟩
              go_wp2
              go_ret
              rw [R.out]
              exact ⟨rfl, HB6.out.wp, HB6.out.keep⟩
            | true =>
             cases n2 : y.f2.toList.isEmpty with
             | false =>
              as_aux_lemma =>
               have R : Aside0 (sameF t (n + 1) p a b = (false, (a, b) :: p)) := ⟨by rw [hSX.out]; simp [sameX, eab.out, fx9.out, fy9.out, hsn.out, ← exy.out, hinA.out, f10.out, sameLen, nul, n1, n2]⟩
               go_wp2
               go_ret
               rw [R.out]
               exact ⟨rfl, HB6.out.wp, HB6.out.keep⟩
             | true =>
              cases e3 : (x.f3 == y.f3) with
              | false =>
               have e3n : ¬ x.f3 = y.f3 := by simpa using e3
               replace e3n := Aside0.mk e3n
               as_aux_lemma =>
                have R : Aside0 (sameF t (n + 1) p a b = (false, (a, b) :: p)) := ⟨by rw [hSX.out]; simp [sameX, eab.out, fx9.out, fy9.out, hsn.out, ← exy.out, hinA.out, f10.out, sameLen, nul, n1, n2, e3n.out]⟩
                go_wp2
                go_ret
                rw [R.out]
                exact ⟨rfl, HB6.out.wp, HB6.out.keep⟩
              | true =>
               have e3n : x.f3 = y.f3 := by simpa using e3
               replace e3n := Aside0.mk e3n
               as_aux_lemma =>
                have R : Aside0 (sameF t (n + 1) p a b = sameF t n ((a, b) :: p) x.f4 y.f4) := ⟨by rw [hSX.out]; simp [sameX, eab.out, fx9.out, fy9.out, hsn.out, ← exy.out, hinA.out, f10.out, sameLen, nul, n1, n2, ← e3n.out]⟩
                go_wp2_with (go_at_call 65; refine (HH.out ((a, b) :: p) x.f4 y.f4 _ HP1.out (hEA.out (.inr (.inr f10.out))) (hEB.out (by rw [← exy.out]; exact .inr (.inr f10.out))) hf1 HB6.out.wp).mono ?_; rintro e w8 ⟨rfl, hW8, hK8⟩)
                go_ret
                rw [R.out]
                exact ⟨rfl, hW8, HB6.out.keep.trans hK8 (.inl rfl)⟩
           ·
            have n10 := Aside0.mk f10
            clear f10
            by_cases f11 : x.f0 = 11
            ·
             have m11 : (x.f0 == 11) = true := by simp [f11]
             have m7 : (x.f0 == 7) = false := by simp [n7.out]
             have m8 : (x.f0 == 8) = false := by simp [n8.out]
             have m10 : (x.f0 == 10) = false := by simp [n10.out]
             replace f11 := Aside0.mk f11
             have hEQ := Aside0.mk (equalR_ok HI.out n HP1.out (hPA.out f11.out).1 (hPB.out (by rw [← exy.out]; exact f11.out)).1)
             have hR0 : Aside0 (sameF t (n + 1) p a b = if (equalR (sameF t n) ((a, b) :: p) x.f7 y.f7).1 = true then sameF t n (equalR (sameF t n) ((a, b) :: p) x.f7 y.f7).2 x.f8 y.f8 else (false, (equalR (sameF t n) ((a, b) :: p) x.f7 y.f7).2)) := ⟨by rw [hSX.out]; simp only [sameX, eab.out, fx9.out, fy9.out, hsn.out, ← exy.out, hinA.out, f11.out, equalR]; simp; split <;> simp_all⟩
             obtain ⟨z, hz⟩ : ∃ z, z = equalR (sameF t n) ((a, b) :: p) x.f7 y.f7 := ⟨_, rfl⟩
             rw [← hz] at hEQ hR0
             obtain ⟨rb, rp⟩ := z
             replace hz := Aside0.mk hz
             cases rb with
             | false =>
              as_aux_lemma =>
               have R : Aside0 (sameF t (n + 1) p a b = (false, rp)) := ⟨by rw [hR0.out]; rfl⟩
               go_wp2_with (go_at_call 74; refine (equal_calls HI.out HH.out cm cs (by omega) (by omega) HP1.out hf1 HB6.out.wp hC7.out hD7.out (hPA.out f11.out).1 (hPB.out (by rw [← exy.out]; exact f11.out)).1 hX7.out).mono ?_; rw [← hz.out]; rintro e w8 ⟨rfl, hW8, hK8⟩; have HB8 := Aside0.mk (HB6.out.next hW8 hK8); clear hW8 hK8; have gx : w8.cell? ⟨bx, 8, none⟩ = some (.int .i64 x.f8) := HB8.out.cx 8 _ rfl; have gy : w8.cell? ⟨b_y, 8, none⟩ = some (.int .i64 y.f8) := HB8.out.cy 8 _ rfl; have gm := HB8.out.cm; have gs := HB8.out.cs)
               go_ret
               rw [R.out]
               exact ⟨rfl, HB8.out.wp, HB8.out.keep⟩
             | true =>
              as_aux_lemma =>
               have R : Aside0 (sameF t (n + 1) p a b = sameF t n rp x.f8 y.f8) := ⟨by rw [hR0.out]; rfl⟩
               go_wp2_with (first | (go_at_call 74; refine (equal_calls HI.out HH.out cm cs (by omega) (by omega) HP1.out hf1 HB6.out.wp hC7.out hD7.out (hPA.out f11.out).1 (hPB.out (by rw [← exy.out]; exact f11.out)).1 hX7.out).mono ?_; rw [← hz.out]; rintro e w8 ⟨rfl, hW8, hK8⟩; have HB8 := Aside0.mk (HB6.out.next hW8 hK8); clear hW8 hK8; have gx : w8.cell? ⟨bx, 8, none⟩ = some (.int .i64 x.f8) := HB8.out.cx 8 _ rfl; have gy : w8.cell? ⟨b_y, 8, none⟩ = some (.int .i64 y.f8) := HB8.out.cy 8 _ rfl; have gm := HB8.out.cm; have gs := HB8.out.cs) | (go_at_call 65; refine (HH.out rp x.f8 y.f8 _ hEQ.out.1 (hPA.out f11.out).2 (hPB.out (by rw [← exy.out]; exact f11.out)).2 (Nat.lt_of_lt_of_le hf1 (Nat.add_le_add_right hEQ.out.2 n)) HB8.out.wp).mono ?_; rintro e w9 ⟨rfl, hW9, hK9⟩))
               go_ret
               rw [R.out]
               exact ⟨rfl, hW9, HB8.out.keep.trans hK9 (.inl rfl)⟩
            ·
             have n11 := Aside0.mk f11
             clear f11
             have m7 : (x.f0 == 7) = false := by simp [n7.out]
             have m8 : (x.f0 == 8) = false := by simp [n8.out]
             have m10 : (x.f0 == 10) = false := by simp [n10.out]
             have m11 : (x.f0 == 11) = false := by simp [n11.out]
             as_aux_lemma =>
              have R : Aside0 (sameF t (n + 1) p a b = (false, (a, b) :: p)) := ⟨by rw [hSX.out]; simp [sameX, eab.out, fx9.out, fy9.out, hsn.out, ← exy.out, hinA.out, n7.out, n8.out, n10.out, n11.out]⟩
              go_wp2
              go_ret
              rw [R.out]
              exact ⟨rfl, HB6.out.wp, HB6.out.keep⟩
      ·
       have bxy : (x.f0 == y.f0) = false := by simp [exy]
       have nxy : (x.f0 != y.f0) = true := by simp [exy]
       replace exy := Aside0.mk exy
       as_aux_lemma =>
        have R : Aside0 (sameF t (n + 1) p a b = (false, p)) := ⟨by rw [hSX.out]; simp [sameX, eab.out, fx9.out, fy9.out, hsn.out, exy.out]⟩
        go_wp2
        go_ret
        rw [R.out]
        exact ⟨rfl, by first | exact HB.out.wp | exact (HB.out.drewN _).wp, by first | exact HB.out.keep | exact (HB.out.drewN _).keep⟩
end
end Go.Proofs.Ytgnbemgeiloegaa.Tg
