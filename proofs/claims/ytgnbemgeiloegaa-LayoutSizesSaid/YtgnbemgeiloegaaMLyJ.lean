import Derived.Test.YtgnbemgeiloegaaMLyI
import Derived.Test.YtgnbemgeiloegaaMEW
import Derived.Test.YtgnbemgeiloegaaMEPTypesGoodsx3
import Derived.Test.YtgnbemgeiloegaaMETgOpn
namespace Go.Proofs.Ytgnbemgeiloegaa.Ly
open Go.RowKit Go.Proofs.Ytgnbemgeiloegaa.Tg
open Go.Proofs.YtgnbemgeiloegaaW.PrintWords Go.Proofs.YtgnbemgeiloegaaW.PrintLast Go.Proofs.YtgnbemgeiloegaaW.PrintMore
attribute [local go_sem] max2_int min2_int max_two min_two
set_option linter.unusedVariables false
set_option linter.unusedSimpArgs false
open Go.Proofs.Ytgnbemgeiloegaa.PTypesGoods
theorem fields_run (x : S40) (hl : x.f6.length ≤ 64) : ∀ (n i : Nat), i + n = x.f6.length → Ev (fun k => spinetref14_fields.l0 k ((x.f6.take i).map (·.f2)) (i : Int) x.f0 x.f1 x.f2 x.f3 x.f4 x.f5 x.f6 x.f7 x.f8 x.f9) (x.f6.map (·.f2))
 | 0, i, hi => Ev.one fun k => by
  rw [spinetref14_fields.l0, if_neg (by omega), List.take_of_length_le (by omega)]
 | n + 1, i, hi => by
  have hlt : i < x.f6.length := by omega
  have hw : wrap64 ((i : Int) + 1) = ((i + 1 : Nat) : Int) := by rw [wr_64 (by omega)]; omega
  refine Ev.step (fun k => ?_) (fields_run x hl n (i + 1) (by omega))
  have e : (x.f6.take (i + 1)).map (·.f2) = (x.f6.take i).map (·.f2) ++ [(rd_T42 x.f6 (i : Int)).f2] := by
   rw [List.take_add_one, List.getElem?_eq_getElem hlt, rd42n i hlt]
   simp only [Option.toList_some, List.map_append, List.map_cons, List.map_nil]
  rw [spinetref14_fields.l0, if_pos (by omega), if_pos (by omega), if_pos (by rw [List.length_map, List.length_take]; omega), hw, e]
theorem fields_is (x : S40) (hl : x.f6.length ≤ 64) : ∃ k, spinetref14_fields.f k x.f0 x.f1 x.f2 x.f3 x.f4 x.f5 x.f6 x.f7 x.f8 x.f9 = some (x.f6.map (·.f2)) := by
 have := fields_run x hl x.f6.length 0 (by omega)
 exact this.rounds
theorem fields40 {w : World} (x : S40) (hl : x.f6.length ≤ 64) {l : List Int} (hm : x.f6.map (·.f2) = l) {A6 A7 : Option Addr} {c6 c7 : Nat} (C6 : Kd.C k42 w A6 x.f6.length x.f6) (l6 : x.f6.length ≤ c6) (C7 : Kd.C k47 w A7 x.f7.length x.f7) (l7 : x.f7.length ≤ c7) :
 Calls Try.prog 40 #[.agg #[.int .i64 x.f0, .string x.f1, .string x.f2, .int .i64 x.f3, .int .i64 x.f4, .int .i64 x.f5, .slice A6 x.f6.length c6, .slice A7 x.f7.length c7, .int .i64 x.f8, .int .i64 x.f9]] w fun e w' => ∃ (A : Option Addr) (c : Nat), e = .returned (.slice A l.length c) ∧ l.length ≤ c ∧ (∀ g, g < w.heap.size → ∀ W, KeepBut w' W g none → Kd.C (Kd.int .i64) W A l.length l) ∧ Below w.heap.size w w' := by
 subst hm
 obtain ⟨k, hk⟩ := fields_is x hl
 refine (spinetref14_fields.calls k x.f0 x.f1 x.f2 x.f3 x.f4 x.f5 A6 c6 x.f6 A7 c7 x.f7 x.f8 x.f9 _ w C6 l6 C7 l7 hk).mono ?_
 rintro e w' ⟨v0, rfl, hR, hB⟩
 obtain ⟨A, c, rfl, hc, hC⟩ := Kd.R_reads hR
 refine ⟨A, c, rfl, hc, fun g hg W hK => ?_, hB⟩
 have h2 := Kd.R_mono (ok' := fun b => b ≠ g) (Kd.R_bound hR) (fun b hb => by have := hb.2.1; omega)
 exact (Kd.R_reads' (Kd.R_keep h2 hK (fun _ h => h))).2.2
structure XR (t : List S40) (S : Int → Int) (w0 : World) (v : Value) (q g : Nat) (w : World) (row : Array Value) (wr : World) : Prop where
 ws : RW t S w0 v q g wr
 keep : KeepBut w wr g none
 box : wr.heap[w.heap.size]? = some (.cells row 40 (0, 0))
 lt : q < w.heap.size ∧ g < w.heap.size
section
variable {t : List S40} {S : Int → Int} {w0 w wr : World} {v : Value} {q g : Nat} {row : Array Value}
theorem XR.next (h : XR t S w0 v q g w row wr) {w2 : World} (hw : RW t S w0 v q g w2) (hk : KeepBut wr w2 g none) : XR t S w0 v q g w row w2 := by
 have := h.lt
 exact ⟨hw, h.keep.trans hk (.inl rfl), hk.blk h.box (by omega) (by simp), h.lt⟩
theorem XR.on (h : XR t S w0 v q g w row wr) {w2 : World} (hb : Below wr.heap.size wr w2) : XR t S w0 v q g w row w2 := h.next (h.ws.on hb) (KeepBut.of_below hb g none)
theorem XR.at (h : XR t S w0 v q g w row wr) (k : Nat) (u : Value) (hk : row[k]? = some u) : wr.cell? ⟨w.heap.size, k, none⟩ = some u := by rw [cell_of_row wr _ _ _ _ _ h.box]; exact hk
theorem XR.made (h : RW t S w0 v q g w) (row : Array Value) : XR t S w0 v q g w row (w.alloc (.cells row 40)) :=
 ⟨h.on (below_alloc (Below.refl _ _) _), KeepBut.of_below (below_alloc (Below.refl _ _) _) g none, heap_alloc_new _ _, h.z.lt⟩
end
set_option maxHeartbeats 16000000 in
set_option maxRecDepth 100000 in
theorem size36 {t : List S40} {S : Int → Int} {w0 : World} {A : Option Addr} {c q g d : Nat} (E : EnvR t S w0 A c) (h36 : At36 t S w0 A c q g d) (h39 : At39 t S w0 A c q g d) : At36 t S w0 A c q g (d + 1) := by
 intro a w ha hd hw
 have H36 := Aside0.mk h36
 have H39 := Aside0.mk h39
 have HZ := Aside0.mk E.s
 have hS := Aside0.mk (E.s.eq a ha)
 have hT := Aside0.mk (fun h => S_rec E.g E.s ha h)
 have hs0 := E.s.lo a ha
 have hs1 := E.s.hi a ha
 have q0 := hw.z.c0
 have q1 := hw.z.c1
 have hwi := (gd_ones E.g).within
 have HA := Aside0.mk ha
 have h7 : Aside0 ((rd_T40 t a).f0 = 7 → (InT t (rd_T40 t a).f4 ∧ Deep (insP t) d (rd_T40 t a).f4) ∧ 1 ≤ (rd_T40 t a).f3 ∧ (rd_T40 t a).f3 ≤ 4096) := ⟨fun h => by
  have hb : (rd_T40 t a).f4 ∈ insP t a := by unfold insP; rw [if_pos (.inl h)]; simp
  exact ⟨⟨hwi.place a ha _ hb, hd _ hb⟩, (gd_arr E.g ha h).2⟩⟩
 have h9 : Aside0 ((rd_T40 t a).f0 = 9 → (InT t (rd_T40 t a).f5 ∧ Deep (insP t) d (rd_T40 t a).f5) ∧ ∀ f ∈ (rd_T40 t a).f6, InT t f.f2 ∧ Deep (insP t) d f.f2) := ⟨fun h => by
  have e : insP t a = (rd_T40 t a).f5 :: (rd_T40 t a).f6.map (·.f2) := by unfold insP; rw [if_neg (by omega), if_pos h]
  exact ⟨⟨hwi.place a ha _ (by rw [e]; simp), hd _ (by rw [e]; simp)⟩, fun f hf => ⟨hwi.place a ha _ (by rw [e]; simp; exact .inr ⟨f, hf, rfl⟩), hd _ (by rw [e]; simp; exact .inr ⟨f, hf, rfl⟩)⟩⟩⟩
 have hl6 : (rd_T40 t a).f6.length ≤ 64 := hwi.fields a ha
 obtain ⟨ha0, ha1⟩ := ha
 have hlt : a.toNat < t.length := by omega
 have e0 : ((a.toNat : Nat) : Int) = a := by omega
 have hat := hw.z.at hlt
 rw [e0] at hat
 obtain ⟨ad, A6, c6, A7, c7, hA, p0, p1, p2, p3, p4, p5, p6, p7, p8, p9, l6, C6, l7, C7⟩ := at_T40 E.C a ha0 ha1
 subst hA
 have HC6 := Aside0.mk C6
 have HC7 := Aside0.mk C7
 obtain ⟨k0, k1, k2, k3, k4, k5, k6, k7, k8, k9⟩ := CellsX.on (CellsX.mk p0 p1 p2 p3 p4 p5 p6 p7 p8 p9) hw.below
 have HW := Aside0.mk hw
 have hwp : wrap64 (S a + 1) = S a + 1 := wr_64 (by omega)
 clear p0 p1 p2 p3 p4 p5 p6 p7 p8 p9 C6 C7 h36 h39 E hd hw hwi e0
 have CV : Aside0 (∀ W, RW t S w0 (.slice (some ad) t.length c) q g W → (∃ cv, W.cell? ⟨g, a.toNat, none⟩ = some cv) ∧ W.frozen? ⟨g, a.toNat, none⟩ = false ∧ W.cell? ⟨q, 1, none⟩ = some (.slice (some ⟨g, 0, none⟩) t.length t.length)) := ⟨fun W h => ⟨by rcases h.z.at hlt with h | h <;> exact ⟨_, h⟩, h.z.free _, h.z.c1⟩⟩
 rcases hat with hat | hat
 rotate_left
 ·
  have b0 : decide (S a + 1 > 0) = true := decide_eq_true (by omega)
  have hw1 : wrap64 (S a + 1 - 1) = S a := by rw [wr_64 (by omega)]; omega
  clear k0 k1 k2 k3 k4 k5 k6 k7 k8 k9
  as_aux_lemma =>
   go_enter Try.func36, Try.ntmps36
   go_wp2
   go_ret
   exact ⟨rfl, by first | exact HW.out | exact HW.out.on (pw_below_drewN (Below.refl _ _) _), by first | exact KeepBut.refl _ _ _ | exact KeepBut.of_below (pw_below_drewN (Below.refl _ _) _) g none⟩
 have b0 : decide ((0 : Int) > 0) = false := rfl
 generalize rd_T40 t a = x at hS hT h7 h9 hl6 HC6 HC7 k0 k1 k2 k3 k4 k5 k6 k7 k8 k9 l6 l7
 go_enter Try.func36, Try.ntmps36
 go_upto_region 5 with fail
 clear k0 k1 k2 k3 k4 k5 k6 k7 k8 k9 q0 q1 hat b0
 have HX := Aside0.mk (XR.made HW.out #[.int .i64 x.f0, .string x.f1, .string x.f2, .int .i64 x.f3, .int .i64 x.f4, .int .i64 x.f5, .slice A6 x.f6.length c6, .slice A7 x.f7.length c7, .int .i64 x.f8, .int .i64 x.f9])
 obtain ⟨wx, hwx⟩ : ∃ wx, wx = w.alloc (.cells #[.int .i64 x.f0, .string x.f1, .string x.f2, .int .i64 x.f3, .int .i64 x.f4, .int .i64 x.f5, .slice A6 x.f6.length c6, .slice A7 x.f7.length c7, .int .i64 x.f8, .int .i64 x.f9] 40) := ⟨_, rfl⟩
 rw [← hwx] at HX ⊢
 clear hwx HW
 have x0 := HX.out.at 0 _ rfl
 by_cases f1 : x.f0 = 1
 ·
  have b1 : (x.f0 == 1) = true := by simp [f1]
  have R : S a = 4 := by rw [hS.out]; simp [szX, f1]
  replace f1 := Aside0.mk f1
  clear hT h7 h9 hS
  as_aux_lemma =>
   go_upto_region 21 with fail
   have HY := Aside0.mk (HX.out.on (by first | exact Below.refl _ _ | exact pw_below_drewN (Below.refl _ _) _ | exact below_drew (Below.refl _ _)))
   obtain ⟨⟨cv, hcv⟩, hfz, q1⟩ := CV.out _ HY.out.ws
   have HP := Aside0.mk (HY.out.ws.put HA.out)
   have e5 : S a + 1 = 5 := by rw [R]; rfl
   rw [e5] at HP
   go_wp2
   go_ret
   exact ⟨by rw [R]; rfl, by first | exact HP.out | exact HP.out.on (pw_below_drewN (Below.refl _ _) _), KeepBut.set_ HY.out.keep _ _⟩
 have b1 : (x.f0 == 1) = false := by simp [f1]
 by_cases f4 : x.f0 = 4
 ·
  have b4 : (x.f0 == 4) = true := by simp [f4]
  have R : S a = 4 := by rw [hS.out]; simp [szX, f4]
  replace f4 := Aside0.mk f4
  clear hT h7 h9 hS
  as_aux_lemma =>
   go_upto_region 21 with fail
   have HY := Aside0.mk (HX.out.on (by first | exact Below.refl _ _ | exact pw_below_drewN (Below.refl _ _) _ | exact below_drew (Below.refl _ _)))
   obtain ⟨⟨cv, hcv⟩, hfz, q1⟩ := CV.out _ HY.out.ws
   have HP := Aside0.mk (HY.out.ws.put HA.out)
   have e5 : S a + 1 = 5 := by rw [R]; rfl
   rw [e5] at HP
   go_wp2
   go_ret
   exact ⟨by rw [R]; rfl, by first | exact HP.out | exact HP.out.on (pw_below_drewN (Below.refl _ _) _), KeepBut.set_ HY.out.keep _ _⟩
 have b4 : (x.f0 == 4) = false := by simp [f4]
 by_cases f10 : x.f0 = 10
 ·
  have b10 : (x.f0 == 10) = true := by simp [f10]
  have R : S a = 4 := by rw [hS.out]; simp [szX, f10]
  replace f10 := Aside0.mk f10
  clear hT h7 h9 hS
  as_aux_lemma =>
   go_upto_region 21 with fail
   have HY := Aside0.mk (HX.out.on (by first | exact Below.refl _ _ | exact pw_below_drewN (Below.refl _ _) _ | exact below_drew (Below.refl _ _)))
   obtain ⟨⟨cv, hcv⟩, hfz, q1⟩ := CV.out _ HY.out.ws
   have HP := Aside0.mk (HY.out.ws.put HA.out)
   have e5 : S a + 1 = 5 := by rw [R]; rfl
   rw [e5] at HP
   go_wp2
   go_ret
   exact ⟨by rw [R]; rfl, by first | exact HP.out | exact HP.out.on (pw_below_drewN (Below.refl _ _) _), KeepBut.set_ HY.out.keep _ _⟩
 have b10 : (x.f0 == 10) = false := by simp [f10]
 by_cases f11 : x.f0 = 11
 ·
  have b11 : (x.f0 == 11) = true := by simp [f11]
  have R : S a = 4 := by rw [hS.out]; simp [szX, f11]
  replace f11 := Aside0.mk f11
  clear hT h7 h9 hS
  as_aux_lemma =>
   go_upto_region 21 with fail
   have HY := Aside0.mk (HX.out.on (by first | exact Below.refl _ _ | exact pw_below_drewN (Below.refl _ _) _ | exact below_drew (Below.refl _ _)))
   obtain ⟨⟨cv, hcv⟩, hfz, q1⟩ := CV.out _ HY.out.ws
   have HP := Aside0.mk (HY.out.ws.put HA.out)
   have e5 : S a + 1 = 5 := by rw [R]; rfl
   rw [e5] at HP
   go_wp2
   go_ret
   exact ⟨by rw [R]; rfl, by first | exact HP.out | exact HP.out.on (pw_below_drewN (Below.refl _ _) _), KeepBut.set_ HY.out.keep _ _⟩
 have b11 : (x.f0 == 11) = false := by simp [f11]
 by_cases f2 : x.f0 = 2
 ·
  have b2 : (x.f0 == 2) = true := by simp [f2]
  have R : S a = 1 := by rw [hS.out]; simp [szX, f2]
  replace f2 := Aside0.mk f2
  clear hT h7 h9 hS
  as_aux_lemma =>
   go_upto_region 21 with fail
   have HY := Aside0.mk (HX.out.on (by first | exact Below.refl _ _ | exact pw_below_drewN (Below.refl _ _) _ | exact below_drew (Below.refl _ _)))
   obtain ⟨⟨cv, hcv⟩, hfz, q1⟩ := CV.out _ HY.out.ws
   have HP := Aside0.mk (HY.out.ws.put HA.out)
   have e5 : S a + 1 = 2 := by rw [R]; rfl
   rw [e5] at HP
   go_wp2
   go_ret
   exact ⟨by rw [R]; rfl, by first | exact HP.out | exact HP.out.on (pw_below_drewN (Below.refl _ _) _), KeepBut.set_ HY.out.keep _ _⟩
 have b2 : (x.f0 == 2) = false := by simp [f2]
 by_cases f3 : x.f0 = 3
 ·
  have b3 : (x.f0 == 3) = true := by simp [f3]
  have R : S a = 1 := by rw [hS.out]; simp [szX, f3]
  replace f3 := Aside0.mk f3
  clear hT h7 h9 hS
  as_aux_lemma =>
   go_upto_region 21 with fail
   have HY := Aside0.mk (HX.out.on (by first | exact Below.refl _ _ | exact pw_below_drewN (Below.refl _ _) _ | exact below_drew (Below.refl _ _)))
   obtain ⟨⟨cv, hcv⟩, hfz, q1⟩ := CV.out _ HY.out.ws
   have HP := Aside0.mk (HY.out.ws.put HA.out)
   have e5 : S a + 1 = 2 := by rw [R]; rfl
   rw [e5] at HP
   go_wp2
   go_ret
   exact ⟨by rw [R]; rfl, by first | exact HP.out | exact HP.out.on (pw_below_drewN (Below.refl _ _) _), KeepBut.set_ HY.out.keep _ _⟩
 have b3 : (x.f0 == 3) = false := by simp [f3]
 by_cases f7 : x.f0 = 7
 ·
  have b7 : (x.f0 == 7) = true := by simp [f7]
  obtain ⟨⟨i4, d4⟩, n0, n1⟩ := h7.out f7
  have s0 := HZ.out.lo _ i4
  have s1 := HZ.out.hi _ i4
  have R : S a = cutP (upP (x.f3 * S x.f4)) := by rw [hS.out]; simp [szX, f1, f4, f10, f11, f2, f3, f7]
  have hmn : (if 32769 < upP (x.f3 * S x.f4) then 32769 else upP (x.f3 * S x.f4)) = S a := R.symm
  have hm0 : 0 ≤ x.f3 * S x.f4 := Int.mul_nonneg (by omega) s0
  have hm1 : x.f3 * S x.f4 ≤ 4096 * 32769 := Int.mul_le_mul n1 s1 s0 (by omega)
  have hwm : IntKind.i64.wrap (x.f3 * S x.f4) = x.f3 * S x.f4 := Go.IntWalk.i64_in _ (by omega)
  have HI4 := Aside0.mk i4
  have HD4 := Aside0.mk d4
  replace f7 := Aside0.mk f7
  replace R := Aside0.mk R
  clear f1 f4 f10 f11 f2 f3 h7 h9
  clear i4 d4 hS hT HC6 HC7
  as_aux_lemma =>
   go_upto_region 15 with fail
   clear b1 b4 b10 b11 b2 b3 b7 x0
   refine start_ (n := 10) (S := (fun w2 : World => w2.cell? ⟨w.heap.size, 3, none⟩ = some (.int .i64 x.f3) ∧ w2.cell? ⟨w.heap.size, 4, none⟩ = some (.int .i64 x.f4))) (ds := ([] : List Nat)) #[false, false, false, false, false, false, false, false, false, false] (by kernel_rfl) rfl rfl (by exact ⟨(HX.out.on (by first | exact Below.refl _ _ | exact pw_below_drewN (Below.refl _ _) _ | exact below_drew (Below.refl _ _))).at 3 _ rfl, (HX.out.on (by first | exact Below.refl _ _ | exact pw_below_drewN (Below.refl _ _) _ | exact below_drew (Below.refl _ _))).at 4 _ rfl⟩) (fun hHeld => ?_)
   refine pure_ (i := 0) (N := some 42) (v := ?_) (a' := ?_) #[true, false, false, false, false, false, false, false, false, false] rfl rfl (by kernel_rfl) (fun _ _ _ h => h) (Or.inl ⟨by rfl, ?_⟩) ?_ ?_
   rotate_left
   · intro w'; go_simp; try with_reducible rfl
   rotate_left
   · simp only [Act.put, List.setIfInBounds_toArray, List.set_cons_zero, List.set_cons_succ]; rfl
   refine take_ (i := 1) (N := some 43) (v := ?_) (a' := ?_) #[true, true, false, false, false, false, false, false, false, false] rfl rfl (by kernel_rfl) (fun _ _ _ h => h) (Or.inl ⟨by rfl, ?_⟩) hHeld ?_ ?_
   rotate_left
   · intro w' hSw; obtain ⟨s3, s4⟩ := hSw; go_simp; try with_reducible rfl
   rotate_left
   · simp only [Act.put, List.setIfInBounds_toArray, List.set_cons_zero, List.set_cons_succ]; rfl
   refine pure_ (i := 2) (N := some 44) (v := ?_) (a' := ?_) #[true, true, true, false, false, false, false, false, false, false] rfl rfl (by kernel_rfl) (fun _ _ _ h => h) (Or.inl ⟨by rfl, ?_⟩) ?_ ?_
   rotate_left
   · intro w'; go_simp; try with_reducible rfl
   rotate_left
   · simp only [Act.put, List.setIfInBounds_toArray, List.set_cons_zero, List.set_cons_succ]; rfl
   refine pure_ (i := 3) (N := some 45) (v := ?_) (a' := ?_) #[true, true, true, true, false, false, false, false, false, false] rfl rfl (by kernel_rfl) (fun _ _ _ h => h) (Or.inl ⟨by rfl, ?_⟩) ?_ ?_
   rotate_left
   · intro w'; go_simp; try with_reducible rfl
   rotate_left
   · simp only [Act.put, List.setIfInBounds_toArray, List.set_cons_zero, List.set_cons_succ]; rfl
   refine take_ (i := 4) (N := some 46) (v := ?_) (a' := ?_) #[true, true, true, true, true, false, false, false, false, false] rfl rfl (by kernel_rfl) (fun _ _ _ h => h) (Or.inl ⟨by rfl, ?_⟩) hHeld ?_ ?_
   rotate_left
   · intro w' hSw; obtain ⟨s3, s4⟩ := hSw; go_simp; try with_reducible rfl
   rotate_left
   · simp only [Act.put, List.setIfInBounds_toArray, List.set_cons_zero, List.set_cons_succ]; rfl
   refine one_ (i := 5) (N := some 47) #[true, true, true, true, true, true, false, false, false, false] rfl rfl (by kernel_rfl) (by decide) (fun K hK => ?_)
   refine goes_ Try.func36 (by kernel_rfl) rfl #[.pointer (some ⟨q, 0, none⟩), .int .i64 x.f4] (by rfl) rfl rfl (by (try simp only [List.map_toArray, List.map_cons, List.map_nil]); first | done | rfl) ?_
   refine (H36.out x.f4 _ HI4.out HD4.out (HX.out.on (by first | exact Below.refl _ _ | exact pw_below_drewN (Below.refl _ _) _ | exact below_drew (Below.refl _ _))).ws).mono ?_
   rintro e w1 ⟨rfl, hW1, hK1⟩
   refine ⟨_, rfl, ?_⟩
   refine hK.out _ _ (by exact ⟨((HX.out.on (by first | exact Below.refl _ _ | exact pw_below_drewN (Below.refl _ _) _ | exact below_drew (Below.refl _ _))).next hW1 hK1).at 3 _ rfl, ((HX.out.on (by first | exact Below.refl _ _ | exact pw_below_drewN (Below.refl _ _) _ | exact below_drew (Below.refl _ _))).next hW1 hK1).at 4 _ rfl⟩) (fun hHeld => ?_)
   clear hK K
   refine norm_ (a' := ?_) ?_ ?_
   rotate_left
   · show Act.put _ (some 47) _ = _; simp only [Act.put, List.setIfInBounds_toArray, List.set_cons_zero, List.set_cons_succ]; rfl
   have HX1 := Aside0.mk ((HX.out.on (by first | exact Below.refl _ _ | exact pw_below_drewN (Below.refl _ _) _ | exact below_drew (Below.refl _ _))).next hW1 hK1)
   refine pure_ (i := 6) (N := some 48) (v := ?_) (a' := ?_) #[true, true, true, true, true, true, true, false, false, false] rfl rfl (by kernel_rfl) (fun _ _ _ h => h) (Or.inl ⟨by rfl, ?_⟩) ?_ ?_
   rotate_left
   · intro w'; go_simp; try with_reducible rfl
   rotate_left
   · simp only [Act.put, List.setIfInBounds_toArray, List.set_cons_zero, List.set_cons_succ]; rfl
   try rw [hwm]
   refine one_ (i := 7) (N := some 49) #[true, true, true, true, true, true, true, true, false, false] rfl rfl (by kernel_rfl) (by decide) (fun K hK => ?_)
   refine goes_ Try.func42 (by kernel_rfl) rfl #[.int .i64 (x.f3 * S x.f4)] (by rfl) rfl rfl (by (try simp only [List.map_toArray, List.map_cons, List.map_nil]); first | done | rfl) ?_
   refine (spinetref14_up.calls _ (upP (x.f3 * S x.f4)) _ (up14_is hm0 (by omega))).mono ?_
   rintro e w2 ⟨rfl, hD2⟩
   refine ⟨_, rfl, ?_⟩
   refine hK.out _ _ (by exact ⟨(HX1.out.on hD2.below).at 3 _ rfl, (HX1.out.on hD2.below).at 4 _ rfl⟩) (fun hHeld => ?_)
   clear hK K
   refine norm_ (a' := ?_) ?_ ?_
   rotate_left
   · show Act.put _ (some 49) _ = _; simp only [Act.put, List.setIfInBounds_toArray, List.set_cons_zero, List.set_cons_succ]; rfl
   have HX2 := Aside0.mk (HX1.out.on hD2.below)
   refine pure_ (i := 8) (N := some 50) (v := ?_) (a' := ?_) #[true, true, true, true, true, true, true, true, true, false] rfl rfl (by kernel_rfl) (fun _ _ _ h => h) (Or.inl ⟨by rfl, ?_⟩) ?_ ?_
   rotate_left
   · intro w'; go_simp; try with_reducible rfl
   rotate_left
   · simp only [Act.put, List.setIfInBounds_toArray, List.set_cons_zero, List.set_cons_succ]; rfl
   try rw [hmn]
   refine pure_ (i := 9) (N := some 5) (v := ?_) (a' := ?_) #[true, true, true, true, true, true, true, true, true, true] rfl rfl (by kernel_rfl) (fun _ _ _ h => h) (Or.inl ⟨by rfl, ?_⟩) ?_ ?_
   rotate_left
   · intro w'; go_simp; try with_reducible rfl
   rotate_left
   · simp only [Act.put, List.setIfInBounds_toArray, List.set_cons_zero, List.set_cons_succ]; rfl
   refine done_ (by kernel_rfl) ?_
   clear hHeld hW1 hK1 hD2 HX HX1
   go_upto_region 21 with fail
   have HY := Aside0.mk (HX2.out.on (by first | exact Below.refl _ _ | exact pw_below_drewN (Below.refl _ _) _ | exact below_drew (Below.refl _ _)))
   obtain ⟨⟨cv, hcv⟩, hfz, q1⟩ := CV.out _ HY.out.ws
   have HP := Aside0.mk (HY.out.ws.put HA.out)
   go_wp2
   go_ret
   exact ⟨rfl, by first | exact HP.out | exact HP.out.on (pw_below_drewN (Below.refl _ _) _), KeepBut.set_ HY.out.keep _ _⟩
 have b7 : (x.f0 == 7) = false := by simp [f7]
 by_cases f9 : x.f0 = 9
 ·
  have b9 : (x.f0 == 9) = true := by simp [f9]
  obtain ⟨⟨i5, d5⟩, hfs⟩ := h9.out f9
  have s0 := HZ.out.lo _ i5
  have s1 := HZ.out.hi _ i5
  have HI5 := Aside0.mk i5
  have HD5 := Aside0.mk d5
  have HN : Aside0 (∀ b ∈ x.f6.map (·.f2), InT t b ∧ Deep (insP t) d b) := ⟨fun b hb => by
   obtain ⟨f, hf, rfl⟩ := List.mem_map.1 hb
   exact hfs f hf⟩
  have hT2 := hT.out f9
  have hll : (x.f6.map (·.f2)).length ≤ 1000000 := by rw [List.length_map]; omega
  obtain ⟨l, hm⟩ : ∃ l, x.f6.map (·.f2) = l := ⟨_, rfl⟩
  rw [hm] at HN hT2 hll
  have x5 := HX.out.at 5 _ rfl
  replace f9 := Aside0.mk f9
  clear f1 f4 f10 f11 f2 f3 f7 h7 h9 hS hT i5 d5 hfs
  by_cases z5 : x.f5 = 0
  ·
   have bz : (x.f5 != 0) = false := by simp [z5]
   rw [if_pos z5] at hT2
   replace z5 := Aside0.mk z5
   have hr := endsR_in (t := t) (S := S) l (0) (by omega) (by omega) (fun b hb => HZ.out.lo _ (HN.out b hb).1)
   have hmn : (if 32769 < upP (endsR t S (0) l) then 32769 else upP (endsR t S (0) l)) = S a := hT2.symm
   clear hT2
   as_aux_lemma =>
    go_upto_region 19 with fail
    have HX1 := Aside0.mk (HX.out.on (by first | exact Below.refl _ _ | exact pw_below_drewN (Below.refl _ _) _ | exact below_drew (Below.refl _ _)))
    clear HX
    clear b1 b4 b10 b11 b2 b3 b7 b9 bz x0 x5
    have r0 := HX1.out.at 0 _ rfl
    have r1 := HX1.out.at 1 _ rfl
    have r2 := HX1.out.at 2 _ rfl
    have r3 := HX1.out.at 3 _ rfl
    have r4 := HX1.out.at 4 _ rfl
    have r5 := HX1.out.at 5 _ rfl
    have r6 := HX1.out.at 6 _ rfl
    have r7 := HX1.out.at 7 _ rfl
    have r8 := HX1.out.at 8 _ rfl
    have r9 := HX1.out.at 9 _ rfl
    have hC6 := Aside0.mk (Kd.C_below HC6.out HX1.out.ws.below)
    have hC7 := Aside0.mk (Kd.C_below HC7.out HX1.out.ws.below)
    go_upto_region 21 with (first | (go_at_call 40; refine (fields40 x hl6 hm (by first | with_reducible exact hC6.out | exact Kd.C_below hC6.out (pw_below_drewN (Below.refl _ _) _)) l6 (by first | with_reducible exact hC7.out | exact Kd.C_below hC7.out (pw_below_drewN (Below.refl _ _) _)) l7).mono ?_; rintro e w2 ⟨A8, c8, rfl, hc8, hC8, hB2⟩; have HX2 := Aside0.mk ((HX1.out.on (by first | exact Below.refl _ _ | exact pw_below_drewN (Below.refl _ _) _ | exact below_drew (Below.refl _ _))).on hB2); have HC8 := Aside0.mk hC8; clear hC8) | (go_at_call 39; refine (H39.out l A8 c8 (0) _ (HC8.out g (Nat.lt_of_lt_of_le HX1.out.lt.2 HX1.out.keep.1)) hc8 hll HN.out (by omega) (by omega) (by first | exact HX2.out.ws)).mono ?_; rintro e w3 ⟨v3, rfl, hR3, hW3, hK3⟩; have HX3 := Aside0.mk (HX2.out.next hW3 hK3); clear hR3 hW3 hK3) | (go_at_call 42; refine (spinetref14_up.calls _ (upP (endsR t S (0) l)) _ (up14_is hr.1 (by omega))).mono ?_; rintro e w4 ⟨rfl, hD4⟩; have HX4 := Aside0.mk (HX3.out.on (by first | exact hD4.below | exact (pw_below_drewN (Below.refl _ _) _).trans hD4.below)); clear hD4))
    have HY := Aside0.mk (HX4.out.on (by first | exact Below.refl _ _ | exact pw_below_drewN (Below.refl _ _) _ | exact below_drew (Below.refl _ _)))
    obtain ⟨⟨cv, hcv⟩, hfz, q1⟩ := CV.out _ HY.out.ws
    have HP := Aside0.mk (HY.out.ws.put HA.out)
    go_wp2
    go_ret
    exact ⟨rfl, by first | exact HP.out | exact HP.out.on (pw_below_drewN (Below.refl _ _) _), KeepBut.set_ HY.out.keep _ _⟩
  ·
   have bz : (x.f5 != 0) = true := by simp [z5]
   rw [if_neg z5] at hT2
   replace z5 := Aside0.mk z5
   have hr := endsR_in (t := t) (S := S) l (S x.f5) (by omega) (by omega) (fun b hb => HZ.out.lo _ (HN.out b hb).1)
   have hmn : (if 32769 < upP (endsR t S (S x.f5) l) then 32769 else upP (endsR t S (S x.f5) l)) = S a := hT2.symm
   clear hT2
   as_aux_lemma =>
    go_upto_region 19 with (go_at_call 36; refine (H36.out x.f5 _ HI5.out HD5.out (HX.out.on (by first | exact Below.refl _ _ | exact pw_below_drewN (Below.refl _ _) _ | exact below_drew (Below.refl _ _))).ws).mono ?_; rintro e w1 ⟨rfl, hW1, hK1⟩)
    have HX1 := Aside0.mk ((HX.out.on (by first | exact Below.refl _ _ | exact pw_below_drewN (Below.refl _ _) _ | exact below_drew (Below.refl _ _))).next hW1 hK1)
    clear hW1 hK1 HX
    clear b1 b4 b10 b11 b2 b3 b7 b9 bz x0 x5
    have r0 := HX1.out.at 0 _ rfl
    have r1 := HX1.out.at 1 _ rfl
    have r2 := HX1.out.at 2 _ rfl
    have r3 := HX1.out.at 3 _ rfl
    have r4 := HX1.out.at 4 _ rfl
    have r5 := HX1.out.at 5 _ rfl
    have r6 := HX1.out.at 6 _ rfl
    have r7 := HX1.out.at 7 _ rfl
    have r8 := HX1.out.at 8 _ rfl
    have r9 := HX1.out.at 9 _ rfl
    have hC6 := Aside0.mk (Kd.C_below HC6.out HX1.out.ws.below)
    have hC7 := Aside0.mk (Kd.C_below HC7.out HX1.out.ws.below)
    go_upto_region 21 with (first | (go_at_call 40; refine (fields40 x hl6 hm (by first | with_reducible exact hC6.out | exact Kd.C_below hC6.out (pw_below_drewN (Below.refl _ _) _)) l6 (by first | with_reducible exact hC7.out | exact Kd.C_below hC7.out (pw_below_drewN (Below.refl _ _) _)) l7).mono ?_; rintro e w2 ⟨A8, c8, rfl, hc8, hC8, hB2⟩; have HX2 := Aside0.mk ((HX1.out.on (by first | exact Below.refl _ _ | exact pw_below_drewN (Below.refl _ _) _ | exact below_drew (Below.refl _ _))).on hB2); have HC8 := Aside0.mk hC8; clear hC8) | (go_at_call 39; refine (H39.out l A8 c8 (S x.f5) _ (HC8.out g (Nat.lt_of_lt_of_le HX1.out.lt.2 HX1.out.keep.1)) hc8 hll HN.out (by omega) (by omega) (by first | exact HX2.out.ws)).mono ?_; rintro e w3 ⟨v3, rfl, hR3, hW3, hK3⟩; have HX3 := Aside0.mk (HX2.out.next hW3 hK3); clear hR3 hW3 hK3) | (go_at_call 42; refine (spinetref14_up.calls _ (upP (endsR t S (S x.f5) l)) _ (up14_is hr.1 (by omega))).mono ?_; rintro e w4 ⟨rfl, hD4⟩; have HX4 := Aside0.mk (HX3.out.on (by first | exact hD4.below | exact (pw_below_drewN (Below.refl _ _) _).trans hD4.below)); clear hD4))
    have HY := Aside0.mk (HX4.out.on (by first | exact Below.refl _ _ | exact pw_below_drewN (Below.refl _ _) _ | exact below_drew (Below.refl _ _)))
    obtain ⟨⟨cv, hcv⟩, hfz, q1⟩ := CV.out _ HY.out.ws
    have HP := Aside0.mk (HY.out.ws.put HA.out)
    go_wp2
    go_ret
    exact ⟨rfl, by first | exact HP.out | exact HP.out.on (pw_below_drewN (Below.refl _ _) _), KeepBut.set_ HY.out.keep _ _⟩
 ·
  have b9 : (x.f0 == 9) = false := by simp [f9]
  have R : S a = 0 := by rw [hS.out]; simp [szX, f1, f4, f10, f11, f2, f3, f7, f9]
  replace f9 := Aside0.mk f9
  clear f1 f4 f10 f11 f2 f3 f7 h7 h9 hS hT
  as_aux_lemma =>
   go_upto_region 21 with fail
   have HY := Aside0.mk (HX.out.on (by first | exact Below.refl _ _ | exact pw_below_drewN (Below.refl _ _) _ | exact below_drew (Below.refl _ _)))
   obtain ⟨⟨cv, hcv⟩, hfz, q1⟩ := CV.out _ HY.out.ws
   have HP := Aside0.mk (HY.out.ws.put HA.out)
   have e5 : S a + 1 = 1 := by rw [R]; rfl
   rw [e5] at HP
   go_wp2
   go_ret
   exact ⟨by rw [R]; rfl, by first | exact HP.out | exact HP.out.on (pw_below_drewN (Below.refl _ _) _), KeepBut.set_ HY.out.keep _ _⟩
end Go.Proofs.Ytgnbemgeiloegaa.Ly
