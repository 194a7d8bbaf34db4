import Derived.Test.YtgnbemgeiloegaaMLyC
import Derived.Test.YtgnbemgeiloegaaMEW
import Derived.Test.YtgnbemgeiloegaaMEPTypesGoodsx3
import Derived.Test.YtgnbemgeiloegaaMETgOpn
namespace Go.Proofs.Ytgnbemgeiloegaa.Ly
open Go.RowKit Go.Proofs.Ytgnbemgeiloegaa.Tg
open Go.Proofs.YtgnbemgeiloegaaW.PrintWords Go.Proofs.YtgnbemgeiloegaaW.PrintLast Go.Proofs.YtgnbemgeiloegaaW.PrintMore
set_option linter.unusedVariables false
set_option linter.unusedSimpArgs false
open Go.Proofs.Ytgnbemgeiloegaa.PTypesGoods (S40 S42 S47 k40 k42 k47 rd_T40 rd_T42 rd_T47 at_T40 at_T42 at_T47 tables_up.f tables_cut.f tables_up.calls tables_cut.calls)
structure XB (t : List S40) (S : Int → Int) (w0 : World) (v : Value) (q : Nat) (w : World) (row : Array Value) (wr : World) : Prop where
 ws : WS t S w0 v q wr
 keep : KeepBut w wr q none
 box : wr.heap[w.heap.size]? = some (.cells row 40 (0, 0))
 lt : q < w.heap.size
section
variable {t : List S40} {S : Int → Int} {w0 w wr : World} {v : Value} {q : Nat} {row : Array Value}
theorem XB.next (h : XB t S w0 v q w row wr) {w2 : World} (hw : WS t S w0 v q w2) (hk : KeepBut wr w2 q none) : XB t S w0 v q w row w2 := by
 have := h.lt
 exact ⟨hw, h.keep.trans hk (.inl rfl), hk.blk h.box (by omega) (by simp), h.lt⟩
theorem XB.on (h : XB t S w0 v q w row wr) {w2 : World} (hb : Below wr.heap.size wr w2) : XB t S w0 v q w row w2 := h.next (h.ws.on hb) (KeepBut.of_below hb q none)
theorem XB.at (h : XB t S w0 v q w row wr) (k : Nat) (u : Value) (hk : row[k]? = some u) : wr.cell? ⟨w.heap.size, k, none⟩ = some u := by rw [cell_of_row wr _ _ _ _ _ h.box]; exact hk
theorem XB.made (h : WS t S w0 v q w) (row : Array Value) : XB t S w0 v q w row (w.alloc (.cells row 40)) :=
 ⟨h.on (below_alloc (Below.refl _ _) _), KeepBut.of_below (below_alloc (Below.refl _ _) _) q none, heap_alloc_new _ _, h.z.lt⟩
end
theorem rd42n {xs : List S42} (k : Nat) (h : k < xs.length) : rd_T42 xs (k : Int) = xs[k] := by unfold rd_T42; simp [List.getD_eq_getElem?_getD, List.getElem?_eq_getElem h]
theorem ends_more {t : List S40} {S : Int → Int} (n : Int) (l : List S42) (k : Nat) (h : k < l.length) : endsP t S n (l.take (k + 1)) = plcEnd t S (endsP t S n (l.take k)) (l[k]).f2 := by
 rw [List.take_add_one, List.getElem?_eq_getElem h]
 exact endsP_snoc t S _ n _
set_option maxHeartbeats 16000000 in
set_option maxRecDepth 100000 in
theorem size52 {t : List S40} {S : Int → Int} {w0 : World} {A : Option Addr} {c q d : Nat} (E : Env t S w0 A c q) (h34 : At34 t S w0 A c q d) (h41 : At41 t S w0 A c q d) : At52 t S w0 A c q (d + 1) := by
 intro a w ha hd hw
 have H34 := Aside0.mk h34
 have H41 := Aside0.mk h41
 have HZ := Aside0.mk E.s
 have hS := Aside0.mk (E.s.eq a ha)
 have hsl := hw.z.head
 have hwi := (gd_ones E.g).within
 have h7 : Aside0 ((rd_T40 t a).f0 = 7 → (InT t (rd_T40 t a).f4 ∧ Deep (insP t) d (rd_T40 t a).f4) ∧ 1 ≤ (rd_T40 t a).f3 ∧ (rd_T40 t a).f3 ≤ 4096) := ⟨fun h => by
  have hb : (rd_T40 t a).f4 ∈ insP t a := by unfold insP; rw [if_pos (.inl h)]; simp
  exact ⟨⟨hwi.place a ha _ hb, hd _ hb⟩, (gd_arr E.g ha h).2⟩⟩
 have h9 : Aside0 ((rd_T40 t a).f0 = 9 → (InT t (rd_T40 t a).f5 ∧ Deep (insP t) d (rd_T40 t a).f5) ∧ ∀ f ∈ (rd_T40 t a).f6, InT t f.f2 ∧ Deep (insP t) d f.f2) := ⟨fun h => by
  have e : insP t a = (rd_T40 t a).f5 :: (rd_T40 t a).f6.map (·.f2) := by unfold insP; rw [if_neg (by omega), if_pos h]
  exact ⟨⟨hwi.place a ha _ (by rw [e]; simp), hd _ (by rw [e]; simp)⟩, fun f hf => ⟨hwi.place a ha _ (by rw [e]; simp; exact .inr ⟨f, hf, rfl⟩), hd _ (by rw [e]; simp; exact .inr ⟨f, hf, rfl⟩)⟩⟩⟩
 have hl6 : (rd_T40 t a).f6.length ≤ 64 := hwi.fields a ha
 obtain ⟨ha0, ha1⟩ := ha
 obtain ⟨ad, A6, c6, A7, c7, hA, p0, p1, p2, p3, p4, p5, p6, p7, p8, p9, l6, C6, l7, C7⟩ := at_T40 E.C a ha0 ha1
 subst hA
 have HC6 := Aside0.mk C6
 obtain ⟨k0, k1, k2, k3, k4, k5, k6, k7, k8, k9⟩ := CellsX.on (CellsX.mk p0 p1 p2 p3 p4 p5 p6 p7 p8 p9) hw.below
 have HW := Aside0.mk hw
 clear p0 p1 p2 p3 p4 p5 p6 p7 p8 p9 C6 l7 C7 h34 h41 E hd hw hwi
 generalize rd_T40 t a = x at hS h7 h9 hl6 HC6 k0 k1 k2 k3 k4 k5 k6 k7 k8 k9 l6
 go_enter Try.func52, Try.ntmps52
 go_upto_region 2 with fail
 clear k0 k1 k2 k3 k4 k5 k6 k7 k8 k9 hsl
 have HX := Aside0.mk (XB.made HW.out #[.int .i64 x.f0, .string x.f1, .string x.f2, .int .i64 x.f3, .int .i64 x.f4, .int .i64 x.f5, .slice A6 x.f6.length c6, .slice A7 x.f7.length c7, .int .i64 x.f8, .int .i64 x.f9])
 obtain ⟨wx, hwx⟩ : ∃ wx, wx = w.alloc (.cells #[.int .i64 x.f0, .string x.f1, .string x.f2, .int .i64 x.f3, .int .i64 x.f4, .int .i64 x.f5, .slice A6 x.f6.length c6, .slice A7 x.f7.length c7, .int .i64 x.f8, .int .i64 x.f9] 40) := ⟨_, rfl⟩
 rw [← hwx] at HX ⊢
 clear hwx HW
 have x0 := HX.out.at 0 _ rfl
 by_cases f1 : x.f0 = 1
 ·
  have b1 : (x.f0 == 1) = true := by simp [f1]
  have R : Aside0 (S a = 4) := ⟨by rw [hS.out]; simp [szX, f1]⟩
  replace f1 := Aside0.mk f1
  as_aux_lemma =>
   go_wp2
   go_ret
   exact ⟨by rw [R.out]; rfl, by first | exact HX.out.ws | exact (HX.out.on (pw_below_drewN (Below.refl _ _) _)).ws, by first | exact HX.out.keep | exact (HX.out.on (pw_below_drewN (Below.refl _ _) _)).keep⟩
 have b1 : (x.f0 == 1) = false := by simp [f1]
 by_cases f4 : x.f0 = 4
 ·
  have b4 : (x.f0 == 4) = true := by simp [f4]
  have R : Aside0 (S a = 4) := ⟨by rw [hS.out]; simp [szX, f4]⟩
  replace f4 := Aside0.mk f4
  as_aux_lemma =>
   go_wp2
   go_ret
   exact ⟨by rw [R.out]; rfl, by first | exact HX.out.ws | exact (HX.out.on (pw_below_drewN (Below.refl _ _) _)).ws, by first | exact HX.out.keep | exact (HX.out.on (pw_below_drewN (Below.refl _ _) _)).keep⟩
 have b4 : (x.f0 == 4) = false := by simp [f4]
 by_cases f10 : x.f0 = 10
 ·
  have b10 : (x.f0 == 10) = true := by simp [f10]
  have R : Aside0 (S a = 4) := ⟨by rw [hS.out]; simp [szX, f10]⟩
  replace f10 := Aside0.mk f10
  as_aux_lemma =>
   go_wp2
   go_ret
   exact ⟨by rw [R.out]; rfl, by first | exact HX.out.ws | exact (HX.out.on (pw_below_drewN (Below.refl _ _) _)).ws, by first | exact HX.out.keep | exact (HX.out.on (pw_below_drewN (Below.refl _ _) _)).keep⟩
 have b10 : (x.f0 == 10) = false := by simp [f10]
 by_cases f11 : x.f0 = 11
 ·
  have b11 : (x.f0 == 11) = true := by simp [f11]
  have R : Aside0 (S a = 4) := ⟨by rw [hS.out]; simp [szX, f11]⟩
  replace f11 := Aside0.mk f11
  as_aux_lemma =>
   go_wp2
   go_ret
   exact ⟨by rw [R.out]; rfl, by first | exact HX.out.ws | exact (HX.out.on (pw_below_drewN (Below.refl _ _) _)).ws, by first | exact HX.out.keep | exact (HX.out.on (pw_below_drewN (Below.refl _ _) _)).keep⟩
 have b11 : (x.f0 == 11) = false := by simp [f11]
 by_cases f2 : x.f0 = 2
 ·
  have b2 : (x.f0 == 2) = true := by simp [f2]
  have R : Aside0 (S a = 1) := ⟨by rw [hS.out]; simp [szX, f2]⟩
  replace f2 := Aside0.mk f2
  as_aux_lemma =>
   go_wp2
   go_ret
   exact ⟨by rw [R.out]; rfl, by first | exact HX.out.ws | exact (HX.out.on (pw_below_drewN (Below.refl _ _) _)).ws, by first | exact HX.out.keep | exact (HX.out.on (pw_below_drewN (Below.refl _ _) _)).keep⟩
 have b2 : (x.f0 == 2) = false := by simp [f2]
 by_cases f3 : x.f0 = 3
 ·
  have b3 : (x.f0 == 3) = true := by simp [f3]
  have R : Aside0 (S a = 1) := ⟨by rw [hS.out]; simp [szX, f3]⟩
  replace f3 := Aside0.mk f3
  as_aux_lemma =>
   go_wp2
   go_ret
   exact ⟨by rw [R.out]; rfl, by first | exact HX.out.ws | exact (HX.out.on (pw_below_drewN (Below.refl _ _) _)).ws, by first | exact HX.out.keep | exact (HX.out.on (pw_below_drewN (Below.refl _ _) _)).keep⟩
 have b3 : (x.f0 == 3) = false := by simp [f3]
 by_cases f7 : x.f0 = 7
 ·
  have b7 : (x.f0 == 7) = true := by simp [f7]
  obtain ⟨⟨i4, d4⟩, n0, n1⟩ := h7.out f7
  have s0 := HZ.out.lo _ i4
  have s1 := HZ.out.hi _ i4
  have R : Aside0 (S a = cutP (upP (x.f3 * S x.f4))) := ⟨by rw [hS.out]; simp [szX, f1, f4, f10, f11, f2, f3, f7]⟩
  have hm0 : 0 ≤ x.f3 * S x.f4 := Int.mul_nonneg (by omega) s0
  have hm1 : x.f3 * S x.f4 ≤ 4096 * 32769 := Int.mul_le_mul n1 s1 s0 (by omega)
  have hwm : IntKind.i64.wrap (x.f3 * S x.f4) = x.f3 * S x.f4 := Go.IntWalk.i64_in _ (by omega)
  have HI4 := Aside0.mk i4
  have HD4 := Aside0.mk d4
  replace f7 := Aside0.mk f7
  clear f1 f4 f10 f11 f2 f3 h7 h9
  clear i4 d4 hS HC6
  as_aux_lemma =>
   go_upto_region 12 with fail
   clear b1 b4 b10 b11 b2 b3 b7 x0
   refine start_ (n := 10) (S := (fun w2 : World => w2.cell? ⟨w.heap.size, 3, none⟩ = some (.int .i64 x.f3) ∧ w2.cell? ⟨w.heap.size, 4, none⟩ = some (.int .i64 x.f4))) (ds := ([] : List Nat)) #[false, false, false, false, false, false, false, false, false, false] (by kernel_rfl) rfl rfl (by exact ⟨(HX.out.on (by first | exact Below.refl _ _ | exact pw_below_drewN (Below.refl _ _) _ | exact below_drew (Below.refl _ _))).at 3 _ rfl, (HX.out.on (by first | exact Below.refl _ _ | exact pw_below_drewN (Below.refl _ _) _ | exact below_drew (Below.refl _ _))).at 4 _ rfl⟩) (fun hHeld => ?_)
   refine pure_ (i := 0) (N := some 28) (v := ?_) (a' := ?_) #[true, false, false, false, false, false, false, false, false, false] rfl rfl (by kernel_rfl) (fun _ _ _ h => h) (Or.inl ⟨by rfl, ?_⟩) ?_ ?_
   rotate_left
   · intro w'; go_simp; try with_reducible rfl
   rotate_left
   · simp only [Act.put, List.setIfInBounds_toArray, List.set_cons_zero, List.set_cons_succ]; rfl
   refine take_ (i := 1) (N := some 29) (v := ?_) (a' := ?_) #[true, true, false, false, false, false, false, false, false, false] rfl rfl (by kernel_rfl) (fun _ _ _ h => h) (Or.inl ⟨by rfl, ?_⟩) hHeld ?_ ?_
   rotate_left
   · intro w' hSw; obtain ⟨s3, s4⟩ := hSw; go_simp; try with_reducible rfl
   rotate_left
   · simp only [Act.put, List.setIfInBounds_toArray, List.set_cons_zero, List.set_cons_succ]; rfl
   refine pure_ (i := 2) (N := some 30) (v := ?_) (a' := ?_) #[true, true, true, false, false, false, false, false, false, false] rfl rfl (by kernel_rfl) (fun _ _ _ h => h) (Or.inl ⟨by rfl, ?_⟩) ?_ ?_
   rotate_left
   · intro w'; go_simp; try with_reducible rfl
   rotate_left
   · simp only [Act.put, List.setIfInBounds_toArray, List.set_cons_zero, List.set_cons_succ]; rfl
   refine pure_ (i := 3) (N := some 31) (v := ?_) (a' := ?_) #[true, true, true, true, false, false, false, false, false, false] rfl rfl (by kernel_rfl) (fun _ _ _ h => h) (Or.inl ⟨by rfl, ?_⟩) ?_ ?_
   rotate_left
   · intro w'; go_simp; try with_reducible rfl
   rotate_left
   · simp only [Act.put, List.setIfInBounds_toArray, List.set_cons_zero, List.set_cons_succ]; rfl
   refine take_ (i := 4) (N := some 32) (v := ?_) (a' := ?_) #[true, true, true, true, true, false, false, false, false, false] rfl rfl (by kernel_rfl) (fun _ _ _ h => h) (Or.inl ⟨by rfl, ?_⟩) hHeld ?_ ?_
   rotate_left
   · intro w' hSw; obtain ⟨s3, s4⟩ := hSw; go_simp; try with_reducible rfl
   rotate_left
   · simp only [Act.put, List.setIfInBounds_toArray, List.set_cons_zero, List.set_cons_succ]; rfl
   refine one_ (i := 5) (N := some 33) #[true, true, true, true, true, true, false, false, false, false] rfl rfl (by kernel_rfl) (by decide) (fun K hK => ?_)
   refine goes_ Try.func34 (by kernel_rfl) rfl #[.pointer (some ⟨q, 0, none⟩), .int .i64 x.f4] (by rfl) rfl rfl (by (try simp only [List.map_toArray, List.map_cons, List.map_nil]); first | done | rfl) ?_
   refine (H34.out x.f4 _ HI4.out HD4.out (HX.out.on (by first | exact Below.refl _ _ | exact pw_below_drewN (Below.refl _ _) _ | exact below_drew (Below.refl _ _))).ws).mono ?_
   rintro e w1 ⟨rfl, hW1, hK1⟩
   refine ⟨_, rfl, ?_⟩
   refine hK.out _ _ (by exact ⟨((HX.out.on (by first | exact Below.refl _ _ | exact pw_below_drewN (Below.refl _ _) _ | exact below_drew (Below.refl _ _))).next hW1 hK1).at 3 _ rfl, ((HX.out.on (by first | exact Below.refl _ _ | exact pw_below_drewN (Below.refl _ _) _ | exact below_drew (Below.refl _ _))).next hW1 hK1).at 4 _ rfl⟩) (fun hHeld => ?_)
   clear hK K
   refine norm_ (a' := ?_) ?_ ?_
   rotate_left
   · show Act.put _ (some 33) _ = _; simp only [Act.put, List.setIfInBounds_toArray, List.set_cons_zero, List.set_cons_succ]; rfl
   have HX1 := Aside0.mk ((HX.out.on (by first | exact Below.refl _ _ | exact pw_below_drewN (Below.refl _ _) _ | exact below_drew (Below.refl _ _))).next hW1 hK1)
   refine pure_ (i := 6) (N := some 34) (v := ?_) (a' := ?_) #[true, true, true, true, true, true, true, false, false, false] rfl rfl (by kernel_rfl) (fun _ _ _ h => h) (Or.inl ⟨by rfl, ?_⟩) ?_ ?_
   rotate_left
   · intro w'; go_simp; try with_reducible rfl
   rotate_left
   · simp only [Act.put, List.setIfInBounds_toArray, List.set_cons_zero, List.set_cons_succ]; rfl
   try rw [hwm]
   refine one_ (i := 7) (N := some 35) #[true, true, true, true, true, true, true, true, false, false] rfl rfl (by kernel_rfl) (by decide) (fun K hK => ?_)
   refine goes_ Try.func53 (by kernel_rfl) rfl #[.int .i64 (x.f3 * S x.f4)] (by rfl) rfl rfl (by (try simp only [List.map_toArray, List.map_cons, List.map_nil]); first | done | rfl) ?_
   refine (tables_up.calls _ (upP (x.f3 * S x.f4)) _ (up_is hm0 (by omega))).mono ?_
   rintro e w2 ⟨rfl, hD2⟩
   refine ⟨_, rfl, ?_⟩
   refine hK.out _ _ (by exact ⟨(HX1.out.on hD2.below).at 3 _ rfl, (HX1.out.on hD2.below).at 4 _ rfl⟩) (fun hHeld => ?_)
   clear hK K
   refine norm_ (a' := ?_) ?_ ?_
   rotate_left
   · show Act.put _ (some 35) _ = _; simp only [Act.put, List.setIfInBounds_toArray, List.set_cons_zero, List.set_cons_succ]; rfl
   have HX2 := Aside0.mk (HX1.out.on hD2.below)
   refine one_ (i := 8) (N := some 36) #[true, true, true, true, true, true, true, true, true, false] rfl rfl (by kernel_rfl) (by decide) (fun K hK => ?_)
   refine goes_ Try.func54 (by kernel_rfl) rfl #[.int .i64 (upP (x.f3 * S x.f4))] (by rfl) rfl rfl (by (try simp only [List.map_toArray, List.map_cons, List.map_nil]); first | done | rfl) ?_
   refine (tables_cut.calls _ (cutP (upP (x.f3 * S x.f4))) _ rfl).mono ?_
   rintro e w3 ⟨rfl, hB3⟩
   refine ⟨_, rfl, ?_⟩
   refine hK.out _ _ (by exact ⟨(HX2.out.on hB3).at 3 _ rfl, (HX2.out.on hB3).at 4 _ rfl⟩) (fun hHeld => ?_)
   clear hK K
   refine norm_ (a' := ?_) ?_ ?_
   rotate_left
   · show Act.put _ (some 36) _ = _; simp only [Act.put, List.setIfInBounds_toArray, List.set_cons_zero, List.set_cons_succ]; rfl
   have HX3 := Aside0.mk (HX2.out.on hB3)
   refine pure_ (i := 9) (N := some 4) (v := ?_) (a' := ?_) #[true, true, true, true, true, true, true, true, true, true] rfl rfl (by kernel_rfl) (fun _ _ _ h => h) (Or.inl ⟨by rfl, ?_⟩) ?_ ?_
   rotate_left
   · intro w'; go_simp; try with_reducible rfl
   rotate_left
   · simp only [Act.put, List.setIfInBounds_toArray, List.set_cons_zero, List.set_cons_succ]; rfl
   refine done_ (by kernel_rfl) ?_
   clear hHeld hW1 hK1 hD2 hB3 HX HX1 HX2
   go_wp2
   go_ret
   exact ⟨by rw [R.out]; rfl, HX3.out.ws, HX3.out.keep⟩
 have b7 : (x.f0 == 7) = false := by simp [f7]
 by_cases f9 : x.f0 = 9
 ·
  have b9 : (x.f0 == 9) = true := by simp [f9]
  obtain ⟨⟨i5, d5⟩, hfs⟩ := h9.out f9
  have s0 := HZ.out.lo _ i5
  have s1 := HZ.out.hi _ i5
  have R : Aside0 (S a = cutP (upP (endsP t S (S x.f5) x.f6))) := ⟨by rw [hS.out]; simp [szX, f1, f4, f10, f11, f2, f3, f7, f9]⟩
  have HI5 := Aside0.mk i5
  have HD5 := Aside0.mk d5
  have HF := Aside0.mk hfs
  have HR : Aside0 (∀ k : Nat, 0 ≤ endsP t S (S x.f5) (x.f6.take k) ∧ endsP t S (S x.f5) (x.f6.take k) ≤ 32769) := ⟨fun k => endsP_in _ _ s0 s1 (fun f hf => HZ.out.lo _ (hfs f (List.mem_of_mem_take hf)).1)⟩
  clear f1 f4 f10 f11 f2 f3 f7 h7 h9 hS i5 d5 hfs
  have x5 := HX.out.at 5 _ rfl
  replace f9 := Aside0.mk f9
  go_upto_region 15 with (go_at_call 34; refine (H34.out x.f5 _ HI5.out HD5.out (by first | exact HX.out.ws | exact (HX.out.on (pw_below_drewN (Below.refl _ _) _)).ws)).mono ?_; rintro e w1 ⟨rfl, hW1, hK1⟩)
  have HX1 := Aside0.mk ((HX.out.on (by first | exact Below.refl _ _ | exact pw_below_drewN (Below.refl _ _) _)).next hW1 hK1)
  clear HX hW1 hK1 b1 b4 b10 b11 b2 b3 b7 b9 x0 x5
  have x6 := HX1.out.at 6 _ rfl
  go_wp2
  clear x6
  go_loopw [46, 6] (fun i n wr => ∃ k : Nat, k ≤ x.f6.length ∧ i = .int .i64 k ∧ n = .int .i64 (endsP t S (S x.f5) (x.f6.take k)) ∧ Aside0 (XB t S w0 (.slice (some ad) t.length c) q w #[.int .i64 x.f0, .string x.f1, .string x.f2, .int .i64 x.f3, .int .i64 x.f4, .int .i64 x.f5, .slice A6 x.f6.length c6, .slice A7 x.f7.length c7, .int .i64 x.f8, .int .i64 x.f9] wr)) (fun i _ _ => x.f6.length - (intOf i).toNat)
  case atStart => exact ⟨0, by omega, rfl, rfl, ⟨by first | exact HX1.out | exact HX1.out.on (pw_below_drewN (Below.refl _ _) _)⟩⟩
  case round =>
   clear HX1
   obtain ⟨k, hk, rfl, rfl, HB⟩ := hrel
   by_cases hlt : k < x.f6.length
   ·
    have hx : decide ((k : Int) < (x.f6.length : Int)) = true := decide_eq_true (by omega)
    obtain ⟨ae, rfl, r0, r1, r2⟩ := at_T42 (Kd.C_below HC6.out HB.out.ws.below) (k : Int) (by omega) (by omega)
    rw [Int.toNat_natCast, rd42n k hlt] at r0 r1 r2
    have hf := HF.out _ (List.getElem_mem hlt)
    have HI6 := Aside0.mk hf.1
    have HD6 := Aside0.mk hf.2
    have hstep := Aside0.mk (ends_more (t := t) (S := S) (S x.f5) x.f6 k hlt)
    have hr0 := (HR.out k).1
    have hr1 := (HR.out k).2
    clear hf
    generalize x.f6[k] = f at r0 r1 r2 HI6 HD6 hstep
    go_wp2_with (go_at_call 41; refine (H41.out (endsP t S (S x.f5) (x.f6.take k)) f.f2 _ HI6.out HD6.out hr0 (by omega) (HB.out.on (by first | exact below_alloc (Below.refl _ _) _ | exact pw_below_drewN (below_alloc (Below.refl _ _) _) _)).ws).mono ?_; rintro e w2 ⟨rfl, hW2, hK2⟩)
    go_roundw
    case rel => exact ⟨k + 1, by omega, by go_num, by rw [hstep.out], ⟨(HB.out.on (by first | exact below_alloc (Below.refl _ _) _ | exact pw_below_drewN (below_alloc (Below.refl _ _) _) _)).next hW2 hK2⟩⟩
    case measure => simp [intOf]; omega
   ·
    have hx : decide ((k : Int) < (x.f6.length : Int)) = false := decide_eq_false (by omega)
    have he : x.f6.take k = x.f6 := List.take_of_length_le (by omega)
    have hr0 := (HR.out k).1
    have hr1 := (HR.out k).2
    rw [he] at hr0 hr1 ⊢
    clear he
    go_wp2_with (first | (go_at_call 53; refine (tables_up.calls _ (upP (endsP t S (S x.f5) x.f6)) _ (up_is hr0 (by omega))).mono ?_; rintro e w2 ⟨rfl, hD2⟩; have HB2 := HB.out.on (by first | exact hD2.below | exact (pw_below_drewN (Below.refl _ _) _).trans hD2.below)) | (go_at_call 54; refine (tables_cut.calls _ (cutP (upP (endsP t S (S x.f5) x.f6))) _ rfl).mono ?_; rintro e w3 ⟨rfl, hB3⟩))
    go_ret
    exact ⟨by rw [R.out]; rfl, (HB2.on hB3).ws, (HB2.on hB3).keep⟩
 ·
  have b9 : (x.f0 == 9) = false := by simp [f9]
  have R : Aside0 (S a = 0) := ⟨by rw [hS.out]; simp [szX, f1, f4, f10, f11, f2, f3, f7, f9]⟩
  replace f9 := Aside0.mk f9
  clear f1 f4 f10 f11 f2 f3 f7 h7 h9 hS
  as_aux_lemma =>
   go_wp2
   go_ret
   exact ⟨by rw [R.out]; rfl, by first | exact HX.out.ws | exact (HX.out.on (pw_below_drewN (Below.refl _ _) _)).ws, by first | exact HX.out.keep | exact (HX.out.on (pw_below_drewN (Below.refl _ _) _)).keep⟩
 theorem all_at {t : List S40} {S : Int → Int} {w0 : World} {A : Option Addr} {c q : Nat} (E : Env t S w0 A c q) : ∀ d, At52 t S w0 A c q d
  | 0 => fun a w ha hd hw => hd.elim
  | d + 1 => size52 E (size34 E (all_at E d)) (place41 E (size34 E (all_at E d)))
 theorem size_calls {t : List S40} {S : Int → Int} {w0 : World} {A : Option Addr} {c q : Nat} (E : Env t S w0 A c q) (d : Nat) : At34 t S w0 A c q d := size34 E (all_at E d)
 theorem place_calls {t : List S40} {S : Int → Int} {w0 : World} {A : Option Addr} {c q : Nat} (E : Env t S w0 A c q) (d : Nat) : At41 t S w0 A c q d := place41 E (size_calls E d)
 end Go.Proofs.Ytgnbemgeiloegaa.Ly
