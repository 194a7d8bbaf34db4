import Derived.Test.YtgnbemgeiloegaaMTgX
namespace Go.Proofs.Ytgnbemgeiloegaa.Tg
open Go.RowKit Go.Maps Go.WideMaps
open Go.Proofs.YtgnbemgeiloegaaW.PrintWords Go.Proofs.YtgnbemgeiloegaaW.PrintLast Go.Proofs.YtgnbemgeiloegaaW.PrintMore
set_option linter.unusedVariables false
set_option linter.unusedSimpArgs false
open Go.Proofs.Ytgnbemgeiloegaa.PTypesGoods (S40 S42 S47 k40 k42 k47 rd_T40 rd_T42 rd_T47 at_T40 at_T42 at_T47)
def parR1 (f : Prs → Int → Int → Bool × Prs) (p : Prs) (v u : S47) : Bool × Prs := if v.f0 = u.f0 then f p v.f1 u.f1 else (false, p)
theorem parsR_step (f : Prs → Int → Int → Bool × Prs) (p : Prs) (vs us : List S47) {i : Nat} (h1 : i < vs.length) (h2 : i < us.length) :
 parsR f p (vs.drop i) (us.drop i) = if (parR1 f p vs[i] us[i]).1 = true then parsR f (parR1 f p vs[i] us[i]).2 (vs.drop (i + 1)) (us.drop (i + 1)) else ((parR1 f p vs[i] us[i])) := by
 rw [List.drop_eq_getElem_cons h1, List.drop_eq_getElem_cons h2]
 rw [parsR]
 unfold parR1
 split <;> simp_all
def equalR (f : Prs → Int → Int → Bool × Prs) (p : Prs) (vs us : List S47) : Bool × Prs := if vs.length = us.length then parsR f p vs us else (false, p)
section
variable {t : List S40} {w0 : World} {A : Option Addr} {c g n : Nat}
set_option maxHeartbeats 16000000 in
set_option maxRecDepth 100000 in
theorem clos_calls (h : SameAt t w0 A c g n) {w : World} {q r : Nat} (h4 : w.cell? ⟨q, 0, none⟩ = some (.map (some g))) (h5 : w.cell? ⟨r, 0, none⟩ = some (.slice A t.length c)) {p : Prs} (hp : Pok t p) (hf : t.length * t.length < p.length + n) (hw : WP w0 g p w)
 (v u : S47) (hv : InT t v.f1) (hu : InT t u.f1) :
 Calls Try.prog 75 #[.agg #[.bool v.f0, .int .i64 v.f1], .agg #[.bool u.f0, .int .i64 u.f1], .pointer (some ⟨q, 0, none⟩), .pointer (some ⟨r, 0, none⟩)] w fun e w' =>
  e = .returned (.bool (parR1 (sameF t n) p v u).1) ∧ WP w0 g (parR1 (sameF t n) p v u).2 w' ∧ KeepBut w w' g none := by
 have H := Aside0.mk h
 have HW := Aside0.mk hw
 have HP := Aside0.mk hp
 clear h hw hp
 have hq := World.block_lt_of_cell? w _ h4
 have hr := World.block_lt_of_cell? w _ h5
 go_enter Try.func75, Try.ntmps75
 go_upto_region 1 with fail
 have hb : Below w.heap.size w ((w.alloc (.cells #[.bool v.f0, .int .i64 v.f1] 47)).alloc (.cells #[.bool u.f0, .int .i64 u.f1] 47)) := below_alloc (below_alloc (Below.refl _ _) _) _
 have h4' := (hb.cell (p := ⟨q, 0, none⟩) hq).trans h4
 have h5' := (hb.cell (p := ⟨r, 0, none⟩) hr).trans h5
 have HB := Aside0.mk hb
 clear hb h4 h5
 by_cases e0 : v.f0 = u.f0
 ·
  have hR : Aside0 (parR1 (sameF t n) p v u = sameF t n p v.f1 u.f1) := ⟨by simp [parR1, e0]⟩
  have b0 : (v.f0 == u.f0) = true := by simp [e0]
  clear e0
  go_wp2_with (go_at_call 65; refine (H.out p _ _ _ HP.out hv hu hf (HW.out.on HB.out)).mono ?_; rintro e w4 ⟨rfl, hW4, hK4⟩)
  go_ret
  rw [hR.out]
  exact ⟨rfl, hW4, (KeepBut.of_below HB.out g none).trans hK4 (.inl rfl)⟩
 ·
  have hR : Aside0 (parR1 (sameF t n) p v u = (false, p)) := ⟨by simp [parR1, e0]⟩
  have b0 : (v.f0 == u.f0) = false := by simp [e0]
  clear e0
  go_wp2
  go_ret
  rw [hR.out]
  exact ⟨rfl, HW.out.on HB.out, KeepBut.of_below HB.out g none⟩
theorem parR1_ok (hI : Inner t) (n : Nat) {p : Prs} {v u : S47} (hp : Pok t p) (hv : InT t v.f1) (hu : InT t u.f1) : Pok t (parR1 (sameF t n) p v u).2 ∧ p.length ≤ (parR1 (sameF t n) p v u).2.length := by
 unfold parR1
 split
 · exact sameF_ok hI n p _ _ hp hv hu
 · exact ⟨hp, Nat.le_refl _⟩
set_option maxHeartbeats 16000000 in
set_option maxRecDepth 100000 in
theorem equal_calls (hI : Inner t) (h : SameAt t w0 A c g n) {w : World} {q r : Nat} (h4 : w.cell? ⟨q, 0, none⟩ = some (.map (some g))) (h5 : w.cell? ⟨r, 0, none⟩ = some (.slice A t.length c)) (hqg : q ≠ g) (hrg : r ≠ g) {p : Prs} (hp : Pok t p) (hf : t.length * t.length < p.length + n) (hw : WP w0 g p w)
 {vs us : List S47} {A1 A2 : Option Addr} {c1 c2 : Nat} (C1 : Kd.C k47 w0 A1 vs.length vs) (C2 : Kd.C k47 w0 A2 us.length us) (hv : ∀ v ∈ vs, InT t v.f1) (hu : ∀ v ∈ us, InT t v.f1) (hl4 : vs.length ≤ 4000) :
 Calls Try.prog 74 #[.slice A1 vs.length c1, .slice A2 us.length c2, .func (.func 75) #[] #[.pointer (some ⟨q, 0, none⟩), .pointer (some ⟨r, 0, none⟩)]] w fun e w' =>
  e = .returned (.bool (equalR (sameF t n) p vs us).1) ∧ WP w0 g (equalR (sameF t n) p vs us).2 w' ∧ KeepBut w w' g none := by
 have H := Aside0.mk h
 have HW := Aside0.mk hw
 have HP := Aside0.mk hp
 have H4 := Aside0.mk h4
 have H5 := Aside0.mk h5
 have HC1 := Aside0.mk C1
 have HC2 := Aside0.mk C2
 clear h hw hp h4 h5 C1 C2
 go_enter Try.func74, Try.ntmps74
 by_cases hlen : vs.length = us.length
 ·
  have b0 : ((vs.length : Int) != (us.length : Int)) = false := by simp [hlen]
  have hR : Aside0 (equalR (sameF t n) p vs us = parsR (sameF t n) p vs us) := ⟨by unfold equalR; rw [if_pos hlen]⟩
  replace hlen := Aside0.mk hlen
  go_wp2
  go_loopw [17] (fun i wr => ∃ (i0 : Nat) (p1 : Prs), i0 ≤ vs.length ∧ i = .int .i64 i0 ∧ Aside0 (Pok t p1 ∧ p.length ≤ p1.length ∧ parsR (sameF t n) p vs us = parsR (sameF t n) p1 (vs.drop i0) (us.drop i0)) ∧ Aside0 (WP w0 g p1 wr) ∧ Aside0 (KeepBut w wr g none)) (fun i _ => vs.length - (intOf i).toNat)
  case atStart => exact ⟨0, p, Nat.zero_le _, rfl, ⟨HP.out, Nat.le_refl _, rfl⟩, ⟨HW.out⟩, ⟨KeepBut.refl _ _ _⟩⟩
  case round =>
   obtain ⟨wo, rfl⟩ : ∃ wo : World, wo = wr := ⟨_, rfl⟩
   obtain ⟨i0, p1, hi0, rfl, HQ, HW1, HK1⟩ := hrel
   by_cases hlt : i0 < vs.length
   ·
    have hx : decide ((i0 : Int) < (vs.length : Int)) = true := decide_eq_true (by omega)
    have hin1 := size_in hlt
    have hlt2 : i0 < us.length := by have := hlen.out; omega
    have hin2 := size_in hlt2
    obtain ⟨ad1, hA1, q0, q1⟩ := at_T47 (Kd.C_below HC1.out HW1.out.below) (i0 : Int) (by omega) (by omega)
    obtain ⟨ad2, hA2, r0, r1⟩ := at_T47 (Kd.C_below HC2.out HW1.out.below) (i0 : Int) (by omega) (by omega)
    subst hA1 hA2
    have hk00 : ((i0 : Nat) : Int).toNat = i0 := by omega
    rw [hk00] at q0 q1 r0 r1
    have e1 : rd_T47 vs (i0 : Int) = vs[i0] := by unfold rd_T47; simp [List.getD_eq_getElem?_getD, List.getElem?_eq_getElem hlt]
    have e2 : rd_T47 us (i0 : Int) = us[i0] := by unfold rd_T47; simp [List.getD_eq_getElem?_getD, List.getElem?_eq_getElem hlt2]
    have hst := Aside0.mk (parsR_step (sameF t n) p1 vs us hlt hlt2)
    have hv1 := Aside0.mk (hv _ (List.getElem_mem hlt))
    have hu1 := Aside0.mk (hu _ (List.getElem_mem hlt2))
    rw [e1] at q0 q1
    rw [e2] at r0 r1
    clear e1 e2 hk00
    generalize vs[i0] = v at q0 q1 hst hv1
    generalize us[i0] = u at r0 r1 hst hu1
    go_upto_region 6 with fail
    have hb1 : Below wo.heap.size wo (wo.alloc (.cells #[.bool v.f0, .int .i64 v.f1] 47)) := below_alloc (Below.refl _ _) _
    have r0' := (hb1.cell (World.block_lt_of_cell? wo _ r0)).trans r0
    have r1' := (hb1.cell (World.block_lt_of_cell? wo _ r1)).trans r1
    clear hb1 q0 q1 r0 r1
    go_upto_region 7 with fail
    clear r0' r1'
    have hb2 : Below wo.heap.size wo ((wo.alloc (.cells #[.bool v.f0, .int .i64 v.f1] 47)).alloc (.cells #[.bool u.f0, .int .i64 u.f1] 47)) := below_alloc (below_alloc (Below.refl _ _) _) _
    have HW2 := Aside0.mk (HW1.out.on hb2)
    have HK2 := Aside0.mk (HK1.out.trans (KeepBut.of_below hb2 g none) (.inl rfl))
    have hpok := Aside0.mk (parR1_ok hI n HQ.out.1 hv1.out hu1.out)
    clear hb2
    obtain ⟨r1, hr1⟩ : ∃ r1, r1 = parR1 (sameF t n) p1 v u := ⟨_, rfl⟩
    rw [← hr1] at hst hpok
    have hr1' := Aside0.mk hr1
    clear hr1
    obtain ⟨rb, rp⟩ := r1
    dsimp only at hst hpok
    cases rb with
    | true =>
     rw [if_pos rfl] at hst
     go_wp2_with (go_at_call 75; refine (clos_calls H.out (keep_cell HK2.out H4.out hqg) (keep_cell HK2.out H5.out hrg) HQ.out.1 (by have := HQ.out.2.1; omega) HW2.out v u hv1.out hu1.out).mono ?_; rw [← hr1'.out]; rintro e w4 ⟨rfl, hW4, hK4⟩)
     have HW4 := Aside0.mk hW4
     have HK4 := Aside0.mk (HK2.out.trans hK4 (.inl rfl))
     clear hW4 hK4
     go_wp2
     go_roundw
     case rel => exact ⟨i0 + 1, rp, by omega, by go_num, ⟨hpok.out.1, Nat.le_trans HQ.out.2.1 hpok.out.2, HQ.out.2.2.trans hst.out⟩, HW4, HK4⟩
     case measure => simp [intOf]; omega
    | false =>
     rw [if_neg (by decide)] at hst
     have hE : Aside0 (parsR (sameF t n) p vs us = (false, rp)) := ⟨HQ.out.2.2.trans hst.out⟩
     go_wp2_with (go_at_call 75; refine (clos_calls H.out (keep_cell HK2.out H4.out hqg) (keep_cell HK2.out H5.out hrg) HQ.out.1 (by have := HQ.out.2.1; omega) HW2.out v u hv1.out hu1.out).mono ?_; rw [← hr1'.out]; rintro e w4 ⟨rfl, hW4, hK4⟩)
     have HW4 := Aside0.mk hW4
     have HK4 := Aside0.mk (HK2.out.trans hK4 (.inl rfl))
     clear hW4 hK4
     go_wp2
     go_ret
     rw [hR.out, hE.out]
     exact ⟨rfl, HW4.out, HK4.out⟩
   ·
    have hx : decide ((i0 : Int) < (vs.length : Int)) = false := decide_eq_false (by omega)
    have hE : Aside0 (parsR (sameF t n) p vs us = (true, p1)) := ⟨by rw [HQ.out.2.2, List.drop_eq_nil_of_le (by omega), parsR]; simp⟩
    go_wp2
    go_ret
    rw [hR.out, hE.out]
    exact ⟨rfl, HW1.out, HK1.out⟩
 ·
  have b0 : ((vs.length : Int) != (us.length : Int)) = true := by simp; omega
  have hR : Aside0 (equalR (sameF t n) p vs us = (false, p)) := ⟨by unfold equalR; rw [if_neg hlen]⟩
  go_wp2
  go_ret
  rw [hR.out]
  exact ⟨rfl, HW.out, KeepBut.refl _ _ _⟩
end
end Go.Proofs.Ytgnbemgeiloegaa.Tg
namespace Go.Proofs.Ytgnbemgeiloegaa.Tg
open Go.RowKit Go.Maps Go.WideMaps
open Go.Proofs.YtgnbemgeiloegaaW.PrintWords Go.Proofs.YtgnbemgeiloegaaW.PrintLast Go.Proofs.YtgnbemgeiloegaaW.PrintMore
set_option linter.unusedVariables false
set_option linter.unusedSimpArgs false
open Go.Proofs.Ytgnbemgeiloegaa.PTypesGoods (S40 S42 S47 k40 k42 k47 rd_T40 rd_T42 rd_T47 at_T40 at_T42 at_T47)
def rowX (x : S40) (A6 : Option Addr) (c6 : Nat) (A7 : Option Addr) (c7 : Nat) : List Value :=
 [.int .i64 x.f0, .string x.f1, .string x.f2, .int .i64 x.f3, .int .i64 x.f4, .int .i64 x.f5, .slice A6 x.f6.length c6, .slice A7 x.f7.length c7, .int .i64 x.f8, .int .i64 x.f9]
structure CellsX (w : World) (ad : Addr) (x : S40) (A6 : Option Addr) (c6 : Nat) (A7 : Option Addr) (c7 : Nat) : Prop where
 k0 : w.cell? ad = some (.int .i64 x.f0)
 k1 : w.cell? ⟨ad.block, ad.off + 1, none⟩ = some (.string x.f1)
 k2 : w.cell? ⟨ad.block, ad.off + 2, none⟩ = some (.string x.f2)
 k3 : w.cell? ⟨ad.block, ad.off + 3, none⟩ = some (.int .i64 x.f3)
 k4 : w.cell? ⟨ad.block, ad.off + 4, none⟩ = some (.int .i64 x.f4)
 k5 : w.cell? ⟨ad.block, ad.off + 5, none⟩ = some (.int .i64 x.f5)
 k6 : w.cell? ⟨ad.block, ad.off + 6, none⟩ = some (.slice A6 x.f6.length c6)
 k7 : w.cell? ⟨ad.block, ad.off + 7, none⟩ = some (.slice A7 x.f7.length c7)
 k8 : w.cell? ⟨ad.block, ad.off + 8, none⟩ = some (.int .i64 x.f8)
 k9 : w.cell? ⟨ad.block, ad.off + 9, none⟩ = some (.int .i64 x.f9)
theorem CellsX.on {w w2 : World} {ad : Addr} {x : S40} {A6 : Option Addr} {c6 : Nat} {A7 : Option Addr} {c7 : Nat} (h : CellsX w ad x A6 c6 A7 c7) (hb : Below w.heap.size w w2) : CellsX w2 ad x A6 c6 A7 c7 := by
 have k : ∀ (a : Addr) (v : Value), w.cell? a = some v → w2.cell? a = some v := fun a v e => (hb.cell (World.block_lt_of_cell? w _ e)).trans e
 exact ⟨k _ _ h.k0, k _ _ h.k1, k _ _ h.k2, k _ _ h.k3, k _ _ h.k4, k _ _ h.k5, k _ _ h.k6, k _ _ h.k7, k _ _ h.k8, k _ _ h.k9⟩
def HeldT (q : Nat) (sl : Value) (ax ay : Addr) (x y : S40) (A6 : Option Addr) (c6 : Nat) (A7 : Option Addr) (c7 : Nat) (B6 : Option Addr) (d6 : Nat) (B7 : Option Addr) (d7 : Nat) (w : World) : Prop :=
 w.cell? ⟨q, 0, none⟩ = some sl ∧ CellsX w ax x A6 c6 A7 c7 ∧ CellsX w ay y B6 d6 B7 d7
theorem HeldT.on {q : Nat} {sl : Value} {ax ay : Addr} {x y : S40} {A6 : Option Addr} {c6 : Nat} {A7 : Option Addr} {c7 : Nat} {B6 : Option Addr} {d6 : Nat} {B7 : Option Addr} {d7 : Nat} {w w2 : World}
 (h : HeldT q sl ax ay x y A6 c6 A7 c7 B6 d6 B7 d7 w) (hb : Below w.heap.size w w2) : HeldT q sl ax ay x y A6 c6 A7 c7 B6 d6 B7 d7 w2 :=
 ⟨(hb.cell (World.block_lt_of_cell? w _ h.1)).trans h.1, h.2.1.on hb, h.2.2.on hb⟩
def zeroX : Array Value := #[.int .i64 0, .string ⟨#[]⟩, .string ⟨#[]⟩, .int .i64 0, .int .i64 0, .int .i64 0, .slice none 0 0, .slice none 0 0, .int .i64 0, .int .i64 0]
structure TB (w0 w : World) (g : Nat) (sl : Value) (bx b_y : Nat) (xs ys : Array Value) (p : Prs) (wr : World) : Prop where
 wp : WP w0 g p wr
 keep : KeepBut w wr g none
 m : wr.heap[w.heap.size]? = some (.cells #[.map (some g)] 76 (0, 0))
 s : wr.heap[w.heap.size + 1]? = some (.cells #[sl] 22 (0, 0))
 x : wr.heap[bx]? = some (.cells xs 40 (0, 0))
 y : wr.heap[b_y]? = some (.cells ys 40 (0, 0))
 nx : w.heap.size ≤ bx
 ny : w.heap.size ≤ b_y
 ng : g < w.heap.size
 ne : bx ≠ b_y
 base : w0.heap.size ≤ w.heap.size
section
variable {w0 w wr : World} {g : Nat} {sl : Value} {bx b_y : Nat} {xs ys : Array Value} {p : Prs}
theorem TB.next (h : TB w0 w g sl bx b_y xs ys p wr) {p2 : Prs} {w2 : World} (hw : WP w0 g p2 w2) (hk : KeepBut wr w2 g none) : TB w0 w g sl bx b_y xs ys p2 w2 := by
 have hg := h.ng
 have hx := h.nx
 have hy := h.ny
 exact ⟨hw, h.keep.trans hk (.inl rfl), hk.blk h.m (by omega) (by simp), hk.blk h.s (by omega) (by simp), hk.blk h.x (by omega) (by simp), hk.blk h.y (by omega) (by simp), hx, hy, hg, h.ne, h.base⟩
theorem TB.on (h : TB w0 w g sl bx b_y xs ys p wr) {w2 : World} (hb : Below wr.heap.size wr w2) : TB w0 w g sl bx b_y xs ys p w2 := h.next (h.wp.on hb) (KeepBut.of_below hb g none)
theorem TB.drewN (h : TB w0 w g sl bx b_y xs ys p wr) (n : Nat) : TB w0 w g sl bx b_y xs ys p (wr.drewN n) := h.on ⟨rfl, rfl, rfl, Nat.le_refl _, fun _ _ => rfl⟩
theorem TB.cm (h : TB w0 w g sl bx b_y xs ys p wr) : wr.cell? ⟨w.heap.size, 0, none⟩ = some (.map (some g)) := by rw [cell_of_row wr _ _ _ _ _ h.m]; rfl
theorem TB.cs (h : TB w0 w g sl bx b_y xs ys p wr) : wr.cell? ⟨w.heap.size + 1, 0, none⟩ = some sl := by rw [cell_of_row wr _ _ _ _ _ h.s]; rfl
theorem TB.cx (h : TB w0 w g sl bx b_y xs ys p wr) (k : Nat) (v : Value) (hk : xs[k]? = some v) : wr.cell? ⟨bx, k, none⟩ = some v := by rw [cell_of_row wr _ _ _ _ _ h.x]; exact hk
theorem TB.cy (h : TB w0 w g sl bx b_y xs ys p wr) (k : Nat) (v : Value) (hk : ys[k]? = some v) : wr.cell? ⟨b_y, k, none⟩ = some v := by rw [cell_of_row wr _ _ _ _ _ h.y]; exact hk
theorem box_whole {W : World} {b : Nat} {cur : Array Value} {ty : TypeId} (ys : List Value) (h : W.heap[b]? = some (.cells cur ty (0, 0))) (hl : ys.length = cur.size) : (W.setCells b 0 ys).heap[b]? = some (.cells ys.toArray ty (0, 0)) := by
 obtain ⟨cur', b1, b2, b3⟩ := setCells_row ys 0 W _ h (by omega)
 rw [b1]
 have e : cur' = ys.toArray := by
  apply Array.toList_inj.1
  rw [b3]
  simp [hl]
 rw [e]
theorem TB.putx (h : TB w0 w g sl bx b_y xs ys p wr) (zs : List Value) (hl : zs.length = xs.size) : TB w0 w g sl bx b_y zs.toArray ys p (wr.setCells bx 0 zs) := by
 have hg := h.ng
 have hx := h.nx
 have hy := h.ny
 have hne := h.ne
 obtain ⟨s1, s2, s3, s4⟩ := setCells_same bx zs 0 wr
 have hbw := h.wp.map.lt
 have hmx : w.heap.size + 1 < wr.heap.size := blk_lt h.s
 have hxlt := blk_lt h.x
 have far : ∀ k, k ≠ bx → (wr.setCells bx 0 zs).heap[k]? = wr.heap[k]? := fun k hk => setCells_far zs 0 k hk
 have hm : bx ≠ w.heap.size := fun e => by
  have h1 := h.m
  rw [← e, h.x] at h1
  simp at h1
 have hs : bx ≠ w.heap.size + 1 := fun e => by
  have h1 := h.s
  rw [← e, h.x] at h1
  simp at h1
 have hk := h.keep
 have hgw := h.wp.below
 refine ⟨⟨h.wp.map.kept (far g (by omega)), ?_⟩, ⟨by rw [s4]; exact hk.1, fun i hi h1 h2 => (far i (by omega)).trans (hk.2 i hi h1 h2)⟩, (far _ (Ne.symm hm)).trans h.m, (far _ (Ne.symm hs)).trans h.s, box_whole zs h.x hl, (far _ (Ne.symm hne)).trans h.y, hx, hy, hg, hne, h.base⟩
 have hbs := h.base
 exact hgw.trans ⟨s1, s2, s3, by rw [s4]; exact Nat.le_refl _, fun k hk => far k (by omega)⟩
theorem TB.puty (h : TB w0 w g sl bx b_y xs ys p wr) (zs : List Value) (hl : zs.length = ys.size) : TB w0 w g sl bx b_y xs zs.toArray p (wr.setCells b_y 0 zs) := by
 have hg := h.ng
 have hx := h.nx
 have hy := h.ny
 have hne := h.ne
 obtain ⟨s1, s2, s3, s4⟩ := setCells_same b_y zs 0 wr
 have hbw := h.wp.map.lt
 have hmx : w.heap.size + 1 < wr.heap.size := blk_lt h.s
 have hxlt := blk_lt h.y
 have far : ∀ k, k ≠ b_y → (wr.setCells b_y 0 zs).heap[k]? = wr.heap[k]? := fun k hk => setCells_far zs 0 k hk
 have hm : b_y ≠ w.heap.size := fun e => by
  have h1 := h.m
  rw [← e, h.y] at h1
  simp at h1
 have hs : b_y ≠ w.heap.size + 1 := fun e => by
  have h1 := h.s
  rw [← e, h.y] at h1
  simp at h1
 have hk := h.keep
 have hgw := h.wp.below
 refine ⟨⟨h.wp.map.kept (far g (by omega)), ?_⟩, ⟨by rw [s4]; exact hk.1, fun i hi h1 h2 => (far i (by omega)).trans (hk.2 i hi h1 h2)⟩, (far _ (Ne.symm hm)).trans h.m, (far _ (Ne.symm hs)).trans h.s, (far _ hne).trans h.x, box_whole zs h.y hl, hx, hy, hg, hne, h.base⟩
 have hbs := h.base
 exact hgw.trans ⟨s1, s2, s3, by rw [s4]; exact Nat.le_refl _, fun k hk => far k (by omega)⟩
theorem TB.made {wa : World} (hm : wa.heap[w.heap.size]? = some (.cells #[.map (some g)] 76 (0, 0))) (hs : wa.heap[w.heap.size + 1]? = some (.cells #[sl] 22 (0, 0))) (hw : WP w0 g p wa) (hk : KeepBut w wa g none) (hng : g < w.heap.size) (hb : w0.heap.size ≤ w.heap.size) (hz : w.heap.size ≤ wa.heap.size) (o : Bool) :
 TB w0 w g sl (if o then wa.heap.size else wa.heap.size + 1) (if o then wa.heap.size + 1 else wa.heap.size) zeroX zeroX p ((wa.alloc (.cells zeroX 40)).alloc (.cells zeroX 40)) := by
 have hB : Below wa.heap.size wa ((wa.alloc (.cells zeroX 40)).alloc (.cells zeroX 40)) := below_alloc (below_alloc (Below.refl _ _) _) _
 have e1 : ((wa.alloc (.cells zeroX 40)).alloc (.cells zeroX 40)).heap[wa.heap.size]? = some (.cells zeroX 40 (0, 0)) := by
  rw [Below.heap_alloc _ _ _ (by simp)]
  exact heap_alloc_new _ _
 have e2 : ((wa.alloc (.cells zeroX 40)).alloc (.cells zeroX 40)).heap[wa.heap.size + 1]? = some (.cells zeroX 40 (0, 0)) := by
  have := heap_alloc_new (wa.alloc (.cells zeroX 40)) (.cells zeroX 40)
  rwa [World.size_alloc] at this
 have hk2 := KeepBut.of_below hB g none
 refine ⟨hw.on hB, hk.trans hk2 (.inl rfl), hk2.blk hm (by omega) (by simp), hk2.blk hs (by omega) (by simp), ?_, ?_, ?_, ?_, hng, ?_, hb⟩
 · cases o <;> assumption
 · cases o <;> assumption
 · cases o <;> simp <;> omega
 · cases o <;> simp <;> omega
 · cases o <;> simp
theorem TB.held (h : TB w0 w g sl bx b_y xs ys p wr) {ax ay : Addr} {x y : S40} {A6 : Option Addr} {c6 : Nat} {A7 : Option Addr} {c7 : Nat} {B6 : Option Addr} {d6 : Nat} {B7 : Option Addr} {d7 : Nat}
 (hx : CellsX w0 ax x A6 c6 A7 c7) (hy : CellsX w0 ay y B6 d6 B7 d7) : HeldT (w.heap.size + 1) sl ax ay x y A6 c6 A7 c7 B6 d6 B7 d7 wr := ⟨h.cs, hx.on h.wp.below, hy.on h.wp.below⟩
end
end Go.Proofs.Ytgnbemgeiloegaa.Tg
