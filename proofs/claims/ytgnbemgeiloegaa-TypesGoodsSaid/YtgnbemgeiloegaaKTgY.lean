import Derived.Test.YtgnbemgeiloegaaKTgX
namespace Go.Proofs.Ytgnbemgeiloegaa.Tg
open Go.RowKit Go.Maps Go.WideMaps
open Go.Proofs.YtgnbemgeiloegaaW.PrintWords Go.Proofs.YtgnbemgeiloegaaW.PrintLast Go.Proofs.YtgnbemgeiloegaaW.PrintMore
set_option linter.unusedVariables false
set_option linter.unusedSimpArgs false
open Go.Proofs.Ytgnbemgeiloegaa.PTypesGoods (S40 S42 S47 k40 k42 k47 rd_T40 rd_T42 rd_T47 at_T40 at_T42 at_T47)
def parR1 (f : Prs → Int → Int → Bool × Prs) (p : Prs) (v u : S47) : Bool × Prs := if v.f0 = u.f0 then f p v.f1 u.f1 else (false, p)
theorem parsR_step (f : Prs → Int → Int → Bool × Prs) (p : Prs) (vs us : List S47) {i : Nat} (h1 : i < vs.length) (h2 : i < us.length) :
    parsR f p (vs.drop i) (us.drop i) = if (parR1 f p vs[i] us[i]).1 = true then parsR f (parR1 f p vs[i] us[i]).2 (vs.drop (i + 1)) (us.drop (i + 1)) else ((parR1 f p vs[i] us[i])) := by
  rw [List.drop_eq_getElem_cons h1, List.drop_eq_getElem_cons h2]
  rw [parsR]
  unfold parR1
  split <;> simp_all
def equalR (f : Prs → Int → Int → Bool × Prs) (p : Prs) (vs us : List S47) : Bool × Prs := if vs.length = us.length then parsR f p vs us else (false, p)
section
variable {t : List S40} {w0 : World} {A : Option Addr} {c g n : Nat}
set_option maxHeartbeats 16000000 in
set_option maxRecDepth 100000 in
theorem clos_calls (h : SameAt t w0 A c g n) {w : World} {q r : Nat} (h4 : w.cell? ⟨q, 0, none⟩ = some (.map (some g))) (h5 : w.cell? ⟨r, 0, none⟩ = some (.slice A t.length c)) {p : Prs} (hp : Pok t p) (hf : t.length * t.length < p.length + n) (hw : WP w0 g p w)
    (v u : S47) (hv : InT t v.f1) (hu : InT t u.f1) :
    Calls Try.prog 75 #[.agg #[.bool v.f0, .int .i64 v.f1], .agg #[.bool u.f0, .int .i64 u.f1], .pointer (some ⟨q, 0, none⟩), .pointer (some ⟨r, 0, none⟩)] w fun e w' =>
      e = .returned (.bool (parR1 (sameF t n) p v u).1) ∧ WP w0 g (parR1 (sameF t n) p v u).2 w' ∧ KeepBut w w' g none := by
  have H := Aside0.mk h
  have HW := Aside0.mk hw
  have HP := Aside0.mk hp
  clear h hw hp
  have hq := World.block_lt_of_cell? w _ h4
  have hr := World.block_lt_of_cell? w _ h5
  go_enter Try.func75, Try.ntmps75
  go_upto_region 1 with fail
  have hb : Below w.heap.size w ((w.alloc (.cells #[.bool v.f0, .int .i64 v.f1] 47)).alloc (.cells #[.bool u.f0, .int .i64 u.f1] 47)) := below_alloc (below_alloc (Below.refl _ _) _) _
  have h4' := (hb.cell (p := ⟨q, 0, none⟩) hq).trans h4
  have h5' := (hb.cell (p := ⟨r, 0, none⟩) hr).trans h5
  have HB := Aside0.mk hb
  clear hb h4 h5
  by_cases e0 : v.f0 = u.f0
  · have hR : Aside0 (parR1 (sameF t n) p v u = sameF t n p v.f1 u.f1) := ⟨by simp [parR1, e0]⟩
    have b0 : (v.f0 == u.f0) = true := by simp [e0]
    clear e0
    go_wp2_with (go_at_call 65; refine (H.out p _ _ _ HP.out hv hu hf (HW.out.on HB.out)).mono ?_; rintro e w4 ⟨rfl, hW4, hK4⟩)
    go_ret
    rw [hR.out]
    exact ⟨rfl, hW4, (KeepBut.of_below HB.out g none).trans hK4 (.inl rfl)⟩
  · have hR : Aside0 (parR1 (sameF t n) p v u = (false, p)) := ⟨by simp [parR1, e0]⟩
    have b0 : (v.f0 == u.f0) = false := by simp [e0]
    clear e0
    go_wp2
    go_ret
    rw [hR.out]
    exact ⟨rfl, HW.out.on HB.out, KeepBut.of_below HB.out g none⟩
theorem parR1_ok (hI : Inner t) (n : Nat) {p : Prs} {v u : S47} (hp : Pok t p) (hv : InT t v.f1) (hu : InT t u.f1) : Pok t (parR1 (sameF t n) p v u).2 ∧ p.length ≤ (parR1 (sameF t n) p v u).2.length := by
  unfold parR1
  split
  · exact sameF_ok hI n p _ _ hp hv hu
  · exact ⟨hp, Nat.le_refl _⟩
set_option maxHeartbeats 16000000 in
set_option maxRecDepth 100000 in
theorem equal_calls (hI : Inner t) (h : SameAt t w0 A c g n) {w : World} {q r : Nat} (h4 : w.cell? ⟨q, 0, none⟩ = some (.map (some g))) (h5 : w.cell? ⟨r, 0, none⟩ = some (.slice A t.length c)) (hqg : q ≠ g) (hrg : r ≠ g) {p : Prs} (hp : Pok t p) (hf : t.length * t.length < p.length + n) (hw : WP w0 g p w)
    {vs us : List S47} {A1 A2 : Option Addr} {c1 c2 : Nat} (C1 : Kd.C k47 w0 A1 vs.length vs) (C2 : Kd.C k47 w0 A2 us.length us) (hv : ∀ v ∈ vs, InT t v.f1) (hu : ∀ v ∈ us, InT t v.f1) (hl4 : vs.length ≤ 4000) :
    Calls Try.prog 74 #[.slice A1 vs.length c1, .slice A2 us.length c2, .func (.func 75) #[] #[.pointer (some ⟨q, 0, none⟩), .pointer (some ⟨r, 0, none⟩)]] w fun e w' =>
      e = .returned (.bool (equalR (sameF t n) p vs us).1) ∧ WP w0 g (equalR (sameF t n) p vs us).2 w' ∧ KeepBut w w' g none := by
  have H := Aside0.mk h
  have HW := Aside0.mk hw
  have HP := Aside0.mk hp
  have H4 := Aside0.mk h4
  have H5 := Aside0.mk h5
  have HC1 := Aside0.mk C1
  have HC2 := Aside0.mk C2
  clear h hw hp h4 h5 C1 C2
  go_enter Try.func74, Try.ntmps74
  by_cases hlen : vs.length = us.length
  · have b0 : ((vs.length : Int) != (us.length : Int)) = false := by simp [hlen]
    have hR : Aside0 (equalR (sameF t n) p vs us = parsR (sameF t n) p vs us) := ⟨by unfold equalR; rw [if_pos hlen]⟩
    replace hlen := Aside0.mk hlen
    go_wp2
    go_loopw [17] (fun i wr => ∃ (i0 : Nat) (p1 : Prs), i0 ≤ vs.length ∧ i = .int .i64 i0 ∧ Aside0 (Pok t p1 ∧ p.length ≤ p1.length ∧ parsR (sameF t n) p vs us = parsR (sameF t n) p1 (vs.drop i0) (us.drop i0)) ∧ Aside0 (WP w0 g p1 wr) ∧ Aside0 (KeepBut w wr g none)) (fun i _ => vs.length - (intOf i).toNat)
    case atStart => exact ⟨0, p, Nat.zero_le _, rfl, ⟨HP.out, Nat.le_refl _, rfl⟩, ⟨HW.out⟩, ⟨KeepBut.refl _ _ _⟩⟩
    case round =>
      obtain ⟨wo, rfl⟩ : ∃ wo : World, wo = wr := ⟨_, rfl⟩
      obtain ⟨i0, p1, hi0, rfl, HQ, HW1, HK1⟩ := hrel
      by_cases hlt : i0 < vs.length
      · have hx : decide ((i0 : Int) < (vs.length : Int)) = true := decide_eq_true (by omega)
        have hin1 := size_in hlt
        have hlt2 : i0 < us.length := by have := hlen.out; omega
        have hin2 := size_in hlt2
        obtain ⟨ad1, hA1, q0, q1⟩ := at_T47 (Kd.C_below HC1.out HW1.out.below) (i0 : Int) (by omega) (by omega)
        obtain ⟨ad2, hA2, r0, r1⟩ := at_T47 (Kd.C_below HC2.out HW1.out.below) (i0 : Int) (by omega) (by omega)
        subst hA1 hA2
        have hk00 : ((i0 : Nat) : Int).toNat = i0 := by omega
        rw [hk00] at q0 q1 r0 r1
        have e1 : rd_T47 vs (i0 : Int) = vs[i0] := by unfold rd_T47; simp [List.getD_eq_getElem?_getD, List.getElem?_eq_getElem hlt]
        have e2 : rd_T47 us (i0 : Int) = us[i0] := by unfold rd_T47; simp [List.getD_eq_getElem?_getD, List.getElem?_eq_getElem hlt2]
        have hst := Aside0.mk (parsR_step (sameF t n) p1 vs us hlt hlt2)
        have hv1 := Aside0.mk (hv _ (List.getElem_mem hlt))
        have hu1 := Aside0.mk (hu _ (List.getElem_mem hlt2))
        rw [e1] at q0 q1
        rw [e2] at r0 r1
        clear e1 e2 hk00
        generalize vs[i0] = v at q0 q1 hst hv1
        generalize us[i0] = u at r0 r1 hst hu1
        go_upto_region 6 with fail
        have hb1 : Below wo.heap.size wo (wo.alloc (.cells #[.bool v.f0, .int .i64 v.f1] 47)) := below_alloc (Below.refl _ _) _
        have r0' := (hb1.cell (World.block_lt_of_cell? wo _ r0)).trans r0
        have r1' := (hb1.cell (World.block_lt_of_cell? wo _ r1)).trans r1
        clear hb1 q0 q1 r0 r1
        go_upto_region 7 with fail
        clear r0' r1'
        have hb2 : Below wo.heap.size wo ((wo.alloc (.cells #[.bool v.f0, .int .i64 v.f1] 47)).alloc (.cells #[.bool u.f0, .int .i64 u.f1] 47)) := below_alloc (below_alloc (Below.refl _ _) _) _
        have HW2 := Aside0.mk (HW1.out.on hb2)
        have HK2 := Aside0.mk (HK1.out.trans (KeepBut.of_below hb2 g none) (.inl rfl))
        have hpok := Aside0.mk (parR1_ok hI n HQ.out.1 hv1.out hu1.out)
        clear hb2
        obtain ⟨r1, hr1⟩ : ∃ r1, r1 = parR1 (sameF t n) p1 v u := ⟨_, rfl⟩
        rw [← hr1] at hst hpok
        have hr1' := Aside0.mk hr1
        clear hr1
        obtain ⟨rb, rp⟩ := r1
        dsimp only at hst hpok
        cases rb with
        | true =>
          rw [if_pos rfl] at hst
          go_wp2_with (go_at_call 75; refine (clos_calls H.out (keep_cell HK2.out H4.out hqg) (keep_cell HK2.out H5.out hrg) HQ.out.1 (by have := HQ.out.2.1; omega) HW2.out v u hv1.out hu1.out).mono ?_; rw [← hr1'.out]; rintro e w4 ⟨rfl, hW4, hK4⟩)
          have HW4 := Aside0.mk hW4
          have HK4 := Aside0.mk (HK2.out.trans hK4 (.inl rfl))
          clear hW4 hK4
          go_wp2
          go_roundw
          case rel => exact ⟨i0 + 1, rp, by omega, by go_num, ⟨hpok.out.1, Nat.le_trans HQ.out.2.1 hpok.out.2, HQ.out.2.2.trans hst.out⟩, HW4, HK4⟩
          case measure => simp [intOf]; omega
        | false =>
          rw [if_neg (by decide)] at hst
          have hE : Aside0 (parsR (sameF t n) p vs us = (false, rp)) := ⟨HQ.out.2.2.trans hst.out⟩
          go_wp2_with (go_at_call 75; refine (clos_calls H.out (keep_cell HK2.out H4.out hqg) (keep_cell HK2.out H5.out hrg) HQ.out.1 (by have := HQ.out.2.1; omega) HW2.out v u hv1.out hu1.out).mono ?_; rw [← hr1'.out]; rintro e w4 ⟨rfl, hW4, hK4⟩)
          have HW4 := Aside0.mk hW4
          have HK4 := Aside0.mk (HK2.out.trans hK4 (.inl rfl))
          clear hW4 hK4
          go_wp2
          go_ret
          rw [hR.out, hE.out]
          exact ⟨rfl, HW4.out, HK4.out⟩
      · have hx : decide ((i0 : Int) < (vs.length : Int)) = false := decide_eq_false (by omega)
        have hE : Aside0 (parsR (sameF t n) p vs us = (true, p1)) := ⟨by rw [HQ.out.2.2, List.drop_eq_nil_of_le (by omega), parsR]; simp⟩
        go_wp2
        go_ret
        rw [hR.out, hE.out]
        exact ⟨rfl, HW1.out, HK1.out⟩
  · have b0 : ((vs.length : Int) != (us.length : Int)) = true := by simp; omega
    have hR : Aside0 (equalR (sameF t n) p vs us = (false, p)) := ⟨by unfold equalR; rw [if_neg hlen]⟩
    go_wp2
    go_ret
    rw [hR.out]
    exact ⟨rfl, HW.out, KeepBut.refl _ _ _⟩
end
end Go.Proofs.Ytgnbemgeiloegaa.Tg
