/- The Go law NeedParts at an expression: true. -/
import Derived.Test.YthhefcdbakcdfaaNeedF
namespace Go.Proofs.Ythhefcdbakcdfaa.PNeedTells
open Go.RowKit Go.Proofs.YthhefcdbakcdfaaW.PrintWords Go.Proofs.YthhefcdbakcdfaaW.PrintLast Go.Proofs.YthhefcdbakcdfaaW.PrintMore
attribute [local go_sem] max2_int min2_int max_two min_two max_three min_three max_four min_four

theorem ndL_part (k : Int) : ∀ (l : List S24) (i n : Int), 0 ≤ i → ∀ x ∈ l, ndE x ≤ ndL k l i n
  | [], _, _ => fun _ x hx => by cases hx
  | e :: r, i, n => fun hi x hx => by
    simp only [ndL]
    rcases List.mem_cons.1 hx with rfl | hx
    · refine Int.le_trans ?_ (ndL_ge k r _ _)
      unfold mx
      repeat (first | omega | split)
    · exact ndL_part k r _ _ (by omega) x hx
theorem ndE_part (e : S24) (x : S24) (hx : x ∈ e.f4) : ndE x ≤ ndE e := by
  obtain ⟨f0, f1, f2, f3, f4, f5⟩ := e
  have h1 := ndL_part f0 f4 0 1 (by omega) x hx
  have h2 := ndE_bd x
  simp only [ndE] at h2 ⊢
  unfold mn
  split <;> omega
theorem sm_mem : ∀ {l : List S24}, SmL l → ∀ x ∈ l, SmE x
  | [], _, x, hx => by cases hx
  | e :: r, h, x, hx => by
    simp only [SmL] at h
    rcases List.mem_cons.1 hx with rfl | hx
    · exact h.1
    · exact sm_mem h.2 x hx
theorem rd_mem {l : List S24} {j : Nat} (hj : j < l.length) : rd_T24 l j ∈ l := by
  have e : rd_T24 l j = l[j] := by simp [rd_T24, List.getD, List.getElem?_eq_getElem hj]
  rw [e]
  exact List.getElem_mem hj
theorem C_part {w : World} {A : Option Addr} {l : List S24} {c j : Nat} (h : k24.C w A l.length l) (hj : j < l.length) (hc : l.length ≤ c) : k24.C w (A.map (·.add (j * 6))) 1 [rd_T24 l j] := by
  have h1 := Kd.C_mid (c := c) h (show j ≤ j + 1 by omega) (by omega) hc
  have e : (l.take (j + 1)).drop j = [rd_T24 l j] := by rw [take_next hj, List.drop_left' (by simp; omega)]
  rw [e, if_neg (by omega)] at h1
  exact h1

theorem nd_nm (s : ByteArray) : ndE (nm s) = 1 := by simp [nm, ndE, ndL, mn]
theorem nd_tw (a b : S24) : ndE (tw a b) = mn (mx (mx 1 (ndE a)) (ndE b + 1)) 128 := by simp [tw, ndE, ndL]
theorem sm_nm (s : ByteArray) : SmE (nm s) := by simp [nm, SmE, SmL]
theorem sm_tw {a b : S24} (ha : SmE a) (hb : SmE b) : SmE (tw a b) := by simp [tw, SmE, SmL, ha, hb]
theorem nd_two (e : S24) : (ndE e + 1 ≤ 2 ∧ ndE (tw (nm ⟨#[97]⟩) e) = 2) ∨ (2 < ndE e + 1 ∧ ndE e + 1 ≤ 128 ∧ ndE (tw (nm ⟨#[97]⟩) e) = ndE e + 1) ∨ (128 < ndE e + 1 ∧ ndE (tw (nm ⟨#[97]⟩) e) = 128) := by
  have hb := ndE_bd e
  rw [nd_tw, nd_nm]
  unfold mn mx
  repeat (first | omega | split)
theorem one_cells {w : World} {ad : Addr} {e : S24} (h : k24.C w (some ad) 1 [e]) : ∃ B d, w.cell? ad = some (.int .i64 e.f0) ∧ w.cell? ⟨ad.block, ad.off + 1, none⟩ = some (.int .i64 e.f1) ∧ w.cell? ⟨ad.block, ad.off + 2, none⟩ = some (.string e.f2) ∧ w.cell? ⟨ad.block, ad.off + 3, none⟩ = some (.string e.f3) ∧ w.cell? ⟨ad.block, ad.off + 4, none⟩ = some (.slice B e.f4.length d) ∧ w.cell? ⟨ad.block, ad.off + 5, none⟩ = some (.int .i64 e.f5) ∧ e.f4.length ≤ d ∧ k24.C w B e.f4.length e.f4 := by
  obtain ⟨ad', B, d, hae, p0, p1, p2, p3, p4, p5, hlB, hcB⟩ := at_T24 h 0 (by decide) (by decide)
  obtain rfl := Option.some.inj hae
  have hre : rd_T24 [e] 0 = e := rfl
  rw [hre] at p0 p1 p2 p3 p4 p5 hlB hcB
  simp only [show Int.toNat 0 * 6 = 0 from rfl, Addr.add_zero'] at p0 p1 p2 p3 p4 p5
  exact ⟨B, d, p0, p1, p2, p3, p4, p5, hlB, hcB⟩

set_option maxHeartbeats 2000000 in
set_option maxRecDepth 100000 in
theorem parts_any (e : S24) (v : Value) (w : World) (h : Rep w e v) : Calls Try.prog 4 #[v] w fun x w' => x = .returned (.bool true) ∧ Below w.heap.size w w' := by
  obtain ⟨A, c, rfl, hl, hc⟩ := h
  go_enter Try.func4, Try.ntmps4
  go_wp2_with fail
  have hB0 := below_alloc (Below.refl w.heap.size w) (.cells #[.int .i64 e.f0, .int .i64 e.f1, .string e.f2, .string e.f3, .slice A e.f4.length c, .int .i64 e.f5] 24)
  refine (large_any e _ _ ⟨A, c, rfl, hl, Kd.C_alloc hc _⟩).mono ?_
  rintro x w1 ⟨b, rfl, hB1, hs⟩
  cases b with
  | true =>
    go_wp2_with fail
    refine (wakes_any _).mono ?_
    rintro x w2 ⟨rfl, hB2⟩
    go_wp2
    go_ret
    exact ⟨rfl, below_more (below_more hB0 hB1) hB2⟩
  | false =>
    have hsm := hs rfl
    have hsmL : e.f4.length ≤ 1000000000000 ∧ SmL e.f4 := by cases e; simpa only [SmE] using hsm
    clear hs
    have hX : Box w1 w.heap.size e A c := Box.below (w := w.alloc _) (heap_alloc_new w _) hB1
    have hc1 := Kd.C_below (Kd.C_alloc hc _) hB1
    obtain ⟨x0, x1, x2, x3, x4, x5⟩ := hX.cells
    go_wp2_with fail
    have hN := C_new1 w1 hl hc1
    refine (copy_one e _ 1 _ hN (Nat.le_refl 1) hsm).mono ?_
    rintro x w2 ⟨ad, c', rfl, hl2, hC2, hB2⟩
    have hX2 : Box w2 w.heap.size e A c := Box.below (Box.below hX (below_alloc (Below.refl _ _) _)) hB2
    have hc2 := Kd.C_below (Kd.C_alloc hc1 _) hB2
    have hB2' := below_more (below_more hB0 hB1) (below_more (below_alloc (Below.refl _ _) (.cells #[.int .i64 e.f0, .int .i64 e.f1, .string e.f2, .string e.f3, .slice A e.f4.length c, .int .i64 e.f5] 24)) hB2)
    obtain ⟨ad', B, d, hae, p0, p1, p2, p3, p4, p5, hlB, hcB⟩ := at_T24 hC2 0 (by decide) (by decide)
    obtain rfl := Option.some.inj hae
    have hre : rd_T24 [e] 0 = e := rfl
    rw [hre] at p0 p1 p2 p3 p4 p5 hlB hcB
    simp only [show Int.toNat 0 * 6 = 0 from rfl, Addr.add_zero'] at p0 p1 p2 p3 p4 p5
    clear x0 x1 x2 x3 x4 x5 hae hre hX hc1 hN hB1 hB2
    go_wp2_with fail
    refine (need_nd e _ _ ⟨B, d, rfl, hlB, hcB⟩ hsm).mono ?_
    rintro x w3 ⟨rfl, hB3⟩
    have hX3 := hX2.below hB3
    have hc3 := Kd.C_below hc2 hB3
    have hBa := below_more hB2' hB3
    clear p0 p1 p2 p3 p4 p5 hX2 hc2 hB2' hB3 hC2 hcB
    go_wp2_with fail
    go_loopw [4] (fun i wr => ∃ j : Nat, j ≤ e.f4.length ∧ i = .int .i64 j ∧ Box wr w.heap.size e A c ∧ k24.C wr A e.f4.length e.f4 ∧ Below w.heap.size w wr) (fun i _ => e.f4.length - (intOf i).toNat)
    case atStart => exact ⟨0, Nat.zero_le _, rfl, hX3, hc3, hBa⟩
    case round =>
      clear hX3 hc3 hBa hB0
      obtain ⟨j, hj, rfl, hX, hC, hB⟩ := hrel
      obtain ⟨x0, x1, x2, x3, x4, x5⟩ := hX.cells
      have hbd := ndE_bd e
      by_cases hlt : j < e.f4.length
      · obtain ⟨a0, ra, _⟩ := hC.2.2 (by omega)
        have hcp := C_part hC hlt hl
        subst ra
        simp only [Option.map_some] at hcp
        have hmem := rd_mem hlt
        have hpart := ndE_part e _ hmem
        have hsp := sm_mem hsmL.2 _ hmem
        have hpd := ndE_bd (rd_T24 e.f4 j)
        clear hmem
        go_wp2_with fail
        refine (copy_one (rd_T24 e.f4 j) _ (c - j) _ hcp (by omega) hsp).mono ?_
        rintro x w4 ⟨ae, c4, rfl, hl4, hC4, hB4⟩
        obtain ⟨D, dd, p0, p1, p2, p3, p4, p5, hlD, hcD⟩ := one_cells hC4
        go_wp2_with fail
        refine (need_nd _ _ _ ⟨D, dd, rfl, hlD, hcD⟩ hsp).mono ?_
        rintro x w5 ⟨rfl, hB5⟩
        have hX5 := (hX.below hB4).below hB5
        have hC5 := Kd.C_below (Kd.C_below hC hB4) hB5
        have hBb := below_more (below_more hB hB4) hB5
        clear hC hB4 hB5 hC4 hcD hcp
        go_wp2
        go_roundw
        case rel => exact ⟨j + 1, by omega, by go_num, hX5, hC5, hBb⟩
        case measure => simp [intOf]; omega
      · go_wp2
        clear x0 x1 x2 x3 x5
        obtain ⟨x0, x1, x2, x3, x4, x5⟩ := hX.cells
        go_region_with (first | (go_at_call 13; refine (name_any _ _).mono ?_; rintro x w4 ⟨v4, rfl, r4, b4⟩; (have B4 : Below wr.heap.size wr w4 := by (first | exact below_more (below_drew (Below.refl _ _)) b4 | exact below_more (below_alloc (below_drew (Below.refl _ _)) _) b4 | exact below_more (below_drew (below_alloc (Below.refl _ _) _)) b4)); (have ⟨y0, y1, y2, y3, y4, y5⟩ := (hX.below B4).cells)) | (go_at_call 8; refine (copy_one e _ 1 _ ?_ (Nat.le_refl 1) hsm).mono ?_; (first | exact C_new1 _ hl (Kd.C_below hC B4) | exact Kd.C_below (C_new1 _ hl (Kd.C_drew hC)) b4 | exact Kd.C_below (Kd.C_drew (C_new1 _ hl hC)) b4); rintro x w6 ⟨ae, c4, rfl, hl4, hC4, b6⟩; (have B6 : Below wr.heap.size wr w6 := by (first | exact below_more (below_alloc B4 _) b6 | exact below_more B4 b6)); (have r6 : Rep w6 (nm ⟨#[97]⟩) v4 := by (first | exact r4.below (below_more (below_alloc (Below.refl _ _) _) b6) | exact r4.below b6)); (have ⟨D, dd, z0, z1, z2, z3, z4, z5, hlD, hcD⟩ := one_cells hC4)) | (go_at_call 12; refine (two_any (nm ⟨#[97]⟩) e v4 _ _ r6 ⟨D, dd, rfl, hlD, hcD⟩).mono ?_; rintro x w7 ⟨v7, rfl, r7, b7⟩) | (go_at_call 9; refine (need_nd (tw (nm ⟨#[97]⟩) e) _ _ r7 (sm_tw (sm_nm _) hsm)).mono ?_; rintro x w8 ⟨rfl, b8⟩))
        all_goals
          have B8 := below_more (below_more (below_more hB B6) b7) b8
          clear x0 x1 x2 x3 x4 x5 y0 y1 y2 y3 y4 y5 z0 z1 z2 z3 z4 z5 hX hC hC4 hcD r4 r6 r7 b4 b6 b7 b8 B4 B6
          have HT := Aside0.mk (nd_two e)
          go_wp2_with fail
        all_goals first | (refine (wakes_any _).mono ?_; rintro x w9 ⟨rfl, b9⟩; go_wp2; go_ret; exact ⟨rfl, below_more B8 b9⟩) | (exfalso; (have hz := HT.out); rcases hz with hz | hz | hz <;> omega)

end Go.Proofs.Ythhefcdbakcdfaa.PNeedTells
