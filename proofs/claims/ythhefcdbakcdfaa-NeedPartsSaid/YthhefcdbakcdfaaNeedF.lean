/- The Go law NeedTells at an expression: true. -/
import Derived.Test.YthhefcdbakcdfaaNeedE
namespace Go.Proofs.Ythhefcdbakcdfaa.PNeedTells
open Go.RowKit Go.Proofs.YthhefcdbakcdfaaW.PrintWords Go.Proofs.YthhefcdbakcdfaaW.PrintLast Go.Proofs.YthhefcdbakcdfaaW.PrintMore
attribute [local go_sem] max2_int min2_int max_two min_two max_three min_three max_four min_four

def OnePost (e : S24) (w : World) (x : Ending) (w' : World) : Prop :=
  ∃ (ad : Addr) (c' : Nat), x = .returned (.slice (some ad) 1 c') ∧ 1 ≤ c' ∧ k24.C w' (some ad) 1 [e] ∧ Below w.heap.size w w'
theorem copy_one (e : S24) (A : Option Addr) (c : Nat) (w : World) (hc : k24.C w A 1 [e]) (hl : 1 ≤ c) (hs : SmE e) : Calls Try.prog 8 #[.slice A 1 c] w (OnePost e w) := by
  refine (copy_any [e] A c w hc hl (by simp) (by simp [SmL, hs])).mono ?_
  rintro x w' ⟨A', c', rfl, hl', hc', hb⟩
  obtain ⟨ad, rfl, _⟩ := hc'.2.2 (by simp)
  exact ⟨ad, c', rfl, hl', hc', hb⟩
/-- The box at block g holds the expression e, whose list is at A. -/
def Box (w : World) (g : Nat) (e : S24) (A : Option Addr) (c : Nat) : Prop := w.heap[g]? = some (.cells #[.int .i64 e.f0, .int .i64 e.f1, .string e.f2, .string e.f3, .slice A e.f4.length c, .int .i64 e.f5] 24 (0, 0))
theorem Box.below {w w' : World} {g : Nat} {e : S24} {A : Option Addr} {c : Nat} (h : Box w g e A c) (hb : Below w.heap.size w w') : Box w' g e A c := (hb.block g (blk_lt h)).trans h
theorem Box.cells {w : World} {g : Nat} {e : S24} {A : Option Addr} {c : Nat} (h : Box w g e A c) : w.cell? ⟨g, 0, none⟩ = some (.int .i64 e.f0) ∧ w.cell? ⟨g, 1, none⟩ = some (.int .i64 e.f1) ∧ w.cell? ⟨g, 2, none⟩ = some (.string e.f2) ∧ w.cell? ⟨g, 3, none⟩ = some (.string e.f3) ∧ w.cell? ⟨g, 4, none⟩ = some (.slice A e.f4.length c) ∧ w.cell? ⟨g, 5, none⟩ = some (.int .i64 e.f5) :=
  ⟨(blk_cell h 0).trans rfl, (blk_cell h 1).trans rfl, (blk_cell h 2).trans rfl, (blk_cell h 3).trans rfl, (blk_cell h 4).trans rfl, (blk_cell h 5).trans rfl⟩
theorem C_new1 (w : World) {e : S24} {A : Option Addr} {c : Nat} (hl : e.f4.length ≤ c) (hc : k24.C w A e.f4.length e.f4) :
    k24.C (w.alloc (.cells #[.int .i64 e.f0, .int .i64 e.f1, .string e.f2, .string e.f3, .slice A e.f4.length c, .int .i64 e.f5] 24)) (some ⟨w.heap.size, 0, none⟩) 1 [e] :=
  C_new k24 w 24 (Reps.snoc (Reps.none (k24.K w) 6) (k24_mk w e hl hc) rfl) (by simp)

def Tb (e : S24) (A : Option Addr) (c g : Nat) (ad : Addr) (B : Option Addr) (d : Nat) (w W : World) : Prop :=
  Box W g e A c ∧ k24.C W A e.f4.length e.f4 ∧ e.f4.length ≤ c ∧ k24.C W B e.f4.length e.f4 ∧ e.f4.length ≤ d ∧ k24.C W (some ad) 1 [e] ∧ Below w.heap.size w W
theorem Tb.below {e : S24} {A : Option Addr} {c g : Nat} {ad : Addr} {B : Option Addr} {d : Nat} {w W W' : World} (h : Tb e A c g ad B d w W) (hb : Below W.heap.size W W') : Tb e A c g ad B d w W' :=
  ⟨h.1.below hb, Kd.C_below h.2.1 hb, h.2.2.1, Kd.C_below h.2.2.2.1 hb, h.2.2.2.2.1, Kd.C_below h.2.2.2.2.2.1 hb, below_more h.2.2.2.2.2.2 hb⟩
def Sb (e : S24) (A : Option Addr) (c g : Nat) (ad : Addr) (B : Option Addr) (d : Nat) (w w' : World) : Prop := w'.cell? ⟨g, 0, none⟩ = some (.int .i64 e.f0) ∧ w'.cell? ⟨g, 1, none⟩ = some (.int .i64 e.f1) ∧ w'.cell? ⟨g, 2, none⟩ = some (.string e.f2) ∧ w'.cell? ⟨g, 3, none⟩ = some (.string e.f3) ∧ w'.cell? ⟨g, 4, none⟩ = some (.slice A e.f4.length c) ∧ w'.cell? ⟨g, 5, none⟩ = some (.int .i64 e.f5) ∧ w'.cell? ad = some (.int .i64 e.f0) ∧ w'.cell? ⟨ad.block, ad.off + 1, none⟩ = some (.int .i64 e.f1) ∧ w'.cell? ⟨ad.block, ad.off + 2, none⟩ = some (.string e.f2) ∧ w'.cell? ⟨ad.block, ad.off + 3, none⟩ = some (.string e.f3) ∧ w'.cell? ⟨ad.block, ad.off + 4, none⟩ = some (.slice B e.f4.length d) ∧ w'.cell? ⟨ad.block, ad.off + 5, none⟩ = some (.int .i64 e.f5) ∧ Tb e A c g ad B d w w'
theorem Sb.below {e : S24} {A : Option Addr} {c g : Nat} {ad : Addr} {B : Option Addr} {d : Nat} {w W W' : World} (h : Sb e A c g ad B d w W) (hb : Below W.heap.size W W') : Sb e A c g ad B d w W' := by
  obtain ⟨h0, h1, h2, h3, h4, h5, q0, q1, q2, q3, q4, q5, hT⟩ := h
  exact ⟨pw_cell_below hb h0, pw_cell_below hb h1, pw_cell_below hb h2, pw_cell_below hb h3, pw_cell_below hb h4, pw_cell_below hb h5, pw_cell_below hb q0, pw_cell_below hb q1, pw_cell_below hb q2, pw_cell_below hb q3, pw_cell_below hb q4, pw_cell_below hb q5, hT.below hb⟩
theorem Sb.t {e : S24} {A : Option Addr} {c g : Nat} {ad : Addr} {B : Option Addr} {d : Nat} {w W : World} (h : Sb e A c g ad B d w W) : Tb e A c g ad B d w W := h.2.2.2.2.2.2.2.2.2.2.2.2

set_option maxHeartbeats 2000000 in
set_option maxRecDepth 100000 in
theorem tells_any (e : S24) (v : Value) (w : World) (h : Rep w e v) : Calls Try.prog 3 #[v] w fun x w' => x = .returned (.bool true) ∧ Below w.heap.size w w' := by
  obtain ⟨A, c, rfl, hl, hc⟩ := h
  go_enter Try.func3, Try.ntmps3
  go_wp2_with fail
  have hB0 := below_alloc (Below.refl w.heap.size w) (.cells #[.int .i64 e.f0, .int .i64 e.f1, .string e.f2, .string e.f3, .slice A e.f4.length c, .int .i64 e.f5] 24)
  refine (large_any e _ _ ⟨A, c, rfl, hl, Kd.C_alloc hc _⟩).mono ?_
  rintro x w1 ⟨b, rfl, hB1, hs⟩
  cases b with
  | true =>
    go_wp2_with fail
    refine (wakes_any _).mono ?_
    rintro x w2 ⟨rfl, hB2⟩
    go_wp2
    go_ret
    exact ⟨rfl, below_more (below_more hB0 hB1) hB2⟩
  | false =>
    have hsm := hs rfl
    clear hs
    have hX : Box w1 w.heap.size e A c := Box.below (w := w.alloc _) (heap_alloc_new w _) hB1
    have hc1 := Kd.C_below (Kd.C_alloc hc _) hB1
    obtain ⟨x0, x1, x2, x3, x4, x5⟩ := hX.cells
    go_wp2_with fail
    have hN := C_new1 w1 hl hc1
    refine (copy_one e _ 1 _ hN (Nat.le_refl 1) hsm).mono ?_
    rintro x w2 ⟨ad, c', rfl, hl2, hC2, hB2⟩
    have hX2 : Box w2 w.heap.size e A c := Box.below (Box.below hX (below_alloc (Below.refl _ _) _)) hB2
    have hc2 := Kd.C_below (Kd.C_alloc hc1 _) hB2
    obtain ⟨ad', B, d, hae, p0, p1, p2, p3, p4, p5, hlB, hcB⟩ := at_T24 hC2 0 (by decide) (by decide)
    obtain rfl := Option.some.inj hae
    clear x0 x1 x2 x3 x4 x5 hae
    obtain ⟨x0, x1, x2, x3, x4, x5⟩ := hX2.cells
    have hre : rd_T24 [e] 0 = e := rfl
    rw [hre] at p0 p1 p2 p3 p4 p5 hlB hcB
    clear hre
    simp only [show Int.toNat 0 * 6 = 0 from rfl, Addr.add_zero'] at p0 p1 p2 p3 p4 p5
    have hS : Sb e A c w.heap.size ad B d w w2 := ⟨x0, x1, x2, x3, x4, x5, p0, p1, p2, p3, p4, p5, hX2, hc2, hl, hcB, hlB, hC2, below_more (below_more hB0 hB1) (below_more (below_alloc (Below.refl _ _) _) hB2)⟩
    have hS2 := hS.below (below_drew (Below.refl _ _))
    clear x0 x1 x2 x3 x4 x5 p0 p1 p2 p3 p4 p5 hX hX2 hc1 hc2 hN hC2 hcB hB1 hB2
    go_wp2
    go_region_held3? (fun w' => w'.cell? ⟨w.heap.size, 0, none⟩ = some (.int .i64 e.f0) ∧ w'.cell? ⟨w.heap.size, 1, none⟩ = some (.int .i64 e.f1) ∧ w'.cell? ⟨w.heap.size, 2, none⟩ = some (.string e.f2) ∧ w'.cell? ⟨w.heap.size, 3, none⟩ = some (.string e.f3) ∧ w'.cell? ⟨w.heap.size, 4, none⟩ = some (.slice A e.f4.length c) ∧ w'.cell? ⟨w.heap.size, 5, none⟩ = some (.int .i64 e.f5) ∧ w'.cell? ad = some (.int .i64 e.f0) ∧ w'.cell? ⟨ad.block, ad.off + 1, none⟩ = some (.int .i64 e.f1) ∧ w'.cell? ⟨ad.block, ad.off + 2, none⟩ = some (.string e.f2) ∧ w'.cell? ⟨ad.block, ad.off + 3, none⟩ = some (.string e.f3) ∧ w'.cell? ⟨ad.block, ad.off + 4, none⟩ = some (.slice B e.f4.length d) ∧ w'.cell? ⟨ad.block, ad.off + 5, none⟩ = some (.int .i64 e.f5) ∧ Tb e A c w.heap.size ad B d w w') (first | exact hS2 | exact Sb.below (by assumption) (by assumption) | exact Sb.below (by assumption) (below_alloc (Below.refl _ _) _)) (first | (go_at_call 9; refine (need_nd e _ _ ⟨B, d, rfl, (Sb.t (by assumption)).2.2.2.2.1, (Sb.t (by assumption)).2.2.2.1⟩ hsm).mono ?_; rintro x w3 ⟨rfl, b3⟩) | (go_at_call 10; refine (refneed_any e _ _ ⟨A, c, rfl, hl, (Sb.t (by assumption)).2.1⟩ hsm).mono ?_; rintro x w3 ⟨rfl, b3⟩) | (go_at_call 7; refine (wakes_any _).mono ?_; rintro x w3 ⟨rfl, b3⟩) | (go_at_call 11; refine (same_any _ [e] (Nat.le_refl _) _ _ _ _ _ (Sb.t (by assumption)).2.2.2.2.2.1 hl2 ?_ (Nat.le_refl _)).mono ?_; (exact C_blk k24 _ _ 24 (0, 0) (heap_alloc_new _ _) (Reps.snoc (Reps.none _ 6) (k24_mk _ e hl (Sb.t (by assumption)).2.1) rfl) (by simp)); rintro x w3 ⟨rfl, b3⟩))
    have hE := Sb.t ‹Sb e A c w.heap.size ad B d w _›
    go_wp2
    go_ret
    exact ⟨rfl, hE.2.2.2.2.2.2⟩

end Go.Proofs.Ythhefcdbakcdfaa.PNeedTells
