import Derived.Test.YtgnbemgeiloegaaKTgY
namespace Go.Proofs.Ytgnbemgeiloegaa.Tg
open Go.RowKit Go.Maps Go.WideMaps
open Go.Proofs.YtgnbemgeiloegaaW.PrintWords Go.Proofs.YtgnbemgeiloegaaW.PrintLast Go.Proofs.YtgnbemgeiloegaaW.PrintMore
set_option linter.unusedVariables false
set_option linter.unusedSimpArgs false
open Go.Proofs.Ytgnbemgeiloegaa.PTypesGoods (S40 S42 S47 k40 k42 k47 rd_T40 rd_T42 rd_T47 at_T40 at_T42 at_T47)
def rowX (x : S40) (A6 : Option Addr) (c6 : Nat) (A7 : Option Addr) (c7 : Nat) : List Value :=
  [.int .i64 x.f0, .string x.f1, .string x.f2, .int .i64 x.f3, .int .i64 x.f4, .int .i64 x.f5, .slice A6 x.f6.length c6, .slice A7 x.f7.length c7, .int .i64 x.f8, .int .i64 x.f9]
/-- a type's cells in the table -/
structure CellsX (w : World) (ad : Addr) (x : S40) (A6 : Option Addr) (c6 : Nat) (A7 : Option Addr) (c7 : Nat) : Prop where
  k0 : w.cell? ad = some (.int .i64 x.f0)
  k1 : w.cell? ⟨ad.block, ad.off + 1, none⟩ = some (.string x.f1)
  k2 : w.cell? ⟨ad.block, ad.off + 2, none⟩ = some (.string x.f2)
  k3 : w.cell? ⟨ad.block, ad.off + 3, none⟩ = some (.int .i64 x.f3)
  k4 : w.cell? ⟨ad.block, ad.off + 4, none⟩ = some (.int .i64 x.f4)
  k5 : w.cell? ⟨ad.block, ad.off + 5, none⟩ = some (.int .i64 x.f5)
  k6 : w.cell? ⟨ad.block, ad.off + 6, none⟩ = some (.slice A6 x.f6.length c6)
  k7 : w.cell? ⟨ad.block, ad.off + 7, none⟩ = some (.slice A7 x.f7.length c7)
  k8 : w.cell? ⟨ad.block, ad.off + 8, none⟩ = some (.int .i64 x.f8)
  k9 : w.cell? ⟨ad.block, ad.off + 9, none⟩ = some (.int .i64 x.f9)
theorem CellsX.on {w w2 : World} {ad : Addr} {x : S40} {A6 : Option Addr} {c6 : Nat} {A7 : Option Addr} {c7 : Nat} (h : CellsX w ad x A6 c6 A7 c7) (hb : Below w.heap.size w w2) : CellsX w2 ad x A6 c6 A7 c7 := by
  have k : ∀ (a : Addr) (v : Value), w.cell? a = some v → w2.cell? a = some v := fun a v e => (hb.cell (World.block_lt_of_cell? w _ e)).trans e
  exact ⟨k _ _ h.k0, k _ _ h.k1, k _ _ h.k2, k _ _ h.k3, k _ _ h.k4, k _ _ h.k5, k _ _ h.k6, k _ _ h.k7, k _ _ h.k8, k _ _ h.k9⟩
def HeldT (q : Nat) (sl : Value) (ax ay : Addr) (x y : S40) (A6 : Option Addr) (c6 : Nat) (A7 : Option Addr) (c7 : Nat) (B6 : Option Addr) (d6 : Nat) (B7 : Option Addr) (d7 : Nat) (w : World) : Prop :=
  w.cell? ⟨q, 0, none⟩ = some sl ∧ CellsX w ax x A6 c6 A7 c7 ∧ CellsX w ay y B6 d6 B7 d7
theorem HeldT.on {q : Nat} {sl : Value} {ax ay : Addr} {x y : S40} {A6 : Option Addr} {c6 : Nat} {A7 : Option Addr} {c7 : Nat} {B6 : Option Addr} {d6 : Nat} {B7 : Option Addr} {d7 : Nat} {w w2 : World}
    (h : HeldT q sl ax ay x y A6 c6 A7 c7 B6 d6 B7 d7 w) (hb : Below w.heap.size w w2) : HeldT q sl ax ay x y A6 c6 A7 c7 B6 d6 B7 d7 w2 :=
  ⟨(hb.cell (World.block_lt_of_cell? w _ h.1)).trans h.1, h.2.1.on hb, h.2.2.on hb⟩
def zeroX : Array Value := #[.int .i64 0, .string ⟨#[]⟩, .string ⟨#[]⟩, .int .i64 0, .int .i64 0, .int .i64 0, .slice none 0 0, .slice none 0 0, .int .i64 0, .int .i64 0]
/-- the call's boxes -/
structure TB (w0 w : World) (g : Nat) (sl : Value) (bx b_y : Nat) (xs ys : Array Value) (p : Prs) (wr : World) : Prop where
  wp : WP w0 g p wr
  keep : KeepBut w wr g none
  m : wr.heap[w.heap.size]? = some (.cells #[.map (some g)] 76 (0, 0))
  s : wr.heap[w.heap.size + 1]? = some (.cells #[sl] 22 (0, 0))
  x : wr.heap[bx]? = some (.cells xs 40 (0, 0))
  y : wr.heap[b_y]? = some (.cells ys 40 (0, 0))
  nx : w.heap.size ≤ bx
  ny : w.heap.size ≤ b_y
  ng : g < w.heap.size
  ne : bx ≠ b_y
  base : w0.heap.size ≤ w.heap.size
section
variable {w0 w wr : World} {g : Nat} {sl : Value} {bx b_y : Nat} {xs ys : Array Value} {p : Prs}
theorem TB.next (h : TB w0 w g sl bx b_y xs ys p wr) {p2 : Prs} {w2 : World} (hw : WP w0 g p2 w2) (hk : KeepBut wr w2 g none) : TB w0 w g sl bx b_y xs ys p2 w2 := by
  have hg := h.ng
  have hx := h.nx
  have hy := h.ny
  exact ⟨hw, h.keep.trans hk (.inl rfl), hk.blk h.m (by omega) (by simp), hk.blk h.s (by omega) (by simp), hk.blk h.x (by omega) (by simp), hk.blk h.y (by omega) (by simp), hx, hy, hg, h.ne, h.base⟩
theorem TB.on (h : TB w0 w g sl bx b_y xs ys p wr) {w2 : World} (hb : Below wr.heap.size wr w2) : TB w0 w g sl bx b_y xs ys p w2 := h.next (h.wp.on hb) (KeepBut.of_below hb g none)
theorem TB.drewN (h : TB w0 w g sl bx b_y xs ys p wr) (n : Nat) : TB w0 w g sl bx b_y xs ys p (wr.drewN n) := h.on ⟨rfl, rfl, rfl, Nat.le_refl _, fun _ _ => rfl⟩
theorem TB.cm (h : TB w0 w g sl bx b_y xs ys p wr) : wr.cell? ⟨w.heap.size, 0, none⟩ = some (.map (some g)) := by rw [cell_of_row wr _ _ _ _ _ h.m]; rfl
theorem TB.cs (h : TB w0 w g sl bx b_y xs ys p wr) : wr.cell? ⟨w.heap.size + 1, 0, none⟩ = some sl := by rw [cell_of_row wr _ _ _ _ _ h.s]; rfl
theorem TB.cx (h : TB w0 w g sl bx b_y xs ys p wr) (k : Nat) (v : Value) (hk : xs[k]? = some v) : wr.cell? ⟨bx, k, none⟩ = some v := by rw [cell_of_row wr _ _ _ _ _ h.x]; exact hk
theorem TB.cy (h : TB w0 w g sl bx b_y xs ys p wr) (k : Nat) (v : Value) (hk : ys[k]? = some v) : wr.cell? ⟨b_y, k, none⟩ = some v := by rw [cell_of_row wr _ _ _ _ _ h.y]; exact hk
/-- a whole box is written -/
theorem box_whole {W : World} {b : Nat} {cur : Array Value} {ty : TypeId} (ys : List Value) (h : W.heap[b]? = some (.cells cur ty (0, 0))) (hl : ys.length = cur.size) : (W.setCells b 0 ys).heap[b]? = some (.cells ys.toArray ty (0, 0)) := by
  obtain ⟨cur', b1, b2, b3⟩ := setCells_row ys 0 W _ h (by omega)
  rw [b1]
  have e : cur' = ys.toArray := by
    apply Array.toList_inj.1
    rw [b3]
    simp [hl]
  rw [e]
theorem TB.putx (h : TB w0 w g sl bx b_y xs ys p wr) (zs : List Value) (hl : zs.length = xs.size) : TB w0 w g sl bx b_y zs.toArray ys p (wr.setCells bx 0 zs) := by
  have hg := h.ng
  have hx := h.nx
  have hy := h.ny
  have hne := h.ne
  obtain ⟨s1, s2, s3, s4⟩ := setCells_same bx zs 0 wr
  have hbw := h.wp.map.lt
  have hmx : w.heap.size + 1 < wr.heap.size := blk_lt h.s
  have hxlt := blk_lt h.x
  have far : ∀ k, k ≠ bx → (wr.setCells bx 0 zs).heap[k]? = wr.heap[k]? := fun k hk => setCells_far zs 0 k hk
  have hm : bx ≠ w.heap.size := fun e => by
    have h1 := h.m
    rw [← e, h.x] at h1
    simp at h1
  have hs : bx ≠ w.heap.size + 1 := fun e => by
    have h1 := h.s
    rw [← e, h.x] at h1
    simp at h1
  have hk := h.keep
  have hgw := h.wp.below
  refine ⟨⟨h.wp.map.kept (far g (by omega)), ?_⟩, ⟨by rw [s4]; exact hk.1, fun i hi h1 h2 => (far i (by omega)).trans (hk.2 i hi h1 h2)⟩, (far _ (Ne.symm hm)).trans h.m, (far _ (Ne.symm hs)).trans h.s, box_whole zs h.x hl, (far _ (Ne.symm hne)).trans h.y, hx, hy, hg, hne, h.base⟩
  have hbs := h.base
  exact hgw.trans ⟨s1, s2, s3, by rw [s4]; exact Nat.le_refl _, fun k hk => far k (by omega)⟩
theorem TB.puty (h : TB w0 w g sl bx b_y xs ys p wr) (zs : List Value) (hl : zs.length = ys.size) : TB w0 w g sl bx b_y xs zs.toArray p (wr.setCells b_y 0 zs) := by
  have hg := h.ng
  have hx := h.nx
  have hy := h.ny
  have hne := h.ne
  obtain ⟨s1, s2, s3, s4⟩ := setCells_same b_y zs 0 wr
  have hbw := h.wp.map.lt
  have hmx : w.heap.size + 1 < wr.heap.size := blk_lt h.s
  have hxlt := blk_lt h.y
  have far : ∀ k, k ≠ b_y → (wr.setCells b_y 0 zs).heap[k]? = wr.heap[k]? := fun k hk => setCells_far zs 0 k hk
  have hm : b_y ≠ w.heap.size := fun e => by
    have h1 := h.m
    rw [← e, h.y] at h1
    simp at h1
  have hs : b_y ≠ w.heap.size + 1 := fun e => by
    have h1 := h.s
    rw [← e, h.y] at h1
    simp at h1
  have hk := h.keep
  have hgw := h.wp.below
  refine ⟨⟨h.wp.map.kept (far g (by omega)), ?_⟩, ⟨by rw [s4]; exact hk.1, fun i hi h1 h2 => (far i (by omega)).trans (hk.2 i hi h1 h2)⟩, (far _ (Ne.symm hm)).trans h.m, (far _ (Ne.symm hs)).trans h.s, (far _ hne).trans h.x, box_whole zs h.y hl, hx, hy, hg, hne, h.base⟩
  have hbs := h.base
  exact hgw.trans ⟨s1, s2, s3, by rw [s4]; exact Nat.le_refl _, fun k hk => far k (by omega)⟩
theorem TB.made {wa : World} (hm : wa.heap[w.heap.size]? = some (.cells #[.map (some g)] 76 (0, 0))) (hs : wa.heap[w.heap.size + 1]? = some (.cells #[sl] 22 (0, 0))) (hw : WP w0 g p wa) (hk : KeepBut w wa g none) (hng : g < w.heap.size) (hb : w0.heap.size ≤ w.heap.size) (hz : w.heap.size ≤ wa.heap.size) (o : Bool) :
    TB w0 w g sl (if o then wa.heap.size else wa.heap.size + 1) (if o then wa.heap.size + 1 else wa.heap.size) zeroX zeroX p ((wa.alloc (.cells zeroX 40)).alloc (.cells zeroX 40)) := by
  have hB : Below wa.heap.size wa ((wa.alloc (.cells zeroX 40)).alloc (.cells zeroX 40)) := below_alloc (below_alloc (Below.refl _ _) _) _
  have e1 : ((wa.alloc (.cells zeroX 40)).alloc (.cells zeroX 40)).heap[wa.heap.size]? = some (.cells zeroX 40 (0, 0)) := by
    rw [Below.heap_alloc _ _ _ (by simp)]
    exact heap_alloc_new _ _
  have e2 : ((wa.alloc (.cells zeroX 40)).alloc (.cells zeroX 40)).heap[wa.heap.size + 1]? = some (.cells zeroX 40 (0, 0)) := by
    have := heap_alloc_new (wa.alloc (.cells zeroX 40)) (.cells zeroX 40)
    rwa [World.size_alloc] at this
  have hk2 := KeepBut.of_below hB g none
  refine ⟨hw.on hB, hk.trans hk2 (.inl rfl), hk2.blk hm (by omega) (by simp), hk2.blk hs (by omega) (by simp), ?_, ?_, ?_, ?_, hng, ?_, hb⟩
  · cases o <;> assumption
  · cases o <;> assumption
  · cases o <;> simp <;> omega
  · cases o <;> simp <;> omega
  · cases o <;> simp
theorem TB.held (h : TB w0 w g sl bx b_y xs ys p wr) {ax ay : Addr} {x y : S40} {A6 : Option Addr} {c6 : Nat} {A7 : Option Addr} {c7 : Nat} {B6 : Option Addr} {d6 : Nat} {B7 : Option Addr} {d7 : Nat}
    (hx : CellsX w0 ax x A6 c6 A7 c7) (hy : CellsX w0 ay y B6 d6 B7 d7) : HeldT (w.heap.size + 1) sl ax ay x y A6 c6 A7 c7 B6 d6 B7 d7 wr := ⟨h.cs, hx.on h.wp.below, hy.on h.wp.below⟩
end
end Go.Proofs.Ytgnbemgeiloegaa.Tg
