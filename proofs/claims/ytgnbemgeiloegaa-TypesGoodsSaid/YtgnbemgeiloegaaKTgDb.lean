import Derived.Test.YtgnbemgeiloegaaKTgEx
namespace Go.Proofs.Ytgnbemgeiloegaa.Tg
open Go.RowKit Go.Maps Go.WideMaps
open Go.Proofs.YtgnbemgeiloegaaW.PrintWords Go.Proofs.YtgnbemgeiloegaaW.PrintLast Go.Proofs.YtgnbemgeiloegaaW.PrintMore
set_option linter.unusedVariables false
set_option linter.unusedSimpArgs false
open Go.Proofs.Ytgnbemgeiloegaa.PTypesGoods (S40 S42 S47 k40 k42 k47 rd_T40 rd_T42 rd_T47 at_T40 at_T42 at_T47)
/-! TWO TYPES IN BOXES -/
def HeldD (ax ay : Addr) (x y : S40) (A6 : Option Addr) (c6 : Nat) (A7 : Option Addr) (c7 : Nat) (B6 : Option Addr) (d6 : Nat) (B7 : Option Addr) (d7 : Nat) (w : World) : Prop :=
  CellsX w ax x A6 c6 A7 c7 ∧ CellsX w ay y B6 d6 B7 d7
structure DB (w : World) (bx b_y : Nat) (xs ys : Array Value) (wr : World) : Prop where
  x : wr.heap[bx]? = some (.cells xs 40 (0, 0))
  y : wr.heap[b_y]? = some (.cells ys 40 (0, 0))
  nx : w.heap.size ≤ bx
  ny : w.heap.size ≤ b_y
  ne : bx ≠ b_y
  below : Below w.heap.size w wr
section
variable {w wr : World} {bx b_y : Nat} {xs ys : Array Value}
theorem DB.on (h : DB w bx b_y xs ys wr) {w2 : World} (hb : Below wr.heap.size wr w2) : DB w bx b_y xs ys w2 :=
  ⟨(hb.block _ (blk_lt h.x)).trans h.x, (hb.block _ (blk_lt h.y)).trans h.y, h.nx, h.ny, h.ne, h.below.trans (hb.mono h.below.size)⟩
theorem DB.cx (h : DB w bx b_y xs ys wr) (k : Nat) (v : Value) (hk : xs[k]? = some v) : wr.cell? ⟨bx, k, none⟩ = some v := by rw [cell_of_row wr _ _ _ _ _ h.x]; exact hk
theorem DB.cy (h : DB w bx b_y xs ys wr) (k : Nat) (v : Value) (hk : ys[k]? = some v) : wr.cell? ⟨b_y, k, none⟩ = some v := by rw [cell_of_row wr _ _ _ _ _ h.y]; exact hk
theorem below_cells {W : World} (hb : Below w.heap.size w W) {b : Nat} (h : w.heap.size ≤ b) (zs : List Value) : Below w.heap.size w (W.setCells b 0 zs) := by
  obtain ⟨s1, s2, s3, s4⟩ := setCells_same b zs 0 W
  exact hb.trans ⟨s1, s2, s3, by rw [s4]; exact Nat.le_refl _, fun k hk => setCells_far zs 0 k (by omega)⟩
theorem DB.putx (h : DB w bx b_y xs ys wr) (zs : List Value) (hl : zs.length = xs.size) : DB w bx b_y zs.toArray ys (wr.setCells bx 0 zs) :=
  ⟨box_whole zs h.x hl, (setCells_far zs 0 _ (Ne.symm h.ne)).trans h.y, h.nx, h.ny, h.ne, below_cells h.below h.nx zs⟩
theorem DB.puty (h : DB w bx b_y xs ys wr) (zs : List Value) (hl : zs.length = ys.size) : DB w bx b_y xs zs.toArray (wr.setCells b_y 0 zs) :=
  ⟨(setCells_far zs 0 _ h.ne).trans h.x, box_whole zs h.y hl, h.nx, h.ny, h.ne, below_cells h.below h.ny zs⟩
theorem DB.held (h : DB w bx b_y xs ys wr) {ax ay : Addr} {x y : S40} {A6 : Option Addr} {c6 : Nat} {A7 : Option Addr} {c7 : Nat} {B6 : Option Addr} {d6 : Nat} {B7 : Option Addr} {d7 : Nat}
    (hx : CellsX w ax x A6 c6 A7 c7) (hy : CellsX w ay y B6 d6 B7 d7) : HeldD ax ay x y A6 c6 A7 c7 B6 d6 B7 d7 wr := ⟨hx.on h.below, hy.on h.below⟩
theorem HeldD.on {ax ay : Addr} {x y : S40} {A6 : Option Addr} {c6 : Nat} {A7 : Option Addr} {c7 : Nat} {B6 : Option Addr} {d6 : Nat} {B7 : Option Addr} {d7 : Nat} {w2 : World}
    (h : HeldD ax ay x y A6 c6 A7 c7 B6 d6 B7 d7 w) (hb : Below w.heap.size w w2) : HeldD ax ay x y A6 c6 A7 c7 B6 d6 B7 d7 w2 := ⟨h.1.on hb, h.2.on hb⟩
theorem DB.made {wa : World} (hb : Below w.heap.size w wa) (o : Bool) :
    DB w (if o then wa.heap.size else wa.heap.size + 1) (if o then wa.heap.size + 1 else wa.heap.size) zeroX zeroX ((wa.alloc (.cells zeroX 40)).alloc (.cells zeroX 40)) := by
  have hB : Below wa.heap.size wa ((wa.alloc (.cells zeroX 40)).alloc (.cells zeroX 40)) := below_alloc (below_alloc (Below.refl _ _) _) _
  have e1 : ((wa.alloc (.cells zeroX 40)).alloc (.cells zeroX 40)).heap[wa.heap.size]? = some (.cells zeroX 40 (0, 0)) := by
    rw [Below.heap_alloc _ _ _ (by simp)]
    exact heap_alloc_new _ _
  have e2 : ((wa.alloc (.cells zeroX 40)).alloc (.cells zeroX 40)).heap[wa.heap.size + 1]? = some (.cells zeroX 40 (0, 0)) := by
    have := heap_alloc_new (wa.alloc (.cells zeroX 40)) (.cells zeroX 40)
    rwa [World.size_alloc] at this
  have hz := hb.size
  refine ⟨?_, ?_, ?_, ?_, ?_, hb.trans (hB.mono hz)⟩
  · cases o <;> assumption
  · cases o <;> assumption
  · cases o <;> simp <;> omega
  · cases o <;> simp <;> omega
  · cases o <;> simp
end
end Go.Proofs.Ytgnbemgeiloegaa.Tg
