import Derived.Test.YtgnbemgeiloegaaMLyG
import Derived.Test.YtgnbemgeiloegaaMEW
import Derived.Test.YtgnbemgeiloegaaMEPTypesGoodsx3
import Derived.Test.YtgnbemgeiloegaaMETgOpn
namespace Go.Proofs.Ytgnbemgeiloegaa.Ly
open Go.RowKit Go.Proofs.Ytgnbemgeiloegaa.Tg
open Go.Proofs.YtgnbemgeiloegaaW.PrintWords Go.Proofs.YtgnbemgeiloegaaW.PrintLast Go.Proofs.YtgnbemgeiloegaaW.PrintMore
set_option linter.unusedVariables false
set_option linter.unusedSimpArgs false
open Go.Proofs.Ytgnbemgeiloegaa.PTypesGoods
def plcEndR (t : List S40) (S : Int → Int) (n a : Int) : Int := mn (plcAt t n a + S a) 32772
def endsR (t : List S40) (S : Int → Int) : Int → List Int → Int
 | n, [] => n
 | n, a :: r => endsR t S (plcEndR t S n a) r
def atsR (t : List S40) (S : Int → Int) : Int → List Int → List Int
 | _, [] => []
 | n, a :: r => plcAt t n a :: atsR t S (plcEndR t S n a) r
section
variable {t : List S40} {S : Int → Int}
theorem endsR_snoc : ∀ (l : List Int) (n : Int) (a : Int), endsR t S n (l ++ [a]) = plcEndR t S (endsR t S n l) a
 | [], n, a => rfl
 | b :: l, n, a => by
  show endsR t S (plcEndR t S n b) (l ++ [a]) = _
  rw [endsR_snoc l]; rfl
theorem atsR_snoc : ∀ (l : List Int) (n : Int) (a : Int), atsR t S n (l ++ [a]) = atsR t S n l ++ [plcAt t (endsR t S n l) a]
 | [], n, a => rfl
 | b :: l, n, a => by
  show plcAt t n b :: atsR t S (plcEndR t S n b) (l ++ [a]) = _
  rw [atsR_snoc l]; rfl
theorem atsR_len : ∀ (l : List Int) (n : Int), (atsR t S n l).length = l.length
 | [], n => rfl
 | b :: l, n => by
  show (atsR t S (plcEndR t S n b) l).length + 1 = l.length + 1
  rw [atsR_len l]
theorem plcEndR_in {n a : Int} (h0 : 0 ≤ n) (hs : 0 ≤ S a) : 0 ≤ plcEndR t S n a ∧ plcEndR t S n a ≤ 32772 := by
 have := plcAt_le (t := t) (a := a) h0
 unfold plcEndR mn
 split <;> omega
theorem endsR_in : ∀ (l : List Int) (n : Int), 0 ≤ n → n ≤ 32772 → (∀ a ∈ l, 0 ≤ S a) → 0 ≤ endsR t S n l ∧ endsR t S n l ≤ 32772
 | [], n, h0, h1, _ => ⟨h0, h1⟩
 | a :: l, n, h0, h1, hs => by
  obtain ⟨k0, k1⟩ := plcEndR_in (t := t) (n := n) h0 (hs a (by simp))
  exact endsR_in l _ k0 k1 (fun g hg => hs g (by simp [hg]))
def Like (p r : Int) : Prop := p = r ∧ 0 ≤ p ∧ p ≤ 32768 ∨ 32769 ≤ p ∧ 32769 ≤ r
theorem Like.step {p r a : Int} (h : Like p r) (hs : 0 ≤ S a) : Like (plcEnd t S p a) (plcEndR t S r a) := by
 rcases h with ⟨rfl, h0, h1⟩ | ⟨h1, h2⟩
 ·
  have hp := plcAt_le (t := t) (a := a) h0
  unfold Like plcEnd plcEndR cutP mn
  generalize plcAt t p a = x at hp ⊢
  split <;> split <;> omega
 ·
  have hp := plcAt_le (t := t) (n := p) (a := a) (by omega)
  have hr := plcAt_le (t := t) (n := r) (a := a) (by omega)
  unfold Like plcEnd plcEndR cutP mn
  right
  constructor
  · split <;> omega
  · split <;> omega
theorem Like.all : ∀ (l : List S42) (p r : Int), Like p r → (∀ f ∈ l, 0 ≤ S f.f2) → Like (endsP t S p l) (endsR t S r (l.map (·.f2)))
 | [], p, r, h, _ => h
 | f :: l, p, r, h, hs => Like.all l _ _ (h.step (hs f (by simp))) (fun g hg => hs g (by simp [hg]))
theorem Like.fin {p r : Int} (h : Like p r) : cutP (upP p) = mn (upP r) 32769 := by
 rcases h with ⟨rfl, h0, h1⟩ | ⟨h1, h2⟩
 · rfl
 ·
  have h3 := upP_ge (n := p) (by omega)
  have h4 := upP_ge (n := r) (by omega)
  unfold cutP mn
  split <;> split <;> omega
theorem S_zero (g : GoodR t) (Z : Sizes t S) : S 0 = 0 := by
 have h7 := g.lo
 rw [Z.eq 0 ⟨Int.le_refl 0, by omega⟩, g.bas 0 (by decide) (by decide)]
 rfl
theorem S_rec (g : GoodR t) (Z : Sizes t S) {a : Int} (ha : InT t a) (h9 : (rd_T40 t a).f0 = 9) : S a = mn (upP (endsR t S (if (rd_T40 t a).f5 = 0 then 0 else S (rd_T40 t a).f5) ((rd_T40 t a).f6.map (·.f2)))) 32769 := by
 have hw := (gd_ones g).within
 have e : insP t a = (rd_T40 t a).f5 :: (rd_T40 t a).f6.map (·.f2) := by unfold insP; rw [if_neg (by omega), if_pos h9]
 have I5 : InT t (rd_T40 t a).f5 := hw.place a ha _ (by rw [e]; simp)
 have IF : ∀ f ∈ (rd_T40 t a).f6, InT t f.f2 := fun f hf => hw.place a ha _ (by rw [e]; simp; exact .inr ⟨f, hf, rfl⟩)
 have e1 : (if (rd_T40 t a).f5 = 0 then 0 else S (rd_T40 t a).f5) = S (rd_T40 t a).f5 := by
  split
  · rename_i h; rw [h, S_zero g Z]
  · rfl
 have e2 : S a = cutP (upP (endsP t S (S (rd_T40 t a).f5) (rd_T40 t a).f6)) := by
  rw [Z.eq a ha]
  unfold szX
  rw [if_neg (by omega), if_neg (by omega), if_neg (by omega), if_pos h9]
 rw [e1, e2]
 have h0 := Z.lo _ I5
 have h1 := Z.hi _ I5
 refine Like.fin (Like.all _ _ _ ?_ (fun f hf => Z.lo _ (IF f hf)))
 unfold Like
 omega
end
structure RZ (S : Int → Int) (m : Nat) (v : Value) (q g : Nat) (w : World) : Prop where
 box : w.heap[q]? = some (.cells #[v, .slice (some ⟨g, 0, none⟩) m m] 66 (0, 0))
 row : ∃ ms : List Int, w.heap[g]? = some (.cells (ms.map (Value.int .i64)).toArray 3 (0, 0)) ∧ ms.length = m ∧ ∀ i : Nat, i < m → ms[i]? = some 0 ∨ ms[i]? = some (S i + 1)
 ne : q ≠ g
section
variable {S : Int → Int} {m : Nat} {v : Value} {q g : Nat} {w w2 : World}
theorem RZ.lt (h : RZ S m v q g w) : q < w.heap.size ∧ g < w.heap.size := by
 obtain ⟨ms, h1, _⟩ := h.row
 exact ⟨blk_lt h.box, blk_lt h1⟩
theorem RZ.kept (h : RZ S m v q g w) (e1 : w2.heap[q]? = w.heap[q]?) (e2 : w2.heap[g]? = w.heap[g]?) : RZ S m v q g w2 := by
 obtain ⟨ms, h1, h2⟩ := h.row
 exact ⟨e1.trans h.box, ⟨ms, e2.trans h1, h2⟩, h.ne⟩
theorem RZ.c0 (h : RZ S m v q g w) : w.cell? ⟨q, 0, none⟩ = some v := by rw [cell_of_row w _ _ _ _ _ h.box]; rfl
theorem RZ.c1 (h : RZ S m v q g w) : w.cell? ⟨q, 1, none⟩ = some (.slice (some ⟨g, 0, none⟩) m m) := by rw [cell_of_row w _ _ _ _ _ h.box]; rfl
theorem RZ.at (h : RZ S m v q g w) {i : Nat} (hi : i < m) : w.cell? ⟨g, i, none⟩ = some (.int .i64 0) ∨ w.cell? ⟨g, i, none⟩ = some (.int .i64 (S i + 1)) := by
 obtain ⟨ms, h1, h2, h3⟩ := h.row
 rw [cell_of_row w _ _ _ _ _ h1]
 rcases h3 i hi with h4 | h4
 · left; simp [h4]
 · right; simp [h4]
theorem RZ.free (h : RZ S m v q g w) (i : Nat) : w.frozen? ⟨g, i, none⟩ = false := by
 obtain ⟨ms, h1, _⟩ := h.row
 exact blk_frozen h1 i
theorem RZ.put (h : RZ S m v q g w) {i : Nat} (hi : i < m) : RZ S m v q g (w.setCell ⟨g, i, none⟩ (.int .i64 (S i + 1))) := by
 obtain ⟨ms, h1, h2, h3⟩ := h.row
 refine ⟨(Below.heap_setCell w _ _ _ h.ne).trans h.box, ⟨ms.set i (S i + 1), ?_, by simp [h2], fun j hj => ?_⟩, h.ne⟩
 ·
  rw [blk_set h1]
  congr 2
  rw [List.setIfInBounds_toArray, List.map_set]
 ·
  rcases Nat.decEq i j with e | e
  · rw [List.getElem?_set_ne e]; exact h3 j hj
  ·
   subst e
   right
   rw [List.getElem?_set_self (by omega)]
end
structure RW (t : List S40) (S : Int → Int) (w0 : World) (v : Value) (q g : Nat) (w : World) : Prop where
 z : RZ S t.length v q g w
 below : Below w0.heap.size w0 w
 hq : w0.heap.size ≤ q
 hg : w0.heap.size ≤ g
section
variable {t : List S40} {S : Int → Int} {w0 w w2 : World} {v : Value} {q g : Nat}
theorem RW.on (h : RW t S w0 v q g w) (hb : Below w.heap.size w w2) : RW t S w0 v q g w2 := ⟨h.z.kept (hb.block _ h.z.lt.1) (hb.block _ h.z.lt.2), h.below.trans (hb.mono h.below.size), h.hq, h.hg⟩
theorem RW.put (h : RW t S w0 v q g w) {a : Int} (ha : InT t a) : RW t S w0 v q g (w.setCell ⟨g, a.toNat, none⟩ (.int .i64 (S a + 1))) := by
 have ha0 := ha.1
 have ha1 := ha.2
 have e : ((a.toNat : Nat) : Int) = a := by omega
 have h2 := h.z.put (i := a.toNat) (by omega)
 rw [e] at h2
 exact ⟨h2, h.below.setCell (by exact h.hg) _, h.hq, h.hg⟩
theorem RW.grown (h : RW t S w0 v q g w) {u : Value} (hg : w.grownBy w2 u.ownBlock) (hb : Below w0.heap.size w0 w2) (hu : ∀ k, u.ownBlock = some k → k ≠ q ∧ k ≠ g) : RW t S w0 v q g w2 :=
 ⟨h.z.kept (hg.block q h.z.lt.1 (fun e => (hu q e.symm).1 rfl)) (hg.block g h.z.lt.2 (fun e => (hu g e.symm).2 rfl)), hb, h.hq, h.hg⟩
end
end Go.Proofs.Ytgnbemgeiloegaa.Ly
