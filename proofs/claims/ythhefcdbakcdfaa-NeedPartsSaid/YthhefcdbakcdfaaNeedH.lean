/- An argument of the expressions' type that can be read as data reads as an expression. -/
import Derived.Test.YthhefcdbakcdfaaNeedG
import Derived.Deep.Slices
import Derived.DataReads
import Derived.ChangeArms
namespace Go.Proofs.Ythhefcdbakcdfaa.PNeedTells
open Go.RowKit Go.Proofs.YthhefcdbakcdfaaW.PrintWords Go.Proofs.YthhefcdbakcdfaaW.PrintLast Go.Proofs.YthhefcdbakcdfaaW.PrintMore
open Go.ChangeShapes Go.WideShapes
theorem c24 : Try.prog.cellsOf 24 = 6 := by kernel_rfl
theorem c3 : Try.prog.cellsOf 3 = 1 := by kernel_rfl
theorem c9 : Try.prog.cellsOf 9 = 1 := by kernel_rfl
theorem c22 : Try.prog.cellsOf 22 = 1 := by kernel_rfl

theorem list_of {α : Type} {n : Nat} {Q : Nat → α → Prop} (h : ∀ i, i < n → ∃ x, Q i x) : ∃ l : List α, l.length = n ∧ ∀ i x, l[i]? = some x → Q i x := by
  induction n with
  | zero => exact ⟨[], rfl, fun i x hx => by simp at hx⟩
  | succ n ih =>
    obtain ⟨l, hl, hq⟩ := ih (fun i hi => h i (by omega))
    obtain ⟨x, hx⟩ := h n (by omega)
    refine ⟨l ++ [x], by simp [hl], fun i y hy => ?_⟩
    rcases Nat.lt_or_ge i l.length with hi | hi
    · rw [List.getElem?_append_left hi] at hy
      exact hq i y hy
    · have h2 := (List.getElem?_eq_some_iff.1 hy).1
      simp at h2
      have : i = l.length := by omega
      subst this
      simp at hy
      subst hy
      rw [hl]
      exact hx

theorem six_cells {cs : List Value} (h : cs.length = 6) : ∃ a b c d e f, cs = [a, b, c, d, e, f] := by
  match cs, h with
  | [a, b, c, d, e, f], _ => exact ⟨a, b, c, d, e, f, rfl⟩

section
variable {H : Type} {enc : TypeId × Value → H} {W : World} {sp : Nat → Bool} {held : Bool}
theorem slice24_of {n : Nat} {cs : List Value} {x : DataW H × List MemPlace} (ih : ∀ m, m < n → ∀ cs x, DataW.trod enc Try.prog W 0 sp held m 24 cs = some x → ∃ e : S24, k24.K W e cs)
    (h : DataW.trod enc Try.prog W 0 sp held n 22 cs = some x) : ∃ (A : Option Addr) (l : List S24) (c : Nat), cs = [.slice A l.length c] ∧ l.length ≤ c ∧ k24.C W A l.length l := by
  rcases DataW.trod_slice Try.underlying22 h with ⟨rfl, _⟩ | ⟨a, len, cap, elems, rest, m, rfl, rfl, _, _, hlc, hcm, hel, hi, _⟩
  · exact ⟨none, [], 0, rfl, Nat.le_refl _, Kd.C_nil _ _⟩
  · have hx : ∀ i, i < len → ∃ e : S24, ∃ c, c.length = 6 ∧ k24.K W e c ∧ ∀ j u, c[j]? = some u → W.cell? (a.add (i * 6 + j)) = some u := by
      intro i hlt
      have h1 := hi i hlt
      rw [c24, List.getElem?_eq_getElem (by omega), Option.bind_eq_some_iff] at h1
      obtain ⟨c, h2, h3⟩ := h1
      obtain ⟨_, hcl, hcells⟩ := World.cells?_some h2
      obtain ⟨e, he⟩ := ih m (by omega) c _ h3
      refine ⟨e, c, hcl, he, fun j u hu => ?_⟩
      have hj := (List.getElem?_eq_some_iff.1 hu).1
      rw [← Deep.add_add, hcells j (by omega)]
      exact hu
    obtain ⟨l, hl, hq⟩ := list_of hx
    subst hl
    refine ⟨some a, l, cap, rfl, hlc, rfl, by simp only [maxLen] at hcm; omega, fun _ => ⟨a, rfl, fun j p hj => ?_⟩⟩
    obtain ⟨c, h1, h2, h3⟩ := hq j p hj
    exact ⟨c, h1, h2, h3⟩
theorem k24_of_trod (n : Nat) : ∀ cs x, DataW.trod enc Try.prog W 0 sp held n 24 cs = some x → ∃ e : S24, k24.K W e cs := by
  induction n using Nat.strongRecOn with
  | _ n ih =>
  intro cs x h
  obtain ⟨xs, m, rfl, rfl, hl, hlen, hf⟩ := DataW.trod_struct Try.underlying24 h
  rw [c24] at hl
  obtain ⟨v0, v1, v2, v3, v4, v5, rfl⟩ := six_cells hl
  have g : ∀ i, i < 6 → ∃ y, xs[i]? = some y := fun i hi => ⟨xs[i]'(by rw [hlen]; exact hi), List.getElem?_eq_getElem _⟩
  obtain ⟨y0, e0⟩ := g 0 (by decide)
  obtain ⟨y1, e1⟩ := g 1 (by decide)
  obtain ⟨y2, e2⟩ := g 2 (by decide)
  obtain ⟨y3, e3⟩ := g 3 (by decide)
  obtain ⟨y4, e4⟩ := g 4 (by decide)
  obtain ⟨y5, e5⟩ := g 5 (by decide)
  have f0 : DataW.trod enc Try.prog W 0 sp held m 3 [v0] = some y0 := by
    have h0 := hf 0 { name := "Kind", type := 3, offset := 0, embedded := false, tag := "", pkgPath := "", byteOffset := 0 } rfl
    simp only [c3] at h0
    exact h0.trans e0
  have f1 : DataW.trod enc Try.prog W 0 sp held m 3 [v1] = some y1 := by
    have h0 := hf 1 { name := "N", type := 3, offset := 1, embedded := false, tag := "", pkgPath := "", byteOffset := 8 } rfl
    simp only [c3] at h0
    exact h0.trans e1
  have f2 : DataW.trod enc Try.prog W 0 sp held m 9 [v2] = some y2 := by
    have h0 := hf 2 { name := "Text", type := 9, offset := 2, embedded := false, tag := "", pkgPath := "", byteOffset := 16 } rfl
    simp only [c9] at h0
    exact h0.trans e2
  have f3 : DataW.trod enc Try.prog W 0 sp held m 9 [v3] = some y3 := by
    have h0 := hf 3 { name := "Op", type := 9, offset := 3, embedded := false, tag := "", pkgPath := "", byteOffset := 32 } rfl
    simp only [c9] at h0
    exact h0.trans e3
  have f4 : DataW.trod enc Try.prog W 0 sp held m 22 [v4] = some y4 := by
    have h0 := hf 4 { name := "Args", type := 22, offset := 4, embedded := false, tag := "", pkgPath := "", byteOffset := 48 } rfl
    simp only [c22] at h0
    exact h0.trans e4
  have f5 : DataW.trod enc Try.prog W 0 sp held m 3 [v5] = some y5 := by
    have h0 := hf 5 { name := "At", type := 3, offset := 5, embedded := false, tag := "", pkgPath := "", byteOffset := 72 } rfl
    simp only [c3] at h0
    exact h0.trans e5
  obtain ⟨a0, r0, _⟩ := DataW.trod_int Try.underlying3 f0
  obtain ⟨a1, r1, _⟩ := DataW.trod_int Try.underlying3 f1
  obtain ⟨a2, r2, _⟩ := DataW.trod_string Try.underlying9 f2
  obtain ⟨a3, r3, _⟩ := DataW.trod_string Try.underlying9 f3
  obtain ⟨A, l, c, r4, hlc, hC⟩ := slice24_of (fun k hk => ih k (by omega)) f4
  obtain ⟨a5, r5, _⟩ := DataW.trod_int Try.underlying3 f5
  simp only [List.cons.injEq, and_true] at r0 r1 r2 r3 r4 r5
  subst r0 r1 r2 r3 r4 r5
  exact ⟨⟨a0, a1, a2, a3, l, a5⟩, k24_mk W ⟨a0, a1, a2, a3, l, a5⟩ hlc hC⟩
end

end Go.Proofs.Ythhefcdbakcdfaa.PNeedTells
