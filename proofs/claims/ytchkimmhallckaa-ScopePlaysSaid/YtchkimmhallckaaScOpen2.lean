/- Arguments that can be read as data: a slice of steps. -/
import Derived.Test.YtchkimmhallckaaScPlays
import Derived.Test.YtchkimmhallckaaScOpen
namespace Go.Proofs.Ytchkimmhallckaa.Sc
open Go.RowKit Go.Maps Go.WideMaps Go.Proofs.Ytchkimmhallckaa
open Go.Proofs.YtchkimmhallckaaW.PrintWords Go.Proofs.YtchkimmhallckaaW.PrintLast Go.Proofs.YtchkimmhallckaaW.PrintMore
open Go.ChangeShapes Go.WideShapes
set_option linter.unusedVariables false
set_option linter.unusedSimpArgs false
theorem c36 : Try.prog.cellsOf 36 = 3 := by kernel_rfl
theorem c3' : Try.prog.cellsOf 3 = 1 := by kernel_rfl

theorem three_cells {cs : List Value} (h : cs.length = 3) : ∃ a b c, cs = [a, b, c] := by
  match cs, h with
  | [a, b, c], _ => exact ⟨a, b, c, rfl⟩

section
variable {H : Type} {enc : TypeId × Value → H} {W : World} {sp : Nat → Bool} {held : Bool}
theorem step_of {n : Nat} {cs : List Value} {x : DataW H × List MemPlace} (h : DataW.trod enc Try.prog W 0 sp held n 36 cs = some x) :
    ∃ e : Stp, cs = [.int .i64 e.kind, .string e.name, .int .i64 e.n] ∧ (Lit.int .i64 e.n).wf = true := by
  obtain ⟨xs, m, rfl, rfl, hl, hlen, hf⟩ := DataW.trod_struct Try.underlying36 h
  rw [c36] at hl
  obtain ⟨v0, v1, v2, rfl⟩ := three_cells hl
  have g : ∀ i, i < 3 → ∃ y, xs[i]? = some y := fun i hi => ⟨xs[i]'(by rw [hlen]; exact hi), List.getElem?_eq_getElem _⟩
  obtain ⟨y0, e0⟩ := g 0 (by decide)
  obtain ⟨y1, e1⟩ := g 1 (by decide)
  obtain ⟨y2, e2⟩ := g 2 (by decide)
  have f0 : DataW.trod enc Try.prog W 0 sp held m 3 [v0] = some y0 := by
    have h0 := hf 0 { name := "Kind", type := 3, offset := 0, embedded := false, tag := "", pkgPath := "", byteOffset := 0 } rfl
    simp only [c3'] at h0
    exact h0.trans e0
  have f1 : DataW.trod enc Try.prog W 0 sp held m 9 [v1] = some y1 := by
    have h0 := hf 1 { name := "Name", type := 9, offset := 1, embedded := false, tag := "", pkgPath := "", byteOffset := 8 } rfl
    simp only [c9] at h0
    exact h0.trans e1
  have f2 : DataW.trod enc Try.prog W 0 sp held m 3 [v2] = some y2 := by
    have h0 := hf 2 { name := "N", type := 3, offset := 2, embedded := false, tag := "", pkgPath := "", byteOffset := 24 } rfl
    simp only [c3'] at h0
    exact h0.trans e2
  obtain ⟨a0, r0, _⟩ := DataW.trod_int Try.underlying3 f0
  obtain ⟨a1, r1, _⟩ := DataW.trod_string Try.underlying9 f1
  obtain ⟨a2, r2, _, w2⟩ := DataW.trod_int Try.underlying3 f2
  simp only [List.cons.injEq, and_true] at r0 r1 r2
  subst r0 r1 r2
  exact ⟨⟨a0, a1, a2⟩, rfl, w2⟩

theorem steps_of {v : Value} {b0 : Nat} {d : DataW H} {p : List MemPlace} (hv : Value.okWide Try.prog W .any b0 32 v) (h : DataW.Trod enc Try.prog W 0 (fun _ => true) true 32 v d p) :
    ∃ (A : Option Addr) (l : List Stp) (c : Nat), v = .slice A l.length c ∧ StepsC W A l ∧ ∀ x ∈ l, (Lit.int .i64 x.n).wf = true := by
  obtain ⟨a0, len0, cap0, rfl⟩ := okWide_slice Try.underlying32 hv
  obtain ⟨n, hn⟩ := h
  rcases DataW.trod_slice Try.underlying32 hn with ⟨hcs, _⟩ | ⟨a, len, cap, elems, rest, m, rfl, hcs, _, _, hlc, hcm, hel, hi, _⟩
  · simp [Value.cells] at hcs
    obtain ⟨rfl, rfl, rfl⟩ := hcs
    exact ⟨none, [], 0, rfl, fun h => absurd h (by simp), fun x hx => by cases hx⟩
  · simp [Value.cells] at hcs
    obtain ⟨rfl, rfl, rfl⟩ := hcs
    have hx : ∀ i, i < len0 → ∃ e : Stp, (Lit.int .i64 e.n).wf = true ∧ ∀ j u, [Value.int .i64 e.kind, .string e.name, .int .i64 e.n][j]? = some u → W.cell? (a.add (i * 3 + j)) = some u := by
      intro i hlt
      have h1 := hi i hlt
      rw [c36, List.getElem?_eq_getElem (by omega), Option.bind_eq_some_iff] at h1
      obtain ⟨c, h2, h3⟩ := h1
      obtain ⟨_, hcl, hcells⟩ := World.cells?_some h2
      obtain ⟨e, rfl, hw⟩ := step_of h3
      refine ⟨e, hw, fun j u hu => ?_⟩
      have hj := (List.getElem?_eq_some_iff.1 hu).1
      rw [← Deep.add_add, hcells j (by simpa using hj)]
      exact hu
    obtain ⟨l, hl, hq⟩ := list_of hx
    subst hl
    refine ⟨some a, l, cap0, rfl, fun hn => ⟨a, rfl, ?_, fun j hj => ?_⟩, fun x hx => ?_⟩
    · have h0 := (hq 0 l[0] (List.getElem?_eq_getElem hn)).2 0 _ rfl
      have := World.block_lt_of_cell? _ _ h0
      have e : (a.add (0 * 3 + 0)).block = a.block := by unfold Addr.add; split <;> rfl
      rwa [e] at this
    · have h0 := (hq j l[j] (List.getElem?_eq_getElem hj)).2
      refine ⟨h0 0 _ rfl, ?_, ?_⟩
      · have := h0 1 _ rfl
        rw [← Deep.add_add] at this
        simpa [Addr.add] using this
      · have := h0 2 _ rfl
        rw [← Deep.add_add] at this
        simpa [Addr.add] using this
    · obtain ⟨i, hi⟩ := List.getElem?_of_mem hx
      exact (hq i x hi).1
end
end Go.Proofs.Ytchkimmhallckaa.Sc
