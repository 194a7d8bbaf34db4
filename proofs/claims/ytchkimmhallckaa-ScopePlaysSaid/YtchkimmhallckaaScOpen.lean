/- Arguments that can be read as data: a slice of strings. -/
import Derived.Test.YtchkimmhallckaaScBack
import Derived.Deep.Slices
import Derived.DataReads
import Derived.ChangeArms
namespace Go.Proofs.Ytchkimmhallckaa.Sc
open Go.RowKit Go.Maps Go.WideMaps Go.Proofs.Ytchkimmhallckaa
open Go.Proofs.YtchkimmhallckaaW.PrintWords Go.Proofs.YtchkimmhallckaaW.PrintLast Go.Proofs.YtchkimmhallckaaW.PrintMore
open Go.ChangeShapes Go.WideShapes
set_option linter.unusedVariables false
set_option linter.unusedSimpArgs false
theorem c9 : Try.prog.cellsOf 9 = 1 := by kernel_rfl

theorem list_of {α : Type} {n : Nat} {Q : Nat → α → Prop} (h : ∀ i, i < n → ∃ x, Q i x) : ∃ l : List α, l.length = n ∧ ∀ i x, l[i]? = some x → Q i x := by
  induction n with
  | zero => exact ⟨[], rfl, fun i x hx => by simp at hx⟩
  | succ n ih =>
    obtain ⟨l, hl, hq⟩ := ih (fun i hi => h i (by omega))
    obtain ⟨x, hx⟩ := h n (by omega)
    refine ⟨l ++ [x], by simp [hl], fun i y hy => ?_⟩
    rcases Nat.lt_or_ge i l.length with hi | hi
    · rw [List.getElem?_append_left hi] at hy
      exact hq i y hy
    · have h2 := (List.getElem?_eq_some_iff.1 hy).1
      simp at h2
      have : i = l.length := by omega
      subst this
      simp at hy
      subst hy
      rw [hl]
      exact hx

section
variable {H : Type} {enc : TypeId × Value → H} {W : World} {sp : Nat → Bool} {held : Bool}
theorem slice40_of {n : Nat} {cs : List Value} {x : DataW H × List MemPlace} (h : DataW.trod enc Try.prog W 0 sp held n 40 cs = some x) :
    ∃ (A : Option Addr) (l : List ByteArray) (c : Nat), cs = [.slice A l.length c] ∧ l.length ≤ c ∧ Kd.C Kd.string W A l.length l := by
  rcases DataW.trod_slice Try.underlying40 h with ⟨rfl, _⟩ | ⟨a, len, cap, elems, rest, m, rfl, rfl, _, _, hlc, hcm, hel, hi, _⟩
  · exact ⟨none, [], 0, rfl, Nat.le_refl _, ⟨rfl, by simp, fun h => absurd h (by simp)⟩⟩
  · have hx : ∀ i, i < len → ∃ e : ByteArray, ∃ c, c.length = 1 ∧ c = [Value.string e] ∧ ∀ j u, c[j]? = some u → W.cell? (a.add (i * 1 + j)) = some u := by
      intro i hlt
      have h1 := hi i hlt
      rw [c9, List.getElem?_eq_getElem (by omega), Option.bind_eq_some_iff] at h1
      obtain ⟨c, h2, h3⟩ := h1
      obtain ⟨_, hcl, hcells⟩ := World.cells?_some h2
      obtain ⟨s, rfl, _, _⟩ := DataW.trod_string Try.underlying9 h3
      refine ⟨s, _, hcl, rfl, fun j u hu => ?_⟩
      have hj := (List.getElem?_eq_some_iff.1 hu).1
      rw [← Deep.add_add, hcells j (by omega)]
      exact hu
    obtain ⟨l, hl, hq⟩ := list_of hx
    subst hl
    refine ⟨some a, l, cap, rfl, hlc, rfl, by simp only [maxLen] at hcm; omega, fun _ => ⟨a, rfl, fun j p hj => ?_⟩⟩
    obtain ⟨c, h1, h2, h3⟩ := hq j p hj
    exact ⟨c, h1, h2, h3⟩

theorem strs_of {v : Value} {b0 : Nat} {d : DataW H} {p : List MemPlace} (hv : Value.okWide Try.prog W .any b0 40 v) (h : DataW.Trod enc Try.prog W 0 (fun _ => true) true 40 v d p) :
    ∃ (A : Option Addr) (l : List ByteArray) (c : Nat), v = .slice A l.length c ∧ Kd.C Kd.string W A l.length l := by
  obtain ⟨a, len, cap, rfl⟩ := okWide_slice Try.underlying40 hv
  obtain ⟨n, hn⟩ := h
  obtain ⟨A, l, c, hcs, _, hC⟩ := slice40_of hn
  simp [Value.cells] at hcs
  obtain ⟨rfl, rfl, rfl⟩ := hcs
  exact ⟨_, l, _, rfl, hC⟩
end
end Go.Proofs.Ytchkimmhallckaa.Sc
