import Derived.Test.YtchkimmhallckaaPScopePlaysx2
import Derived.Maps.OwnSet
import Derived.WideKeyArgs2
import Derived.DeepKeys4
namespace Go.Proofs.Ytchkimmhallckaa.Sc
open Go.RowKit Go.Maps Go.WideMaps
open Go.Proofs.YtchkimmhallckaaW.PrintWords Go.Proofs.YtchkimmhallckaaW.PrintLast Go.Proofs.YtchkimmhallckaaW.PrintMore

/-! THE MAP OF NAMES, as a function of level and name. -/
theorem laidOut : laidOutB Try.prog = true := by kernel_rfl
theorem law53 : Keyed Try.prog 53 := Keyed.of_law (deep_law_laid laidOut (m := 3) (by omega) (of_decide_eq_true (by kernel_rfl)) (by kernel_rfl) (by kernel_rfl))
theorem zero3 (w : World) : (zeroValue 3).run Try.prog w = .ok (.int .i64 0) w := by kernel_rfl

/-- the key of a level and a name -/
def keyV (lv : Int) (s : ByteArray) : Value := .agg #[.int .i64 lv, .string s]

theorem key53 {lv : Int} {s : ByteArray} (h1 : (Lit.int .i64 lv).wf = true) (h2 : s.size ≤ maxLen) : ∃ kl, keyOf Try.prog 53 (keyV lv s) = some kl := by
  have e1 : Try.prog.keyType 53 = true := by kernel_rfl
  have c3 : Try.prog.cellsOf 53 = 2 := by kernel_rfl
  have c1 : Try.prog.cellsOf 3 = 1 := by kernel_rfl
  have c2 : Try.prog.cellsOf 9 = 1 := by kernel_rfl
  have e2 : (keyV lv s).formed Try.prog 53 = true := by
    obtain ⟨fs, hu⟩ : ∃ fs, Try.prog.underlying 53 = some (.struct fs) := ⟨_, Try.underlying53⟩
    simp [keyV, Value.formed, hu, c3]
  have e3 : ∃ ls, Try.prog.keyLits (Try.prog.types.size + 1) 53 (keyV lv s).cells.toList = some ls := by
    obtain ⟨n, hn⟩ : ∃ n, Try.prog.types.size + 1 = n + 2 := by
      have : (53 : Nat) < Try.prog.types.size := of_decide_eq_true (by kernel_rfl)
      exact ⟨Try.prog.types.size - 1, by omega⟩
    rw [hn]
    simp only [keyV, Value.cells]
    unfold Program.keyLits
    simp only [Try.underlying53]
    rw [if_pos (by constructor <;> simp [c3])]
    simp [Program.keyLits, c1, c2, Try.underlying3, Try.underlying9, h1, h2]
  obtain ⟨ls, e3⟩ := e3
  exact ⟨_, by simp only [keyOf, Try.underlying53]; rw [e1, e2, e3]; rfl⟩

def MapIs (w : World) (mp : Value) (N : Nat) (M : Int → ByteArray → Option Int) : Prop :=
  (mp = .map none ∧ ∀ lv s, M lv s = none) ∨
  ∃ b, ∃ D : DataW Unit, mp = .map (some b) ∧ w.ownsMap Try.prog 53 (plainElem Try.prog 3) b N D ∧
    ∀ lv s kl, keyOf Try.prog 53 (keyV lv s) = some kl → Maps.has D kl = (M lv s).isSome ∧ ∀ c, M lv s = some c → D.atKey kl (.lit (.int .i64 0)) = .lit (.int .i64 c)

def mapBlock : Value → Option Nat
  | .map b => b
  | _ => none

theorem MapIs.look {w : World} {mp : Value} {N : Nat} {M : Int → ByteArray → Option Int} (h : MapIs w mp N M) {lv : Int} {s : ByteArray} (h1 : (Lit.int .i64 lv).wf = true) (h2 : s.size ≤ maxLen) :
    (Instr.lookup 47 mp (keyV lv s) true).run Try.prog w = .ok (.tuple #[.int .i64 ((M lv s).getD 0), .bool (M lv s).isSome]) w := by
  obtain ⟨kl, hk⟩ := key53 h1 h2
  rcases h with ⟨rfl, hn⟩ | ⟨b, D, rfl, ho, hM⟩
  · rw [Maps.look_nil true law53 Try.underlying47 (zero3 w) hk, hn]
    rfl
  · obtain ⟨v, ps, hr, hv⟩ := ho.look_ok law53 Try.underlying47 (zero3 w) (plainElem_int Try.underlying3 (by decide)) hk
    obtain ⟨c, rfl, hc, _⟩ := plainElem_int_inv Try.underlying3 hv
    rw [hr]
    obtain ⟨m1, m2⟩ := hM lv s kl hk
    have hc1 : D.atKey kl (.lit (.int .i64 0)) = .lit (.int .i64 c) := congrArg Prod.fst hc
    rw [m1]
    cases hm : M lv s with
    | none =>
      rw [hm] at m1
      rw [Maps.atKey_of_not_has m1] at hc1
      cases hc1
      rfl
    | some x =>
      rw [m2 x hm] at hc1
      cases hc1
      rfl

def putM (M : Int → ByteArray → Option Int) (lv : Int) (s : ByteArray) (o : Option Int) : Int → ByteArray → Option Int := fun a b => if a = lv ∧ b = s then o else M a b

theorem keyV_inj {a b : Int} {s t : ByteArray} (h : keyV a s = keyV b t) : a = b ∧ s = t := by
  simp only [keyV, Value.agg.injEq] at h
  have h2 := congrArg Array.toList h
  simp at h2
  exact h2

theorem MapIs.store {w : World} {b : Nat} {N : Nat} {M : Int → ByteArray → Option Int} (h : MapIs w (.map (some b)) N M) (hN : N < maxLen) {lv x : Int} {s : ByteArray} (h1 : (Lit.int .i64 lv).wf = true) (h2 : s.size ≤ maxLen) (h3 : (Lit.int .i64 x).wf = true) :
    ∃ w', (Instr.mapUpdate 47 (.map (some b)) (keyV lv s) (.int .i64 x)).run Try.prog w = .ok () w' ∧ MapIs w' (.map (some b)) (N + 1) (putM M lv s (some x)) ∧ w.grownBy w' (some b) := by
  obtain ⟨kl, hk⟩ := key53 h1 h2
  rcases h with ⟨h0, _⟩ | ⟨b', D, hb, ho, hM⟩
  · cases h0
  · cases hb
    obtain ⟨w', hr, ho', hg⟩ := ho.update law53 Try.underlying47 hN hk (plainElem_int Try.underlying3 h3)
    refine ⟨w', hr, .inr ⟨b, _, rfl, ho', ?_⟩, hg⟩
    intro lv' s' kl' hk'
    obtain ⟨m1, m2⟩ := hM lv' s' kl' hk'
    by_cases e : lv' = lv ∧ s' = s
    · obtain ⟨rfl, rfl⟩ := e
      rw [hk] at hk'
      cases hk'
      have hp : putM M lv' s' (some x) lv' s' = some x := by simp [putM]
      rw [hp, Maps.has_put_same ho.isMap (law53.key hk)]
      refine ⟨rfl, fun c hc => ?_⟩
      cases hc
      exact Maps.atKey_put_same ho.isMap (law53.key hk) _ _
    · have hne : kl' ≠ kl := fun e' => by
        subst e'
        obtain ⟨q1, q2⟩ := keyV_inj (law53.inj hk' hk)
        exact e ⟨q1, q2⟩
      have hp : putM M lv s (some x) lv' s' = M lv' s' := by simp only [putM]; rw [if_neg e]
      rw [hp, Maps.has_put_other hne, Maps.atKey_put_other hne]
      exact ⟨m1, m2⟩

theorem MapIs.drop {w : World} {mp : Value} {N : Nat} {M : Int → ByteArray → Option Int} (h : MapIs w mp N M) {lv : Int} {s : ByteArray} (h1 : (Lit.int .i64 lv).wf = true) (h2 : s.size ≤ maxLen) (ty : TypeId) :
    ∃ w', (Builtin.delete_ #[47, 53] ty #[mp, keyV lv s]).run Try.prog w = .ok (.tuple #[]) w' ∧ MapIs w' mp N (putM M lv s none) ∧ w.grownBy w' (mapBlock mp) := by
  obtain ⟨kl, hk⟩ := key53 h1 h2
  rcases h with ⟨rfl, hn⟩ | ⟨b, D, rfl, ho, hM⟩
  · refine ⟨w, Maps.drop_nil law53 Try.underlying47 hk ty, .inl ⟨rfl, fun a b => ?_⟩, ⟨rfl, rfl, rfl, Nat.le_refl _, fun _ _ _ => rfl⟩⟩
    simp only [putM, hn, ite_self]
  · obtain ⟨w', hr, ho', hg⟩ := ho.drop law53 Try.underlying47 hk ty
    refine ⟨w', hr, .inr ⟨b, _, rfl, ho', ?_⟩, hg.grown⟩
    intro lv' s' kl' hk'
    obtain ⟨m1, m2⟩ := hM lv' s' kl' hk'
    by_cases e : lv' = lv ∧ s' = s
    · obtain ⟨rfl, rfl⟩ := e
      rw [hk] at hk'
      cases hk'
      have hp : putM M lv' s' none lv' s' = none := by simp [putM]
      rw [hp, Maps.has_del_same]
      exact ⟨rfl, fun c hc => by cases hc⟩
    · have hne : kl' ≠ kl := fun e' => by
        subst e'
        obtain ⟨q1, q2⟩ := keyV_inj (law53.inj hk' hk)
        exact e ⟨q1, q2⟩
      have hp : putM M lv s none lv' s' = M lv' s' := by simp only [putM]; rw [if_neg e]
      rw [hp, Maps.has_del_other hne, Maps.atKey_del_other hne]
      exact ⟨m1, m2⟩

theorem MapIs.made (w : World) : MapIs (w.alloc (.map #[] 0)) (.map (some w.heap.size)) 0 (fun _ _ => none) :=
  .inr ⟨_, .map [], rfl, World.ownsMap_made w Try.prog 53 _, fun _ _ _ _ => ⟨rfl, fun c hc => by cases hc⟩⟩

theorem MapIs.mono {w : World} {mp : Value} {N N' : Nat} {M : Int → ByteArray → Option Int} (h : MapIs w mp N M) (hN : N ≤ N') : MapIs w mp N' M := by
  rcases h with ⟨rfl, hn⟩ | ⟨b, D, rfl, ho, hM⟩
  · exact .inl ⟨rfl, hn⟩
  · exact .inr ⟨b, D, rfl, ho.mono hN, hM⟩

theorem MapIs.kept {w w' : World} {mp : Value} {N : Nat} {M : Int → ByteArray → Option Int} (h : MapIs w mp N M) (hk : ∀ b, mapBlock mp = some b → w'.heap[b]? = w.heap[b]?) : MapIs w' mp N M := by
  rcases h with ⟨rfl, hn⟩ | ⟨b, D, rfl, ho, hM⟩
  · exact .inl ⟨rfl, hn⟩
  · refine .inr ⟨b, D, rfl, ?_, hM⟩
    obtain ⟨es, clock, hb, r⟩ := ho
    exact ⟨es, clock, (hk b rfl).trans hb, r⟩

theorem MapIs.lt {w : World} {mp : Value} {N : Nat} {M : Int → ByteArray → Option Int} (h : MapIs w mp N M) (b : Nat) (hb : mapBlock mp = some b) : b < w.heap.size := by
  rcases h with ⟨rfl, hn⟩ | ⟨b', D, rfl, ho, hM⟩
  · cases hb
  · cases hb
    exact ho.lt

theorem MapIs.ext {w : World} {mp : Value} {N : Nat} {M M' : Int → ByteArray → Option Int} (h : MapIs w mp N M) (e : ∀ a b, M a b = M' a b) : MapIs w mp N M' := by
  have : M = M' := funext fun a => funext fun b => e a b
  rwa [← this]

theorem MapIs.isMapV {w : World} {mp : Value} {N : Nat} {M : Int → ByteArray → Option Int} (h : MapIs w mp N M) : ∃ b, mp = .map b := by
  rcases h with ⟨rfl, _⟩ | ⟨b, D, rfl, _⟩ <;> exact ⟨_, rfl⟩
end Go.Proofs.Ytchkimmhallckaa.Sc
