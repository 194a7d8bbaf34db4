import Derived.Test.YtgnbemgeiloegaaKPTypesGoodsx0
import Derived.Maps.OwnSet
import Derived.WideKeyArgs2
import Derived.DeepKeys4
namespace Go.Proofs.Ytgnbemgeiloegaa.Tg
open Go.RowKit Go.Maps Go.WideMaps
open Go.Proofs.YtgnbemgeiloegaaW.PrintWords Go.Proofs.YtgnbemgeiloegaaW.PrintLast Go.Proofs.YtgnbemgeiloegaaW.PrintMore
/-! A MAP FROM NAMES TO NUMBERS, as a function of the name (map[string]int: type 80). -/
theorem keyS : Keyed Try.prog 9 := string_keyed Try.underlying9
theorem zero3 (w : World) : (zeroValue 3).run Try.prog w = .ok (.int .i64 0) w := by kernel_rfl
theorem key9 {s : ByteArray} (h2 : s.size ≤ maxLen) : ∃ kl, keyOf Try.prog 9 (.string s) = some kl := ⟨_, keyOf_string_mk Try.underlying9 h2⟩
def MapS (w : World) (mp : Value) (N : Nat) (M : ByteArray → Option Int) : Prop :=
  ∃ b, ∃ D : DataW Unit, mp = .map (some b) ∧ w.ownsMap Try.prog 9 (plainElem Try.prog 3) b N D ∧
    ∀ s kl, keyOf Try.prog 9 (.string s) = some kl → Maps.has D kl = (M s).isSome ∧ ∀ c, M s = some c → D.atKey kl (.lit (.int .i64 0)) = .lit (.int .i64 c)
theorem MapS.look {w : World} {mp : Value} {N : Nat} {M : ByteArray → Option Int} (h : MapS w mp N M) {s : ByteArray} (h2 : s.size ≤ maxLen) :
    (Instr.lookup 80 mp (.string s) false).run Try.prog w = .ok (.int .i64 ((M s).getD 0)) w := by
  obtain ⟨kl, hk⟩ := key9 h2
  obtain ⟨b, D, rfl, ho, hM⟩ := h
  obtain ⟨c, hr, hc1, _⟩ := ho.lookup_int keyS Try.underlying80 Try.underlying3 (zero3 w) hk
  rw [hr]
  obtain ⟨m1, m2⟩ := hM s kl hk
  cases hm : M s with
  | none =>
    rw [hm] at m1
    rw [Maps.atKey_of_not_has m1] at hc1
    cases hc1
    rfl
  | some x =>
    rw [m2 x hm] at hc1
    cases hc1
    rfl
def putS (M : ByteArray → Option Int) (s : ByteArray) (o : Option Int) : ByteArray → Option Int := fun b => if b = s then o else M b
theorem MapS.store {w : World} {b : Nat} {N : Nat} {M : ByteArray → Option Int} (h : MapS w (.map (some b)) N M) (hN : N < maxLen) {x : Int} {s : ByteArray} (h2 : s.size ≤ maxLen) (h3 : (Lit.int .i64 x).wf = true) :
    ∃ w', (Instr.mapUpdate 80 (.map (some b)) (.string s) (.int .i64 x)).run Try.prog w = .ok () w' ∧ MapS w' (.map (some b)) (N + 1) (putS M s (some x)) ∧ w.grownBy w' (some b) := by
  obtain ⟨kl, hk⟩ := key9 h2
  obtain ⟨b', D, hb, ho, hM⟩ := h
  cases hb
  obtain ⟨w', hr, ho', hg⟩ := ho.update keyS Try.underlying80 hN hk (plainElem_int Try.underlying3 h3)
  refine ⟨w', hr, ⟨b, _, rfl, ho', ?_⟩, hg⟩
  intro s' kl' hk'
  obtain ⟨m1, m2⟩ := hM s' kl' hk'
  by_cases e : s' = s
  · subst e
    rw [hk] at hk'
    cases hk'
    have hp : putS M s' (some x) s' = some x := by simp [putS]
    rw [hp, Maps.has_put_same ho.isMap (keyS.key hk)]
    refine ⟨rfl, fun c hc => ?_⟩
    cases hc
    exact Maps.atKey_put_same ho.isMap (keyS.key hk) _ _
  · have hne : kl' ≠ kl := fun e' => by
      subst e'
      have := keyS.inj hk' hk
      simp only [Value.string.injEq] at this
      exact e this
    have hp : putS M s (some x) s' = M s' := by simp only [putS]; rw [if_neg e]
    rw [hp, Maps.has_put_other hne, Maps.atKey_put_other hne]
    exact ⟨m1, m2⟩
theorem MapS.made (w : World) : MapS (w.alloc (.map #[] 0)) (.map (some w.heap.size)) 0 (fun _ => none) :=
  ⟨_, .map [], rfl, World.ownsMap_made w Try.prog 9 _, fun _ _ _ => ⟨rfl, fun c hc => by cases hc⟩⟩
theorem MapS.kept {w w' : World} {b N : Nat} {M : ByteArray → Option Int} (h : MapS w (.map (some b)) N M) (hk : w'.heap[b]? = w.heap[b]?) : MapS w' (.map (some b)) N M := by
  obtain ⟨b', D, hb, ho, hM⟩ := h
  cases hb
  refine ⟨b, D, rfl, ?_, hM⟩
  obtain ⟨es, clock, hb, r⟩ := ho
  exact ⟨es, clock, hk.trans hb, r⟩
theorem MapS.lt {w : World} {b N : Nat} {M : ByteArray → Option Int} (h : MapS w (.map (some b)) N M) : b < w.heap.size := by
  obtain ⟨b', D, hb, ho, hM⟩ := h
  cases hb
  exact ho.lt
end Go.Proofs.Ytgnbemgeiloegaa.Tg
