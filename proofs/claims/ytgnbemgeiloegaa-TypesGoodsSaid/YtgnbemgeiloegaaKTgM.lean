import Derived.Test.YtgnbemgeiloegaaKTgA
import Derived.WideKeyEntry
namespace Go.Proofs.Ytgnbemgeiloegaa.Tg
open Go.RowKit Go.Maps Go.WideMaps
open Go.Proofs.YtgnbemgeiloegaaW.PrintWords Go.Proofs.YtgnbemgeiloegaaW.PrintLast Go.Proofs.YtgnbemgeiloegaaW.PrintMore
set_option linter.unusedVariables false
open Classical
/-! A MAP FROM KEYS TO NUMBERS, as a function of the key. -/
theorem laidOut : laidOutB Try.prog = true := by kernel_rfl
theorem klaw72 : WideMaps.KeyLaw Try.prog 72 := deep_law_laid laidOut (m := 3) (by omega) (of_decide_eq_true (by kernel_rfl)) (by kernel_rfl) (by kernel_rfl)
theorem klaw83 : WideMaps.KeyLaw Try.prog 83 := deep_law_laid laidOut (m := 3) (by omega) (of_decide_eq_true (by kernel_rfl)) (by kernel_rfl) (by kernel_rfl)
def MapG (K : TypeId) (w : World) (mp : Value) (N : Nat) (M : Value → Option Int) : Prop :=
  ∃ b, ∃ D : DataW Unit, mp = .map (some b) ∧ w.ownsMap Try.prog K (plainElem Try.prog 3) b N D ∧
    ∀ v kl, keyOf Try.prog K v = some kl → Maps.has D kl = (M v).isSome ∧ ∀ c, M v = some c → D.atKey kl (.lit (.int .i64 0)) = .lit (.int .i64 c)
theorem MapG.look {K T : TypeId} (law : Keyed Try.prog K) (ht : Try.prog.underlying T = some (.map K 3)) {w : World} {mp : Value} {N : Nat} {M : Value → Option Int} (h : MapG K w mp N M) {v : Value} {kl : Lit} (hk : keyOf Try.prog K v = some kl) :
    (Instr.lookup T mp v false).run Try.prog w = .ok (.int .i64 ((M v).getD 0)) w := by
  obtain ⟨b, D, rfl, ho, hM⟩ := h
  obtain ⟨c, hr, hc1, _⟩ := ho.lookup_int law ht Try.underlying3 (zero3 w) hk
  rw [hr]
  obtain ⟨m1, m2⟩ := hM v kl hk
  cases hm : M v with
  | none =>
    rw [hm] at m1
    rw [Maps.atKey_of_not_has m1] at hc1
    cases hc1
    rfl
  | some x =>
    rw [m2 x hm] at hc1
    cases hc1
    rfl
noncomputable def putG (M : Value → Option Int) (v : Value) (o : Option Int) : Value → Option Int := fun u => if u = v then o else M u
theorem MapG.store {K T : TypeId} (law : Keyed Try.prog K) (ht : Try.prog.underlying T = some (.map K 3)) {w : World} {b N : Nat} {M : Value → Option Int} (h : MapG K w (.map (some b)) N M) (hN : N < maxLen) {x : Int} {v : Value} {kl : Lit} (hk : keyOf Try.prog K v = some kl) (h3 : (Lit.int .i64 x).wf = true) :
    ∃ w', (Instr.mapUpdate T (.map (some b)) v (.int .i64 x)).run Try.prog w = .ok () w' ∧ MapG K w' (.map (some b)) (N + 1) (putG M v (some x)) ∧ w.grownBy w' (some b) := by
  obtain ⟨b', D, hb, ho, hM⟩ := h
  cases hb
  obtain ⟨w', hr, ho', hg⟩ := ho.update law ht hN hk (plainElem_int Try.underlying3 h3)
  refine ⟨w', hr, ⟨b, _, rfl, ho', ?_⟩, hg⟩
  intro v' kl' hk'
  obtain ⟨m1, m2⟩ := hM v' kl' hk'
  by_cases e : v' = v
  · subst e
    rw [hk] at hk'
    cases hk'
    have hp : putG M v' (some x) v' = some x := by simp [putG]
    rw [hp, Maps.has_put_same ho.isMap (law.key hk)]
    refine ⟨rfl, fun c hc => ?_⟩
    cases hc
    exact Maps.atKey_put_same ho.isMap (law.key hk) _ _
  · have hne : kl' ≠ kl := fun e' => by
      subst e'
      exact e (law.inj hk' hk)
    have hp : putG M v (some x) v' = M v' := by simp only [putG]; rw [if_neg e]
    rw [hp, Maps.has_put_other hne, Maps.atKey_put_other hne]
    exact ⟨m1, m2⟩
theorem MapG.entry {K T : TypeId} (kl0 : WideMaps.KeyLaw Try.prog K) (ht : Try.prog.underlying T = some (.map K 3)) {w : World} {b N : Nat} {M : Value → Option Int} (h : MapG K w (.map (some b)) N M) (hN : N < maxLen) {x : Int} {v : Value} {kl : Lit} (hk : keyOf Try.prog K v = some kl) (h3 : (Lit.int .i64 x).wf = true) :
    ∃ (v0 : Value) (st : Nat) (wm w' : World), (Instr.mapEntry T (.map (some b)) v).run Try.prog w = .ok (.tuple #[v0, goInt st]) wm ∧ (Instr.entryStore T (.map (some b)) (goInt st) (.int .i64 x)).run Try.prog wm = .ok () w' ∧ MapG K w' (.map (some b)) (N + 1) (putG M v (some x)) ∧ w.grownBy w' (some b) ∧ ∀ a : Addr, a.block ≠ b → wm.cell? a = w.cell? a := by
  obtain ⟨w', hr, hM', hg⟩ := h.store (Keyed.of_law kl0) ht hN hk h3
  obtain ⟨b', D, hb, ho, hM⟩ := h
  cases hb
  obtain ⟨es, clock, hb, F, -, -⟩ := ho
  obtain ⟨v0, st, es1, clock1, he, -, hs⟩ := WideElems.entry_then_store kl0 ht (fun u => zero3 u) hb F hk
  have hlt : b < w.heap.size := by
    rcases Nat.lt_or_ge b w.heap.size with h' | h'
    · exact h'
    · simp [Array.getElem?_eq_none h'] at hb
  obtain ⟨es', clock', hs1, hs2⟩ := hs (Go.ChangeMaps.setBlock w b (.map es1 clock1)) (.int .i64 x) (by simp [Go.ChangeMaps.setBlock, hlt])
  rw [hs2] at hr
  have e : w' = Go.ChangeMaps.setBlock (Go.ChangeMaps.setBlock w b (.map es1 clock1)) b (.map es' clock') := by
    cases hr
    simp [Go.ChangeMaps.setBlock]
  refine ⟨v0, st, _, w', he, by rw [e]; exact hs1, hM', hg, fun a ha => ?_⟩
  unfold World.cell?
  have : (ChangeMaps.setBlock w b (.map es1 clock1)).heap[a.block]? = w.heap[a.block]? := by
    simp only [ChangeMaps.setBlock]
    rw [Array.getElem?_setIfInBounds, if_neg (Ne.symm ha)]
  rw [this]
theorem MapG.made (K : TypeId) (w : World) : MapG K (w.alloc (.map #[] 0)) (.map (some w.heap.size)) 0 (fun _ => none) :=
  ⟨_, .map [], rfl, World.ownsMap_made w Try.prog K _, fun _ _ _ => ⟨rfl, fun c hc => by cases hc⟩⟩
theorem MapG.kept {K : TypeId} {w w' : World} {b N : Nat} {M : Value → Option Int} (h : MapG K w (.map (some b)) N M) (hk : w'.heap[b]? = w.heap[b]?) : MapG K w' (.map (some b)) N M := by
  obtain ⟨b', D, hb, ho, hM⟩ := h
  cases hb
  refine ⟨b, D, rfl, ?_, hM⟩
  obtain ⟨es, clock, hb, r⟩ := ho
  exact ⟨es, clock, hk.trans hb, r⟩
/-- between the two: the key reads as before -/
theorem MapG.entry_wm {K T : TypeId} (kl0 : WideMaps.KeyLaw Try.prog K) (ht : Try.prog.underlying T = some (.map K 3)) {w : World} {b N : Nat} {M : Value → Option Int} (h : MapG K w (.map (some b)) N M) (hN : N < maxLen) {v : Value} {kl : Lit} (hk : keyOf Try.prog K v = some kl) {r : Value} {wm : World}
    (he : (Instr.mapEntry T (.map (some b)) v).run Try.prog w = .ok r wm) : (Instr.lookup T (.map (some b)) v false).run Try.prog wm = .ok (.int .i64 ((M v).getD 0)) wm := by
  have hh := h
  obtain ⟨b', D, hb, ho, hM⟩ := h
  cases hb
  obtain ⟨es, clock, hb, F, -, -⟩ := ho
  have hlt : b < w.heap.size := by
    rcases Nat.lt_or_ge b w.heap.size with h' | h'
    · exact h'
    · simp [Array.getElem?_eq_none h'] at hb
  have hz : ∀ u : World, (zeroValue 3).run Try.prog u = .ok (.int .i64 0) u := fun u => zero3 u
  rcases kl0.find w hk es.toList F.keys with ⟨h1, h2⟩ | ⟨j, e0, h1, h2, h3⟩
  · have e1 : (Instr.mapEntry T (.map (some b)) v).run Try.prog w = .ok (.tuple #[.int .i64 0, goInt clock]) (ChangeMaps.setBlock w b (.map (es.push ⟨v, .int .i64 0, clock⟩) (clock + 1))) := by
      simp [Instr.mapEntry, run_underlying ht, MapKept.run_getObj_map hb, kl0.check w false hk, h1, hz, MapKept.run_setObj_map _ hb, Result.andThen, ChangeMaps.setBlock]
    have e2 : (Instr.mapUpdate T (.map (some b)) v (.int .i64 0)).run Try.prog w = .ok () (ChangeMaps.setBlock w b (.map (es.push ⟨v, .int .i64 0, clock⟩) (clock + 1))) := by
      simp [Instr.mapUpdate, run_underlying ht, MapKept.run_getObj_map hb, kl0.check w false hk, h1, MapKept.run_setObj_map _ hb, Result.andThen, ChangeMaps.setBlock]
    rw [he] at e1
    cases e1
    obtain ⟨w', hr, hM', _⟩ := hh.store (Keyed.of_law kl0) ht hN hk (x := 0) (by decide)
    rw [e2] at hr
    cases hr
    have hl := hM'.look (Keyed.of_law kl0) ht hk
    rw [hl]
    have hl0 := hh.look (Keyed.of_law kl0) ht hk
    have hl1 : (Instr.lookup T (.map (some b)) v false).run Try.prog w = .ok (.int .i64 0) w := by
      simp [Instr.lookup, run_underlying ht, MapKept.run_getObj_map hb, kl0.check w _ hk, h1, hz, Result.andThen]
    rw [hl1] at hl0
    have hc : (M v).getD 0 = 0 := by
      injection hl0 with q1
      injection q1 with q2 q3
      exact q3.symm
    rw [hc]
    simp [putG]
  · have hj : es[j]? = some e0 := by simpa using h2
    have hsame : es.modify j (fun e => { e with key := v }) = es := by
      apply Array.ext'
      rw [Array.toList_modify, ChangeMaps.modify_eq_set _ _ _ _ h2]
      have : ({ e0 with key := v } : MapEntry) = e0 := by rw [← h3]
      rw [this]
      exact WideElems.set_self _ _ _ h2
    have e1 : (Instr.mapEntry T (.map (some b)) v).run Try.prog w = .ok (.tuple #[e0.val, goInt e0.born]) (ChangeMaps.setBlock w b (.map es clock)) := by
      simp [Instr.mapEntry, run_underlying ht, MapKept.run_getObj_map hb, kl0.check w false hk, h1, hj, h3, kl0.stays w hk, hsame, MapKept.run_setObj_map _ hb, Result.andThen, ChangeMaps.setBlock]
    rw [he] at e1
    cases e1
    exact (hh.kept (by rw [hb]; simp [ChangeMaps.setBlock, hlt])).look (Keyed.of_law kl0) ht hk
theorem MapG.more {K : TypeId} {w : World} {mp : Value} {N : Nat} {M : Value → Option Int} (h : MapG K w mp N M) : MapG K w mp (N + 1) M := by
  obtain ⟨b, D, hb, ho, hM⟩ := h
  exact ⟨b, D, hb, ho.mono (Nat.le_succ _), hM⟩
theorem MapG.lt {K : TypeId} {w : World} {b N : Nat} {M : Value → Option Int} (h : MapG K w (.map (some b)) N M) : b < w.heap.size := by
  obtain ⟨b', D, hb, ho, hM⟩ := h
  cases hb
  exact ho.lt
/-- the key of a record: its module, its number -/
def keyR (s : ByteArray) (d : Int) : Value := .agg #[.string s, .int .i64 d]
theorem key72 {d : Int} {s : ByteArray} (h1 : (Lit.int .i64 d).wf = true) (h2 : s.size ≤ maxLen) : ∃ kl, keyOf Try.prog 72 (keyR s d) = some kl := by
  have e1 : Try.prog.keyType 72 = true := by kernel_rfl
  have c3 : Try.prog.cellsOf 72 = 2 := by kernel_rfl
  have c1 : Try.prog.cellsOf 3 = 1 := by kernel_rfl
  have c2 : Try.prog.cellsOf 9 = 1 := by kernel_rfl
  have e2 : (keyR s d).formed Try.prog 72 = true := by
    obtain ⟨fs, hu⟩ : ∃ fs, Try.prog.underlying 72 = some (.struct fs) := ⟨_, Try.underlying72⟩
    simp [keyR, Value.formed, hu, c3]
  have e3 : ∃ ls, Try.prog.keyLits (Try.prog.types.size + 1) 72 (keyR s d).cells.toList = some ls := by
    obtain ⟨n, hn⟩ : ∃ n, Try.prog.types.size + 1 = n + 2 := by
      have : (72 : Nat) < Try.prog.types.size := of_decide_eq_true (by kernel_rfl)
      exact ⟨Try.prog.types.size - 1, by omega⟩
    rw [hn]
    simp only [keyR, Value.cells]
    unfold Program.keyLits
    simp only [Try.underlying72]
    rw [if_pos (by constructor <;> simp [c3])]
    simp [Program.keyLits, c1, c2, Try.underlying3, Try.underlying9, h1, h2]
  obtain ⟨ls, e3⟩ := e3
  exact ⟨_, by simp only [keyOf, Try.underlying72]; rw [e1, e2, e3]; rfl⟩
/-- the key of a pair -/
def keyP (a b : Int) : Value := .agg #[.int .i64 a, .int .i64 b]
theorem key83 {a b : Int} (h1 : (Lit.int .i64 a).wf = true) (h2 : (Lit.int .i64 b).wf = true) : ∃ kl, keyOf Try.prog 83 (keyP a b) = some kl := by
  have e1 : Try.prog.keyType 83 = true := by kernel_rfl
  have c3 : Try.prog.cellsOf 83 = 2 := by kernel_rfl
  have c1 : Try.prog.cellsOf 3 = 1 := by kernel_rfl
  have e2 : (keyP a b).formed Try.prog 83 = true := by
    simp [keyP, Value.formed, Try.underlying83, c3]
  have e3 : ∃ ls, Try.prog.keyLits (Try.prog.types.size + 1) 83 (keyP a b).cells.toList = some ls := by
    obtain ⟨n, hn⟩ : ∃ n, Try.prog.types.size + 1 = n + 2 := by
      have : (72 : Nat) < Try.prog.types.size := of_decide_eq_true (by kernel_rfl)
      exact ⟨Try.prog.types.size - 1, by omega⟩
    rw [hn]
    simp only [keyP, Value.cells]
    unfold Program.keyLits
    simp only [Try.underlying83]
    simp [Program.keyLits, c1, c3, Try.underlying3, h1, h2, show List.range 2 = [0, 1] from rfl]
  obtain ⟨ls, e3⟩ := e3
  exact ⟨_, by simp only [keyOf, Try.underlying83]; rw [e1, e2, e3]; rfl⟩
end Go.Proofs.Ytgnbemgeiloegaa.Tg
