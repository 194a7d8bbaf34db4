import Derived.Test.YtchkimmhallckaaScD
namespace Go.Proofs.Ytchkimmhallckaa.Sc
open Go.RowKit Go.Maps Go.WideMaps
open Go.Proofs.YtchkimmhallckaaW.PrintWords Go.Proofs.YtchkimmhallckaaW.PrintLast Go.Proofs.YtchkimmhallckaaW.PrintMore
set_option linter.unusedVariables false
set_option linter.unusedSimpArgs false

theorem info40 : (Try.prog.info? 40).map (fun i => (i.zero, i.size, i.bytes)) = some (some (.slice none 0 0), 1, 24) := by kernel_rfl
theorem info9 : (Try.prog.info? 9).map (fun i => (i.zero, i.size, i.bytes)) = some (some (.string ByteArray.empty), 1, 16) := by kernel_rfl

section
variable {ops : Array Oper} {rest : List Oper} {o : Oper} {a : Act} {Q : Exit → Act → World → Prop}
/-- append of one cell that was boxed just before, to a row of one's own -/
theorem appOne (w : World) (hgd : o.guard = none) (s x : Operand) (t e : TypeId) (z y : Value) (bytes : Nat)
    (ho : o.op = .call { callee := .builtin .append, args := #[s, x], argTypes := #[t, t] }) (ht : Try.prog.underlying t = some (.slice e))
    (hinfo : (Try.prog.info? e).map (fun i => (i.zero, i.size, i.bytes)) = some (some z, 1, bytes)) (hz : z.cells.size = 1) (hb : 0 < bytes) (hb2 : bytes ≤ 1000)
    (v : Value) (n : Nat) (xs : List Value) (hs : a.eval s = v) (hx : a.eval x = .slice (some ⟨w.heap.size, 0, none⟩) 1 1) (HO : w.ownsRow 0 e 1 v n xs) (h1 : y.oneCell' = true) (hl : n ≤ 1000000)
    (h : ∀ A1 C1 w1, w1.ownsRow 0 e 1 (.slice A1 (n + 1) C1) (n + 1) (xs ++ [y]) → w.grownBy w1 v.ownBlock → (∀ k, (Value.slice A1 (n + 1) C1).ownBlock = some k → v.ownBlock = some k ∨ w.heap.size ≤ k) → wpList Try.prog ops Q rest (a.put o.dst (.slice A1 (n + 1) C1)) w1) :
    wpList Try.prog ops Q (o :: rest) a (w.alloc (.cells #[y] e)) := by
  refine print_append_cells (w0 := w) (W := w) 0 hgd s x t e z 1 bytes ho ht hinfo hz (Nat.lt_succ_self 0) hb v n xs [y] hs hx rfl (by simpa using h1) HO (Below.refl 0 w) (Nat.zero_le _) ?_ ?_
  · calc (n + 1) * bytes ≤ 1000001 * 1000 := Nat.mul_le_mul (by omega) hb2
      _ ≤ _ := by decide
  · intro v1 w1 h2 _ h3 h4
    obtain ⟨A1, C1, rfl⟩ := own_slice h2
    refine h A1 C1 w1 h2 h3 fun k hk => ?_
    rcases h4 with h4 | ⟨b, h4, h5⟩
    · exact .inl (h4 ▸ hk)
    · rw [h4] at hk
      cases hk
      exact .inr h5
end

section
variable {w w' w1 : World} {F F' : Nat → Prop} {g : Nat} {M : Int → ByteArray → Option Int} {St T : List Lvl} {l : Lvl} {N : Nat} {mp lv fv : Value} {vs : List Value}

theorem Rep.tagG (h : Rep w F g M St N mp lv fv vs) : Tag w g = some 50 := by simp [Tag, h.cells]

theorem Rep.after (h : Rep w F g M St N mp lv fv vs) {row : Option Nat} (hg : w.grownBy w1 row) (hr : ∀ k, row = some k → Tag w k ≠ some 50) : w1.heap[g]? = some (.cells #[mp, lv, fv] 50 (0, 0)) :=
  (hg.block g (h.lt g h.inG) (fun e => hr g e.symm h.tagG)).trans h.cells

theorem cell_at {cs : Array Value} {t : TypeId} (h : w.heap[g]? = some (.cells cs t (0, 0))) (j : Nat) : w.cell? ⟨g, j, none⟩ = cs[j]? := by simp [World.cell?, h]

theorem Rep.same (h : Rep w F g M St N mp lv fv vs) (hF : ∀ b, F b ↔ F' b) : Rep w F' g M St N mp lv fv vs := h.wider (fun b hb => (hF b).1 hb) (fun b hb => h.lt b ((hF b).2 hb))

theorem Ext_set {a : Addr} {u : Value} {b : Nat} : Ext F w w1 b ↔ Ext F w (w1.setCell a u) b := by simp [Ext, World.setCell]

theorem Ext_self {b : Nat} : Ext F w w b ↔ F b := by simp [Ext]; omega

theorem SAt.keep {St : List Lvl} {N : Nat} (h : SAt w F g St N) (hk : ∀ b, F b → w'.heap[b]? = w.heap[b]?) (hs : w.heap.size ≤ w'.heap.size) : SAt w' F g St N := by
  obtain ⟨mp, lv, fv, vs, h⟩ := h
  exact ⟨mp, lv, fv, vs, h.keep hk hs⟩

theorem new_calls (w : World) : Calls Try.prog 8 #[] w fun e w' => e = .returned (.pointer (some ⟨w.heap.size, 0, none⟩)) ∧ SAt w' (fun b => b = w.heap.size) w.heap.size [[]] 0 ∧ Below w.heap.size w w' := by
  go_enter Try.func8, Try.ntmps8
  go_wp2
  go_ret
  refine ⟨rfl, ⟨.map none, .slice none 0 0, .slice none 0 0, [], ?_⟩, below_alloc (Below.refl _ _) _⟩
  refine ⟨heap_alloc_new w _, .inl ⟨rfl, fun lv s => ofSt_new lv s⟩, World.ownsRow_nil _ _ _ _, rfl, fun i v l hv hl => ?_, fun i j v v' k hv _ e _ => ?_, rfl, fun b e => (nomatch e), fun b e => (nomatch e), fun v hv b e => ?_, fun b e => ?_, by simp, ?_, ?_⟩
  · rcases i with _ | i
    · simp at hv hl
      subst hv; subst hl
      exact World.ownsRow_nil _ _ _ _
    · simp at hv
  · rcases i with _ | i
    · simp at hv
      subst hv
      cases e
    · simp at hv
  · simp at hv
    subst hv
    cases e
  · rw [e]
    simp
  · intro l hl
    simp at hl
    subst hl
    simp
  · intro l hl p hp
    simp at hl
    subst hl
    cases hp

theorem open_nil (w : World) : Calls Try.prog 12 #[.pointer none] w fun e w' => e = .returned (.int .i64 1) ∧ w' = w := by
  go_enter Try.func12, Try.ntmps12
  go_wp2
  go_ret
  exact ⟨rfl, rfl⟩

theorem open_deep (h : Rep w F g M St N mp lv fv vs) (hd : ¬ St.length < 64) : Calls Try.prog 12 #[.pointer (some ⟨g, 0, none⟩)] w fun e w' => e = .returned (.int .i64 4) ∧ w' = w := by
  have c1 := h.c1
  have hd2 : vs.length + 1 = 64 := by have := h.len; have := h.deep; omega
  obtain ⟨A, c, rfl⟩ := own_slice h.lists
  clear h
  have hv : vs.length = 63 := by omega
  rw [hv] at c1
  go_enter Try.func12, Try.ntmps12
  go_wp2
  go_ret
  exact ⟨rfl, rfl⟩

theorem open_more (h : Rep w F g M St N mp lv fv vs) (hd : St.length < 64) : Calls Try.prog 12 #[.pointer (some ⟨g, 0, none⟩)] w fun e w' => e = .returned (.int .i64 0) ∧ (∃ lv' vs', Rep w' (Ext F w w') g M (St ++ [[]]) N mp lv' fv vs') ∧ Kp F w w' := by
  have c1 := h.c1
  have hlen : vs.length < 63 := by have := h.len; omega
  have hL := h.lists
  have hinL := h.inL
  have HO := Aside0.mk h
  clear h
  obtain ⟨A, c, rfl⟩ := own_slice hL
  have f1 : decide (((vs.length : Int) + 1) ≥ 64) = false := by simp; omega
  have e1 : wrap64 ((vs.length : Int) + 1) = (vs.length : Int) + 1 := by unfold wrap64; omega
  go_enter Try.func12, Try.ntmps12
  go_wp2_with (first
    | (at_builtin; refine appOne w rfl _ _ 48 40 (.slice none 0 0) (.slice none 0 0) 24 rfl Try.underlying48 info40 rfl ?b1 ?b2 (.slice A vs.length c) vs.length vs ?hs ?hx hL ?h1 ?hl ?_; (case b1 => decide); (case b2 => decide); (case hs => rfl); (case hx => rfl); (case h1 => rfl); (case hl => omega); intro A1 C1 w1 ho hg hat; have k0 := HO.out.after hg (fun k e => (by simp [own_tag hL e])); have k1 := cell_at k0 1; simp at k1; have kf := frozen_of_row w1 g 1 _ 50 k0))
  go_ret
  refine ⟨rfl, ⟨_, _, (HO.out.openLists hd hg ho hat).same (fun b => Ext_set)⟩, ?_⟩
  exact (Kp.grown hg hinL).trans (Kp.setCell _ _ _ HO.out.inG)
end
end Go.Proofs.Ytchkimmhallckaa.Sc
