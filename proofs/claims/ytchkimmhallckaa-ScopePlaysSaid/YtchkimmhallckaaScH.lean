import Derived.Test.YtchkimmhallckaaScG
namespace Go.Proofs.Ytchkimmhallckaa.Sc
open Go.RowKit Go.Maps Go.WideMaps
open Go.Proofs.YtchkimmhallckaaW.PrintWords Go.Proofs.YtchkimmhallckaaW.PrintLast Go.Proofs.YtchkimmhallckaaW.PrintMore
set_option linter.unusedVariables false
set_option linter.unusedSimpArgs false

section
variable {ops : Array Oper} {rest : List Oper} {o : Oper} {a : Act} {Q : Exit → Act → World → Prop}

theorem run_copy (w : World) (ty : TypeId) {v : Value} (hv : w.ownsRow 0 9 1 v 0 []) (A : Option Addr) (m c : Nat) (ys : List Value) (HR : w.ownsRow 0 9 1 (.slice A m c) m ys) (h1 : ∀ u ∈ ys, u.oneCell' = true) (hm : m ≤ 1000000) :
    ∃ A1 C1 w1, (Builtin.append_ #[40, 40] ty #[v, .slice A m c]).run Try.prog w = .ok (.slice A1 m C1) w1 ∧ w1.ownsRow 0 9 1 (.slice A1 m C1) m ys ∧ w.grownBy w1 v.ownBlock ∧ (∀ k, (Value.slice A1 m C1).ownBlock = some k → v.ownBlock = some k ∨ w.heap.size ≤ k) := by
  obtain ⟨i0, hi, hzz⟩ := Option.map_eq_some_iff.1 info9
  simp only [Prod.mk.injEq] at hzz
  obtain ⟨hz0, hz1, hz2⟩ := hzz
  have hlen : ys.length = m := by simpa using HR.1
  rcases A with _ | ad
  · rcases HR.2 with ⟨h2, rfl⟩ | ⟨g, cap, cur, h2, _⟩
    · cases h2
      obtain rfl : ys = [] := List.eq_nil_of_length_eq_zero hlen
      obtain ⟨A1, C1, rfl⟩ := own_slice hv
      refine ⟨A1, C1, w, ?_, hv, World.grownBy.refl w _, fun k hk => .inl hk⟩
      rcases hv.2 with ⟨h3, hn⟩ | ⟨g, cap, cur, h3, _, _, hnc, _⟩
      · cases h3
        simp [Builtin.append_, run_underlying Try.underlying40, sizeOf, typeInfo, hi, Builtin.lenOf, Builtin.firstCells]
      · cases h3
        simp [Builtin.append_, run_underlying Try.underlying40, sizeOf, typeInfo, hi, Builtin.lenOf, Builtin.firstCells, hnc, storeCells]
    · cases h2
  · have hc : ∀ j u, ys[j]? = some u → w.cell? (ad.add j) = some u := by
      rcases HR.2 with ⟨h2, _⟩ | ⟨g, cap, cur, h2, _⟩
      · cases h2
      · cases h2
        exact HR.cells (g := g) rfl
    obtain ⟨v1, w1, hr, ho, hg, _, hat⟩ := run_append_own_at (P := Try.prog) w 0 40 ty 9 i0 (.string ByteArray.empty) 1 16 Try.underlying40 hi hz0 hz1 hz2 rfl (by decide) v 0 [] hv ad m c ys (by rw [hlen]; omega) hc h1 (by simp only [maxLen]; omega) (by omega) (Nat.zero_le _)
    simp only [Nat.zero_add, List.nil_append] at ho
    obtain ⟨A1, C1, rfl⟩ := own_slice ho
    refine ⟨A1, C1, w1, hr, ho, hg, fun k hk => ?_⟩
    rcases hat with hat | hat
    · exact .inl (hat ▸ hk)
    · rw [hat] at hk
      cases hk
      exact .inr (Nat.le_refl _)

theorem copyAt (w : World) (hgd : o.guard = none) (s x : Operand) (ho : o.op = .call { callee := .builtin .append, args := #[s, x], argTypes := #[40, 40] }) {v : Value} (hv : w.ownsRow 0 9 1 v 0 []) (A : Option Addr) (m c : Nat) (ys : List Value)
    (HR : w.ownsRow 0 9 1 (.slice A m c) m ys) (h1 : ∀ u ∈ ys, u.oneCell' = true) (hm : m ≤ 1000000) (hs : a.eval s = v) (hx : a.eval x = .slice A m c)
    (h : ∀ A1 C1 w1, w1.ownsRow 0 9 1 (.slice A1 m C1) m ys → w.grownBy w1 v.ownBlock → (∀ k, (Value.slice A1 m C1).ownBlock = some k → v.ownBlock = some k ∨ w.heap.size ≤ k) → wpList Try.prog ops Q rest (a.put o.dst (.slice A1 m C1)) w1) :
    wpList Try.prog ops Q (o :: rest) a w := by
  refine wpList_plain hgd fun K hK => ?_
  obtain ⟨A1, C1, w1, hr, h2, h3, h4⟩ := run_copy w o.type hv A m c ys HR h1 hm
  unfold Oper.wp execOp
  simp only [ho, resolve, invoke, builtin, Sem.run_bind, Sem.run_pure, Result.andThen_ok, List.map_toArray, List.map_cons, List.map_nil, hs, hx, hr]
  exact hK _ _ (h A1 C1 w1 h2 h3 h4)
end

theorem names_one (l : Lvl) : ∀ u ∈ names l, u.oneCell' = true := by
  intro u hu
  simp only [names, List.mem_map] at hu
  obtain ⟨p, _, rfl⟩ := hu
  rfl

section
variable {w w' w1 : World} {F F' : Nat → Prop} {g : Nat} {M M' : Int → ByteArray → Option Int} {St T : List Lvl} {l : Lvl} {N : Nat} {mp lv fv u : Value} {vs us : List Value}

/-- what Here hands back -/
def HereIs (w : World) (w' : World) (e : Ending) (l : Lvl) : Prop := ∃ A C, e = .returned (.slice A l.length C) ∧ w'.ownsRow 0 9 1 (.slice A l.length C) l.length (names l) ∧ (∀ k, (Value.slice A l.length C).ownBlock = some k → w.heap.size ≤ k) ∧ Below w.heap.size w w'

theorem Here_nil (w : World) : Calls Try.prog 23 #[.pointer none] w fun e w' => e = .returned (.slice none 0 0) ∧ w' = w := by
  go_enter Try.func23, Try.ntmps23
  go_wp2
  go_ret
  exact ⟨rfl, rfl⟩

theorem Here_at {ad : Addr} {v : Value} {w : World} (hc : w.cell? ad = some v) (ho : w.ownsRow 0 9 1 v l.length (names l)) (hl : l.length ≤ 256)
    (hcall : Calls Try.prog 26 #[.pointer (some ⟨g, 0, none⟩)] w fun e w' => e = .returned (.pointer (some ad)) ∧ w' = w) :
    Calls Try.prog 23 #[.pointer (some ⟨g, 0, none⟩)] w fun e w' => HereIs w w' e l := by
  obtain ⟨A, c, rfl⟩ := own_slice ho
  have HO := Aside0.mk ho
  clear ho
  go_enter Try.func23, Try.ntmps23
  go_wp2_with fail
  refine hcall.mono ?_
  rintro e w1 ⟨rfl, rfl⟩
  go_wp2_with (first | (at_builtin; refine copyAt _ rfl _ _ rfl (v := .slice none 0 0) (World.ownsRow_nil _ _ _ _) A l.length c (names l) HO.out (names_one l) ?hm ?hs ?hx ?_; (case hm => omega); (case hs => rfl); (case hx => rfl); intro A1 C1 w2 ho2 hg2 hat2))
  go_ret
  refine ⟨A1, C1, rfl, ho2, fun k hk => (hat2 k hk).resolve_left (by simp [Value.ownBlock]), (Below.refl _ _).grown hg2 (Nat.le_refl _) (by simp [Value.ownBlock])⟩

theorem cell_last {gl cap : Nat} (h : Rep w F g M (T ++ [l]) N mp (.slice (some ⟨gl, 0, none⟩) (us.length + 1) cap) fv (us ++ [u])) : w.cell? ⟨gl, us.length, none⟩ = some u := by
  have := h.lists.cells (g := gl) rfl us.length u (by simp)
  rw [show (⟨gl, 0, none⟩ : Addr).add us.length = ⟨gl, us.length, none⟩ by unfold Addr.add; split <;> simp_all] at this
  exact this

theorem lists_shape (h : Rep w F g M St N mp lv fv (us ++ [u])) : ∃ gl cap, lv = .slice (some ⟨gl, 0, none⟩) (us.length + 1) cap := by
  rcases h.lists.2 with ⟨_, h2⟩ | ⟨gl, cap, _, h2, _⟩
  · simp at h2
  · exact ⟨gl, cap, by rw [h2]; simp⟩

theorem snoc_cases {α : Type} (vs : List α) : vs = [] ∨ ∃ us u, vs = us ++ [u] := by
  rcases List.eq_nil_or_concat vs with h | ⟨us, u, h⟩
  · exact .inl h
  · exact .inr ⟨us, u, by simpa using h⟩

theorem one_level (h : Rep w F g M (T ++ [l]) N mp lv fv []) : T = [] := by
  have := h.len
  simp at this
  exact this

theorem Here_calls (h : Rep w F g M (T ++ [l]) N mp lv fv vs) : Calls Try.prog 23 #[.pointer (some ⟨g, 0, none⟩)] w fun e w' => HereIs w w' e l := by
  have hl := h.many l (by simp)
  rcases snoc_cases vs with rfl | ⟨us, u, rfl⟩
  · obtain rfl := one_level h
    exact Here_at h.c2 (h.row 0 fv l rfl rfl) hl (here_first h)
  · obtain ⟨gl, cap, rfl⟩ := lists_shape h
    exact Here_at (cell_last h) h.topRow hl (here_last h)
end
end Go.Proofs.Ytchkimmhallckaa.Sc
