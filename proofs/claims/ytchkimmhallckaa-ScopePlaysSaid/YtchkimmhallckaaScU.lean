import Derived.Test.YtchkimmhallckaaScT
namespace Go.Proofs.Ytchkimmhallckaa.Sc
open Go.RowKit Go.Maps Go.WideMaps Go.Proofs.Ytchkimmhallckaa
open Go.Proofs.YtchkimmhallckaaW.PrintWords Go.Proofs.YtchkimmhallckaaW.PrintLast Go.Proofs.YtchkimmhallckaaW.PrintMore
set_option linter.unusedVariables false
set_option linter.unusedSimpArgs false

section
variable {ops : Array Oper} {o : Oper} {a : Act} {Q : Exit → Act → World → Prop} {K : Act → World → Prop}
theorem copyStep (w : World) (hw : Region.wanted o (yielded ops a.tmps) = true) {N : Option Tmp} (hN : o.dst = N) (s x : Operand) (ho : o.op = .call { callee := .builtin .append, args := #[s, x], argTypes := #[40, 40] }) {v : Value} (hv : w.ownsRow 0 9 1 v 0 []) (A : Option Addr) (m c : Nat) (ys : List Value)
    (HR : w.ownsRow 0 9 1 (.slice A m c) m ys) (h1 : ∀ u ∈ ys, u.oneCell' = true) (hm : m ≤ 1000000) (hs : a.eval s = v) (hx : a.eval x = .slice A m c)
    (h : ∀ A1 C1 w1, w1.ownsRow 0 9 1 (.slice A1 m C1) m ys → w.grownBy w1 v.ownBlock → (∀ k, (Value.slice A1 m C1).ownBlock = some k → v.ownBlock = some k ∨ w.heap.size ≤ k) → K (a.put N (.slice A1 m C1)) w1) :
    if Region.wanted o (yielded ops a.tmps) = true then Oper.wp Try.prog o a w K Q else K (a.put N undef) w := by
  subst hN
  rw [if_pos hw]
  obtain ⟨A1, C1, w1, hr, h2, h3, h4⟩ := run_copy w o.type hv A m c ys HR h1 hm
  unfold Oper.wp execOp
  simp only [ho, resolve, invoke, builtin, Sem.run_bind, Sem.run_pure, Result.andThen_ok, List.map_toArray, List.map_cons, List.map_nil, hs, hx, hr]
  exact h A1 C1 w1 h2 h3 h4
end

theorem empty_own (w : World) : (w.alloc (.cells #[] 9)).ownsRow 0 9 1 (.slice (some ⟨w.heap.size, 0, none⟩) 0 0) 0 [] := by
  have := World.ownsRow_lit (base := 0) (e := 9) (size := 1) w #[] 0 (Nat.zero_le _) (by decide) rfl
  simpa using this

section
variable {w0 w w1 : World} {F : Nat → Prop} {q gn cn gi ci n : Nat} {u v' cN cI nv iv : Value} {rn ri rnC riC us is : List Value} {St Sn Si T : List Lvl} {l l' : Lvl} {k0 k1 : Value}

theorem RS.rebase (h : RS w0 F q cN cI nv iv rnC riC rn ri Sn Si w) : RS w (Ext F w0 w) q cN cI nv iv rnC riC rn ri Sn Si w :=
  ⟨h.cells, h.nl, h.il, h.rows, h.rowi, Kp.refl _ _, .inl h.inQ, Ext.lt h.ltF h.kp.size, fun b e => .inl (h.inN b e), fun b e => .inl (h.inI b e), fun v hv b e => .inl (h.inS v hv b e), fun v hv b e => .inl (h.inT v hv b e)⟩

/-- what lies ahead of the append -/
structure Ahead (w : World) (v : Value) (w4 : World) : Prop where
  own : w4.ownsRow 0 9 1 v 0 []
  new : ∀ k, v.ownBlock = some k → w.heap.size ≤ k
  below : Below w.heap.size w w4

theorem HeldD_grown {b : Nat} {w4 w5 : World} (h : RS w0 F q k0 k1 (.slice (some ⟨gn, 0, none⟩) (T.length + 1) cn) (.slice (some ⟨gi, 0, none⟩) (T.length + 1) ci) (us ++ [u]) (is ++ [v']) (us ++ [u]) (is ++ [v']) (T ++ [l]) (T ++ [l]) w4) (h1 : us.length = T.length) (h2 : is.length = T.length)
    (hg : w4.grownBy w5 (Value.slice (some ⟨b, 0, none⟩) 0 0).ownBlock) (ha : Ahead w (.slice (some ⟨b, 0, none⟩) 0 0) w4) : HeldD q gn gi k0 k1 T.length u v' w5 := by
  obtain ⟨a0, a1, a2, a3⟩ := h.heldD h1 h2
  have tb := own_tag ha.own (k := b) rfl
  have tq := h.tagQ
  have tn := own_tag h.nl (k := gn) rfl
  have ti := own_tag h.il (k := gi) rfl
  refine ⟨hg.cell a0 (fun e => ?_), hg.cell a1 (fun e => ?_), hg.cell a2 (fun e => ?_), hg.cell a3 (fun e => ?_)⟩
  · have e2 : q = b := by simpa [Value.ownBlock] using e
    rw [e2, tb] at tq
    exact absurd tq (by decide)
  · have e2 : q = b := by simpa [Value.ownBlock] using e
    rw [e2, tb] at tq
    exact absurd tq (by decide)
  · have e2 : gn = b := by simpa [Value.ownBlock] using e
    rw [e2, tb] at tn
    exact absurd tn (by decide)
  · have e2 : gi = b := by simpa [Value.ownBlock] using e
    rw [e2, tb] at ti
    exact absurd ti (by decide)

set_option maxHeartbeats 4000000 in
theorem here_ref (h : RS w F q k0 k1 k0 k1 (us ++ [u]) (is ++ [v']) (us ++ [u]) (is ++ [v']) (T ++ [l]) (T ++ [l]) w) (hd : T.length < 64) (hm : l.length ≤ 256) : Calls Try.prog 24 #[.pointer (some ⟨q, 0, none⟩)] w fun e w' => HereIs w w' e l := by
  have hlen : us.length = T.length := by have := h.rows.len; simp at this; omega
  have hleni : is.length = T.length := by have := h.rowi.len; simp at this; omega
  obtain ⟨gn, cn, rfl, hcn⟩ := own_shape h.nl (by simp)
  obtain ⟨gi, ci, rfl, hci⟩ := own_shape h.il (by simp)
  simp only [List.length_append, List.length_singleton, hlen, hleni] at h hcn hci
  have hrow := h.rows.top
  obtain ⟨A, c, rfl⟩ := own_slice hrow
  obtain ⟨B, d, rfl⟩ := own_slice h.rowi.top
  have e1 : (((T ++ [l]).length : Nat) : Int) - 1 = (T.length : Int) := by simp
  have f0 : (T.length : Int) < (T.length : Int) + 1 := by omega
  have hlen2 := Aside0.mk hlen
  have hleni2 := Aside0.mk hleni
  have hlm : l.length ≤ 1000000 := by omega
  have hdl : (T ++ [l]).length ≤ 64 := by simp; omega
  have H0 := Aside0.mk h.drew
  have B0 := Aside0.mk (below_drew (Below.refl w.heap.size w))
  clear h hrow hlen hleni
  go_enter Try.func24, Try.ntmps24
  go_wp2
  refine start_ (n := 11) (S := HeldD q gn gi (.slice (some ⟨gn, 0, none⟩) (T.length + 1) cn) (.slice (some ⟨gi, 0, none⟩) (T.length + 1) ci) T.length (.slice A l.length c) (.slice B l.length d)) (ds := []) #[false, false, false, false, false, false, false, false, false, false, false] (by kernel_rfl) rfl rfl (H0.out.heldD hlen2.out hleni2.out) (fun hHeld => ?_)
  generalize hw3 : World.drew _ = w3 at H0 B0 hHeld ⊢
  clear hw3
  refine pure_ (i := 1) (N := some 6) (v := ?_) (a' := ?_) #[false, true, false, false, false, false, false, false, false, false, false] rfl rfl (by kernel_rfl) (fun _ _ _ h => h) (Or.inl ⟨by rfl, ?_⟩) ?_ ?_
  rotate_left
  · intro w'; go_simp; try with_reducible rfl
  rotate_left
  · simp only [Act.put, List.setIfInBounds_toArray, List.set_cons_zero, List.set_cons_succ]; rfl
  refine pure_ (i := 2) (N := some 7) (v := ?_) (a' := ?_) #[false, true, true, false, false, false, false, false, false, false, false] rfl rfl (by kernel_rfl) (fun _ _ _ h => h) (Or.inl ⟨by rfl, ?_⟩) ?_ ?_
  rotate_left
  · intro w'; go_simp; try with_reducible rfl
  rotate_left
  · simp only [Act.put, List.setIfInBounds_toArray, List.set_cons_zero, List.set_cons_succ]; rfl
  refine pure_ (i := 3) (N := some 8) (v := ?_) (a' := ?_) #[false, true, true, true, false, false, false, false, false, false, false] rfl rfl (by kernel_rfl) (fun _ _ _ h => h) (Or.inl ⟨by rfl, ?_⟩) ?_ ?_
  rotate_left
  · intro w'; go_simp; try with_reducible rfl
  rotate_left
  · simp only [Act.put, List.setIfInBounds_toArray, List.set_cons_zero, List.set_cons_succ]; rfl
  refine pure_ (i := 5) (N := some 10) (v := ?_) (a' := ?_) #[false, true, true, true, false, true, false, false, false, false, false] rfl rfl (by kernel_rfl) (fun _ _ _ h => h) (Or.inl ⟨by rfl, ?_⟩) ?_ ?_
  rotate_left
  · intro w'; go_simp; try with_reducible rfl
  rotate_left
  · simp only [Act.put, List.setIfInBounds_toArray, List.set_cons_zero, List.set_cons_succ]; rfl
  refine take_ (i := 4) (N := some 9) (v := ?_) (a' := ?_) #[false, true, true, true, true, true, false, false, false, false, false] rfl rfl (by kernel_rfl) (fun _ _ _ h => h) (Or.inl ⟨by rfl, ?_⟩) hHeld ?_ ?_
  rotate_left
  · intro w' hSw; obtain ⟨s0, s1, s2, s3⟩ := hSw; go_simp; try with_reducible rfl
  rotate_left
  · simp only [Act.put, List.setIfInBounds_toArray, List.set_cons_zero, List.set_cons_succ]; rfl
  refine join_ (σ := Nat) 2 #[true, true, true, true, true, true, true, true, true, false, false] (fun b => [(5, .slice (some ⟨b, 0, none⟩) 0 0), (11, .int .i64 (T.length : Int)), (12, .pointer (some ⟨gn, T.length, none⟩)), (13, .slice A l.length c)]) (fun b w4 => Ahead w (.slice (some ⟨b, 0, none⟩) 0 0) w4 ∧ RS w F q (.slice (some ⟨gn, 0, none⟩) (T.length + 1) cn) (.slice (some ⟨gi, 0, none⟩) (T.length + 1) ci) (.slice (some ⟨gn, 0, none⟩) (T.length + 1) cn) (.slice (some ⟨gi, 0, none⟩) (T.length + 1) ci) (us ++ [.slice A l.length c]) (is ++ [.slice B l.length d]) (us ++ [.slice A l.length c]) (is ++ [.slice B l.length d]) (T ++ [l]) (T ++ [l]) w4) ?_ (fun hC => ?_)
  rotate_left
  · skip
    refine two_ (i := 0) (j := 6) (Ni := some 5) (Nj := some 11) #[true, true, true, true, true, true, false, false, false, false, false] #[false, true, true, true, true, true, true, false, false, false, false] rfl rfl rfl rfl (by kernel_rfl) (by decide) (by decide) (fun K hK => ?_) (fun K hK => ?_)
    · rw [if_pos (by rfl)]
      go_simp
      refine hK.out _ _ ((H0.out.al _).heldD hlen2.out hleni2.out) (fun hHeld => ?_)
      clear hK K
      refine norm_ (a' := ?_) ?_ ?_
      rotate_left
      · first | (simp only [Act.put, List.setIfInBounds_toArray, List.set_cons_zero, List.set_cons_succ]; rfl) | rfl
      have H1 := Aside0.mk (H0.out.al (.cells #[] 9))
      refine one_ (i := 6) (N := some 11) #[true, true, true, true, true, true, true, false, false, false, false] rfl rfl (by kernel_rfl) (by decide) (fun K hK => ?_)
      refine goes_ Try.func21 (by kernel_rfl) rfl #[.pointer (some ⟨q, 0, none⟩)] (by rfl) rfl rfl (by (try simp only [List.map_toArray, List.map_cons, List.map_nil]); first | done | rfl) ?_
      refine (depth_ref H1.out.rebase hdl).mono ?_
      rintro e w9 ⟨rfl, e9⟩
      subst e9
      rw [e1]
      refine ⟨_, rfl, ?_⟩
      refine hK.out _ _ (H1.out.heldD hlen2.out hleni2.out) (fun hHeld => ?_)
      clear hK K
      refine norm_ (a' := ?_) ?_ ?_
      rotate_left
      · show Act.put _ (some 11) (.int .i64 (T.length : Int)) = _; first | (simp only [Act.put, List.setIfInBounds_toArray, List.set_cons_zero, List.set_cons_succ]; rfl) | rfl
      refine pure_ (i := 7) (N := some 12) (v := ?_) (a' := ?_) #[true, true, true, true, true, true, true, true, false, false, false] rfl rfl (by kernel_rfl) (fun _ _ _ h => h) (Or.inl ⟨by rfl, ?_⟩) ?_ ?_
      rotate_left
      · intro w'; go_simp; try with_reducible rfl
      rotate_left
      · simp only [Act.put, List.setIfInBounds_toArray, List.set_cons_zero, List.set_cons_succ]; rfl
      refine take_ (i := 8) (N := some 13) (v := ?_) (a' := ?_) #[true, true, true, true, true, true, true, true, true, false, false] rfl rfl (by kernel_rfl) (fun _ _ _ h => h) (Or.inl ⟨by rfl, ?_⟩) hHeld ?_ ?_
      rotate_left
      · intro w' hSw; obtain ⟨s0, s1, s2, s3⟩ := hSw; go_simp; try with_reducible rfl
      rotate_left
      · simp only [Act.put, List.setIfInBounds_toArray, List.set_cons_zero, List.set_cons_succ]; rfl
      exact hC _ _ ⟨⟨empty_own _, fun k e => by cases e; exact B0.out.size, below_alloc B0.out _⟩, H1.out⟩
    · refine goes_ Try.func21 (by kernel_rfl) rfl #[.pointer (some ⟨q, 0, none⟩)] (by rfl) rfl rfl (by (try simp only [List.map_toArray, List.map_cons, List.map_nil]); first | done | rfl) ?_
      refine (depth_ref H0.out.rebase hdl).mono ?_
      rintro e w9 ⟨rfl, e9⟩
      subst e9
      rw [e1]
      refine ⟨_, rfl, ?_⟩
      refine hK.out _ _ (H0.out.heldD hlen2.out hleni2.out) (fun hHeld => ?_)
      clear hK K
      refine norm_ (a' := ?_) ?_ ?_
      rotate_left
      · show Act.put _ (some 11) (.int .i64 (T.length : Int)) = _; first | (simp only [Act.put, List.setIfInBounds_toArray, List.set_cons_zero, List.set_cons_succ]; rfl) | rfl
      refine pure_ (i := 7) (N := some 12) (v := ?_) (a' := ?_) #[false, true, true, true, true, true, true, true, false, false, false] rfl rfl (by kernel_rfl) (fun _ _ _ h => h) (Or.inl ⟨by rfl, ?_⟩) ?_ ?_
      rotate_left
      · intro w'; go_simp; try with_reducible rfl
      rotate_left
      · simp only [Act.put, List.setIfInBounds_toArray, List.set_cons_zero, List.set_cons_succ]; rfl
      refine take_ (i := 8) (N := some 13) (v := ?_) (a' := ?_) #[false, true, true, true, true, true, true, true, true, false, false] rfl rfl (by kernel_rfl) (fun _ _ _ h => h) (Or.inl ⟨by rfl, ?_⟩) hHeld ?_ ?_
      rotate_left
      · intro w' hSw; obtain ⟨s0, s1, s2, s3⟩ := hSw; go_simp; try with_reducible rfl
      rotate_left
      · simp only [Act.put, List.setIfInBounds_toArray, List.set_cons_zero, List.set_cons_succ]; rfl
      refine one_ (i := 0) (N := some 5) #[true, true, true, true, true, true, true, true, true, false, false] rfl rfl (by kernel_rfl) (by decide) (fun K hK => ?_)
      rw [if_pos (by rfl)]
      go_simp
      refine hK.out _ _ ((H0.out.al _).heldD hlen2.out hleni2.out) (fun hHeld => ?_)
      clear hK K
      refine norm_ (a' := ?_) ?_ ?_
      rotate_left
      · first | (simp only [Act.put, List.setIfInBounds_toArray, List.set_cons_zero, List.set_cons_succ]; rfl) | rfl
      have H1 := Aside0.mk (H0.out.al (.cells #[] 9))
      exact hC _ _ ⟨⟨empty_own _, fun k e => by cases e; exact B0.out.size, below_alloc B0.out _⟩, H1.out⟩
  intro b w4 ⟨HA, H5⟩
  refine norm_ (a' := ?_) ?_ ?_
  rotate_left
  · simp only [putAll, Act.put, List.setIfInBounds_toArray, List.set_cons_zero, List.set_cons_succ]; rfl
  have hHeld := H5.heldD hlen2.out hleni2.out
  refine one_ (i := 9) (N := some 14) #[true, true, true, true, true, true, true, true, true, true, false] rfl rfl (by kernel_rfl) (by decide) (fun K hK => ?_)
  refine copyStep _ (by rfl) (by rfl) (.tmp 5) (.tmp 13) rfl HA.own A l.length c (names l) H5.rows.top (names_one l) hlm (by rfl) (by rfl) ?_
  intro A1 C1 w5 ho5 hg5 hat5
  have hS5 := HeldD_grown H5 hlen2.out hleni2.out hg5 HA
  refine hK.out _ _ (hS5) (fun hHeld => ?_)
  clear hK K
  refine norm_ (a' := ?_) ?_ ?_
  rotate_left
  · show Act.put _ (some 14) (.slice A1 l.length C1) = _; first | (simp only [Act.put, List.setIfInBounds_toArray, List.set_cons_zero, List.set_cons_succ]; rfl) | rfl
  refine pure_ (i := 10) (N := some 2) (v := ?_) (a' := ?_) #[true, true, true, true, true, true, true, true, true, true, true] rfl rfl (by kernel_rfl) (fun _ _ _ h => h) (Or.inl ⟨by rfl, ?_⟩) ?_ ?_
  rotate_left
  · intro w'; go_simp; try with_reducible rfl
  rotate_left
  · simp only [Act.put, List.setIfInBounds_toArray, List.set_cons_zero, List.set_cons_succ]; rfl
  refine done_ (by kernel_rfl) ?_
  go_wp2
  go_ret
  refine ⟨A1, C1, rfl, ho5, fun k hk => ?_, HA.below.grown hg5 HA.below.size HA.new⟩
  rcases hat5 k hk with e | e
  · exact HA.new k e
  · exact Nat.le_trans HA.below.size e
end
end Go.Proofs.Ytchkimmhallckaa.Sc
