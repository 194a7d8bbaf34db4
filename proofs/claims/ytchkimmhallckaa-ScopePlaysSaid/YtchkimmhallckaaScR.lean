import Derived.Test.YtchkimmhallckaaScQ
namespace Go.Proofs.Ytchkimmhallckaa.Sc
open Go.RowKit Go.Maps Go.WideMaps Go.Proofs.Ytchkimmhallckaa
open Go.Proofs.YtchkimmhallckaaW.PrintWords Go.Proofs.YtchkimmhallckaaW.PrintLast Go.Proofs.YtchkimmhallckaaW.PrintMore
set_option linter.unusedVariables false
set_option linter.unusedSimpArgs false

theorem info43 : (Try.prog.info? 43).map (fun i => (i.zero, i.size, i.bytes)) = some (some (.slice none 0 0), 1, 24) := by kernel_rfl

section
variable {ops : Array Oper} {o : Oper} {a : Act} {Q : Exit → Act → World → Prop} {K : Act → World → Prop}
/-- append of one cell that lies in a box, to a row of one's own: one step of a region -/
theorem appStep (w : World) (hw : Region.wanted o (yielded ops a.tmps) = true) {N : Option Tmp} (hN : o.dst = N) (s x : Operand) (t e : TypeId) (z y : Value) (bytes : Nat)
    (ho : o.op = .call { callee := .builtin .append, args := #[s, x], argTypes := #[t, t] }) (ht : Try.prog.underlying t = some (.slice e))
    (hinfo : (Try.prog.info? e).map (fun i => (i.zero, i.size, i.bytes)) = some (some z, 1, bytes)) (hz : z.cells.size = 1) (hb2 : bytes ≤ 1000)
    (v : Value) (n : Nat) (xs : List Value) (hs : a.eval s = v) (bx : Nat) (hx : a.eval x = .slice (some ⟨bx, 0, none⟩) 1 1) (hc : w.cell? ⟨bx, 0, none⟩ = some y) (HO : w.ownsRow 0 e 1 v n xs) (h1 : y.oneCell' = true) (hl : n ≤ 1000000)
    (h : ∀ A1 C1 w1, w1.ownsRow 0 e 1 (.slice A1 (n + 1) C1) (n + 1) (xs ++ [y]) → w.grownBy w1 v.ownBlock → (∀ k, (Value.slice A1 (n + 1) C1).ownBlock = some k → v.ownBlock = some k ∨ w.heap.size ≤ k) → K (a.put N (.slice A1 (n + 1) C1)) w1) :
    if Region.wanted o (yielded ops a.tmps) = true then Oper.wp Try.prog o a w K Q else K (a.put N undef) w := by
  subst hN
  obtain ⟨i0, hi, hzz⟩ := Option.map_eq_some_iff.1 hinfo
  simp only [Prod.mk.injEq] at hzz
  obtain ⟨hz0, hz1, hz2⟩ := hzz
  rw [if_pos hw]
  obtain ⟨v1, w1, hr, ho2, hg, _, hat⟩ := run_append_own_at (P := Try.prog) w 0 t o.type e i0 z 1 bytes ht hi hz0 hz1 hz2 hz (by decide) v n xs HO ⟨bx, 0, none⟩ 1 1 [y] rfl (fun j u hu => by
      rcases j with _ | j
      · simp at hu
        subst hu
        exact hc
      · simp at hu) (by simpa using h1) (by simp only [maxLen]; omega) (by
      calc (n + 1) * bytes ≤ 1000001 * 1000 := Nat.mul_le_mul (by omega) hb2
        _ ≤ _ := by decide) (Nat.zero_le _)
  obtain ⟨A1, C1, rfl⟩ := own_slice ho2
  unfold Oper.wp execOp
  simp only [ho, resolve, invoke, builtin, Sem.run_bind, Sem.run_pure, Result.andThen_ok, List.map_toArray, List.map_cons, List.map_nil, hs, hx, hr]
  refine h A1 C1 w1 ho2 hg fun k hk => ?_
  rcases hat with hat | hat
  · exact .inl (hat ▸ hk)
  · rw [hat] at hk
    cases hk
    exact .inr (Nat.le_refl _)
end

theorem box_new (w : World) (y : Value) (t : TypeId) : (w.alloc (.cells #[y] t)).cell? ⟨w.heap.size, 0, none⟩ = some y := by
  rw [cell_at (heap_alloc_new w (.cells #[y] t))]
  rfl
theorem box_past (w : World) (y : Value) (t : TypeId) (o : Obj) : ((w.alloc (.cells #[y] t)).alloc o).cell? ⟨w.heap.size, 0, none⟩ = some y := by
  exact (World.grownBy_alloc _ o none).cell (box_new w y t) (by simp)
theorem box_new2 (w : World) (o : Obj) (y : Value) (t : TypeId) : ((w.alloc o).alloc (.cells #[y] t)).cell? ⟨w.heap.size + 1, 0, none⟩ = some y := by
  have := box_new (w.alloc o) y t
  rwa [World.size_alloc] at this
theorem box_old {w w1 : World} {b : Nat} {y : Value} (h : w.cell? ⟨b, 0, none⟩ = some y) (hb : b < w.heap.size) {row : Option Nat} (hg : w.grownBy w1 row) (hne : ∀ k, row = some k → k ≠ b) : w1.cell? ⟨b, 0, none⟩ = some y :=
  hg.cell h (fun e => hne b e.symm rfl)

section
variable {w0 w w1 : World} {F : Nat → Prop} {q m : Nat} {cn ci nv iv v' u : Value} {rn ri rnC riC us : List Value} {St Sn Si T : List Lvl} {l l' : Lvl}

def HeldQ (q : Nat) (nv iv : Value) (w' : World) : Prop := w'.cell? ⟨q, 0, none⟩ = some nv ∧ w'.cell? ⟨q, 1, none⟩ = some iv
theorem RS.held (h : RS w0 F q cn ci nv iv rnC riC rn ri Sn Si w) : HeldQ q cn ci w := ⟨h.c0, h.c1⟩
theorem RS.drew (h : RS w0 F q cn ci nv iv rnC riC rn ri Sn Si w) : RS w0 F q cn ci nv iv rnC riC rn ri Sn Si w.drew := h.on (below_drew (Below.refl _ _))
theorem RS.al (h : RS w0 F q cn ci nv iv rnC riC rn ri Sn Si w) (o : Obj) : RS w0 F q cn ci nv iv rnC riC rn ri Sn Si (w.alloc o) := h.on (below_alloc (Below.refl _ _) o)
/-- a box is none of the rows -/
theorem RS.boxN (h : RS w0 F q cn ci nv iv rnC riC rn ri Sn Si w) {b : Nat} (hb : w.heap.size ≤ b) : ∀ k, nv.ownBlock = some k → k ≠ b := fun k e e' => by have := own_lt h.nl k e; omega

theorem open_ref_deep (h : RS w F q nv iv nv iv rn ri rn ri St St w) (hd : St.length = 64) : Calls Try.prog 15 #[.pointer (some ⟨q, 0, none⟩)] w fun e w' => e = .returned (.int .i64 4) ∧ w' = w := by
  have c0 := h.c0
  have hlen := h.rows.len
  obtain ⟨A, c, rfl⟩ := own_slice h.nl
  rw [hlen, hd] at c0
  clear h hlen
  go_enter Try.func15, Try.ntmps15
  go_wp2
  go_ret
  exact ⟨rfl, rfl⟩

set_option maxHeartbeats 4000000 in
theorem open_ref (h : RS w F q nv iv nv iv rn ri rn ri St St w) (hd : St.length < 64) : Calls Try.prog 15 #[.pointer (some ⟨q, 0, none⟩)] w fun e w' => e = .returned (.int .i64 0) ∧ RAt w' (Ext F w w') q (St ++ [[]]) ∧ Kp F w w' := by
  have c0 := h.c0
  have hlen := Aside0.mk h.rows.len
  have hleni := Aside0.mk h.rowi.len
  have h6 : rn.length ≤ 1000000 := by have := hlen.out; omega
  have h7 : ri.length ≤ 1000000 := by have := hleni.out; omega
  obtain ⟨A, c, rfl⟩ := own_slice h.nl
  obtain ⟨B, d, rfl⟩ := own_slice h.il
  have f1 : decide ((rn.length : Int) = 64) = false := decide_eq_false (by have := hlen.out; omega)
  have f2 : ((rn.length : Int) == 64) = false := by have := hlen.out; simp; omega
  have H0 := Aside0.mk h.drew
  clear h
  go_enter Try.func15, Try.ntmps15
  go_wp2
  clear c0
  refine start_ (n := 20) (S := HeldQ q (.slice A rn.length c) (.slice B ri.length d)) (ds := [16, 19]) #[false, false, false, false, false, false, false, false, false, false, false, false, false, false, false, false, false, false, false, false] (by kernel_rfl) rfl rfl (H0.out.held) (fun hHeld => ?_)
  generalize hw3 : w.drew = w3 at H0 hHeld ⊢
  clear hw3
  refine pure_ (i := 0) (N := some 11) (v := ?_) (a' := ?_) #[true, false, false, false, false, false, false, false, false, false, false, false, false, false, false, false, false, false, false, false] rfl rfl (by kernel_rfl) (fun _ _ _ h => h) (Or.inl ⟨by rfl, ?_⟩) ?_ ?_
  rotate_left
  · intro w'; go_simp; try with_reducible rfl
  rotate_left
  · simp only [Act.put, List.setIfInBounds_toArray, List.set_cons_zero, List.set_cons_succ]; rfl
  refine pure_ (i := 1) (N := some 12) (v := ?_) (a' := ?_) #[true, true, false, false, false, false, false, false, false, false, false, false, false, false, false, false, false, false, false, false] rfl rfl (by kernel_rfl) (fun _ _ _ h => h) (Or.inl ⟨by rfl, ?_⟩) ?_ ?_
  rotate_left
  · intro w'; go_simp; try with_reducible rfl
  rotate_left
  · simp only [Act.put, List.setIfInBounds_toArray, List.set_cons_zero, List.set_cons_succ]; rfl
  refine pure_ (i := 2) (N := some 13) (v := ?_) (a' := ?_) #[true, true, true, false, false, false, false, false, false, false, false, false, false, false, false, false, false, false, false, false] rfl rfl (by kernel_rfl) (fun _ _ _ h => h) (Or.inl ⟨by rfl, ?_⟩) ?_ ?_
  rotate_left
  · intro w'; go_simp; try with_reducible rfl
  rotate_left
  · simp only [Act.put, List.setIfInBounds_toArray, List.set_cons_zero, List.set_cons_succ]; rfl
  refine pure_ (i := 3) (N := some 14) (v := ?_) (a' := ?_) #[true, true, true, true, false, false, false, false, false, false, false, false, false, false, false, false, false, false, false, false] rfl rfl (by kernel_rfl) (fun _ _ _ h => h) (Or.inl ⟨by rfl, ?_⟩) ?_ ?_
  rotate_left
  · intro w'; go_simp; try with_reducible rfl
  rotate_left
  · simp only [Act.put, List.setIfInBounds_toArray, List.set_cons_zero, List.set_cons_succ]; rfl
  refine pure_ (i := 4) (N := some 15) (v := ?_) (a' := ?_) #[true, true, true, true, true, false, false, false, false, false, false, false, false, false, false, false, false, false, false, false] rfl rfl (by kernel_rfl) (fun _ _ _ h => h) (Or.inl ⟨by rfl, ?_⟩) ?_ ?_
  rotate_left
  · intro w'; go_simp; try with_reducible rfl
  rotate_left
  · simp only [Act.put, List.setIfInBounds_toArray, List.set_cons_zero, List.set_cons_succ]; rfl
  refine pure_ (i := 8) (N := some 19) (v := ?_) (a' := ?_) #[true, true, true, true, true, false, false, false, true, false, false, false, false, false, false, false, false, false, false, false] rfl rfl (by kernel_rfl) (fun _ _ _ h => h) (Or.inl ⟨by rfl, ?_⟩) ?_ ?_
  rotate_left
  · intro w'; go_simp; try with_reducible rfl
  rotate_left
  · simp only [Act.put, List.setIfInBounds_toArray, List.set_cons_zero, List.set_cons_succ]; rfl
  refine pure_ (i := 9) (N := some 20) (v := ?_) (a' := ?_) #[true, true, true, true, true, false, false, false, true, true, false, false, false, false, false, false, false, false, false, false] rfl rfl (by kernel_rfl) (fun _ _ _ h => h) (Or.inl ⟨by rfl, ?_⟩) ?_ ?_
  rotate_left
  · intro w'; go_simp; try with_reducible rfl
  rotate_left
  · simp only [Act.put, List.setIfInBounds_toArray, List.set_cons_zero, List.set_cons_succ]; rfl
  refine pure_ (i := 10) (N := some 21) (v := ?_) (a' := ?_) #[true, true, true, true, true, false, false, false, true, true, true, false, false, false, false, false, false, false, false, false] rfl rfl (by kernel_rfl) (fun _ _ _ h => h) (Or.inl ⟨by rfl, ?_⟩) ?_ ?_
  rotate_left
  · intro w'; go_simp; try with_reducible rfl
  rotate_left
  · simp only [Act.put, List.setIfInBounds_toArray, List.set_cons_zero, List.set_cons_succ]; rfl
  refine take_ (i := 5) (N := some 16) (v := ?_) (a' := ?_) #[true, true, true, true, true, true, false, false, true, true, true, false, false, false, false, false, false, false, false, false] rfl rfl (by kernel_rfl) (fun _ _ _ h => h) (Or.inl ⟨by rfl, ?_⟩) hHeld ?_ ?_
  rotate_left
  · intro w' hSw; obtain ⟨s0, s1⟩ := hSw; go_simp; try with_reducible rfl
  rotate_left
  · simp only [Act.put, List.setIfInBounds_toArray, List.set_cons_zero, List.set_cons_succ]; rfl
  refine take_ (i := 11) (N := some 22) (v := ?_) (a' := ?_) #[true, true, true, true, true, true, false, false, true, true, true, true, false, false, false, false, false, false, false, false] rfl rfl (by kernel_rfl) (fun _ _ _ h => h) (Or.inl ⟨by rfl, ?_⟩) hHeld ?_ ?_
  rotate_left
  · intro w' hSw; obtain ⟨s0, s1⟩ := hSw; go_simp; try with_reducible rfl
  rotate_left
  · simp only [Act.put, List.setIfInBounds_toArray, List.set_cons_zero, List.set_cons_succ]; rfl
  refine join_ (σ := Value × Value × Value × Value) 6 #[true, true, true, true, true, true, true, true, true, true, true, true, true, true, false, false, false, false, false, false] (fun s => [(17, s.1), (18, s.2.1), (23, s.2.2.1), (24, s.2.2.2)]) (fun s w4 => (∃ A1 C1 A2 C2, s.2.1 = .slice A1 (rn.length + 1) C1 ∧ s.2.2.2 = .slice A2 (ri.length + 1) C2) ∧ RS w F q (.slice A rn.length c) (.slice B ri.length d) s.2.1 s.2.2.2 (rn ++ [.slice none 0 0]) (ri ++ [.slice none 0 0]) rn ri St St w4) ?_ (fun hC => ?_)
  rotate_left
  · skip
    refine two_ (i := 6) (j := 12) (Ni := some 17) (Nj := some 23) #[true, true, true, true, true, true, true, false, true, true, true, true, false, false, false, false, false, false, false, false] #[true, true, true, true, true, true, false, false, true, true, true, true, true, false, false, false, false, false, false, false] rfl rfl rfl rfl (by kernel_rfl) (by decide) (by decide) (fun K hK => ?_) (fun K hK => ?_)
    · -- box 6
      rw [if_pos (by rfl)]
      go_simp
      refine hK.out _ _ ((H0.out.al _).held) (fun hHeld => ?_)
      clear hK K
      refine norm_ (a' := ?_) ?_ ?_
      rotate_left
      · first | (simp only [Act.put, List.setIfInBounds_toArray, List.set_cons_zero, List.set_cons_succ]; rfl) | rfl
      have H1 := Aside0.mk (H0.out.al (.cells #[.slice none 0 0] 40))
      refine two_ (i := 7) (j := 12) (Ni := some 18) (Nj := some 23) #[true, true, true, true, true, true, true, true, true, true, true, true, false, false, false, false, false, false, false, false] #[true, true, true, true, true, true, true, false, true, true, true, true, true, false, false, false, false, false, false, false] rfl rfl rfl rfl (by kernel_rfl) (by decide) (by decide) (fun K hK => ?_) (fun K hK => ?_)
      · refine appStep _ (by rfl) (by rfl) (.tmp 16) (.tmp 17) 48 40 (.slice none 0 0) (.slice none 0 0) 24 rfl Try.underlying48 info40 rfl (by decide) (.slice A rn.length c) rn.length rn (by rfl) (w3.heap.size) (by rfl) (box_new _ _ _) H1.out.nl rfl h6 ?_
        intro A1 C1 w5 ho_n hg_n hat_n
        have H2 := Aside0.mk (H1.out.setN (rs' := rn ++ [.slice none 0 0]) hg_n (by simpa using ho_n) hat_n)
        refine hK.out _ _ (H2.out.held) (fun hHeld => ?_)
        clear hK K
        refine norm_ (a' := ?_) ?_ ?_
        rotate_left
        · show Act.put _ (some 18) (.slice A1 (rn.length + 1) C1) = _; first | (simp only [Act.put, List.setIfInBounds_toArray, List.set_cons_zero, List.set_cons_succ]; rfl) | rfl
        -- box 12
        refine one_ (i := 12) (N := some 23) #[true, true, true, true, true, true, true, true, true, true, true, true, true, false, false, false, false, false, false, false] rfl rfl (by kernel_rfl) (by decide) (fun K hK => ?_)
        rw [if_pos (by rfl)]
        go_simp
        refine hK.out _ _ ((H2.out.al _).held) (fun hHeld => ?_)
        clear hK K
        refine norm_ (a' := ?_) ?_ ?_
        rotate_left
        · first | (simp only [Act.put, List.setIfInBounds_toArray, List.set_cons_zero, List.set_cons_succ]; rfl) | rfl
        have H3 := Aside0.mk (H2.out.al (.cells #[.slice none 0 0] 43))
        refine one_ (i := 13) (N := some 24) #[true, true, true, true, true, true, true, true, true, true, true, true, true, true, false, false, false, false, false, false] rfl rfl (by kernel_rfl) (by decide) (fun K hK => ?_)
        refine appStep _ (by rfl) (by rfl) (.tmp 22) (.tmp 23) 57 43 (.slice none 0 0) (.slice none 0 0) 24 rfl Try.underlying57 info43 rfl (by decide) (.slice B ri.length d) ri.length ri (by rfl) (w5.heap.size) (by rfl) (box_new _ _ _) H3.out.il rfl h7 ?_
        intro A2 C2 w6 ho_i hg_i hat_i
        have H4 := Aside0.mk (H3.out.setI (rs' := ri ++ [.slice none 0 0]) hg_i (by simpa using ho_i) hat_i)
        refine hK.out _ _ (H4.out.held) (fun hHeld => ?_)
        clear hK K
        refine norm_ (a' := ?_) ?_ ?_
        rotate_left
        · show Act.put _ (some 24) (.slice A2 (ri.length + 1) C2) = _; first | (simp only [Act.put, List.setIfInBounds_toArray, List.set_cons_zero, List.set_cons_succ]; rfl) | rfl
        exact hC (.slice (some ⟨w3.heap.size, 0, none⟩) 1 1, .slice A1 (rn.length + 1) C1, .slice (some ⟨w5.heap.size, 0, none⟩) 1 1, .slice A2 (ri.length + 1) C2) _ ⟨⟨_, _, _, _, rfl, rfl⟩, H4.out⟩
      · -- box 12
        rw [if_pos (by rfl)]
        go_simp
        refine hK.out _ _ ((H1.out.al _).held) (fun hHeld => ?_)
        clear hK K
        refine norm_ (a' := ?_) ?_ ?_
        rotate_left
        · first | (simp only [Act.put, List.setIfInBounds_toArray, List.set_cons_zero, List.set_cons_succ]; rfl) | rfl
        have H2 := Aside0.mk (H1.out.al (.cells #[.slice none 0 0] 43))
        refine one_ (i := 7) (N := some 18) #[true, true, true, true, true, true, true, true, true, true, true, true, true, false, false, false, false, false, false, false] rfl rfl (by kernel_rfl) (by decide) (fun K hK => ?_)
        refine appStep _ (by rfl) (by rfl) (.tmp 16) (.tmp 17) 48 40 (.slice none 0 0) (.slice none 0 0) 24 rfl Try.underlying48 info40 rfl (by decide) (.slice A rn.length c) rn.length rn (by rfl) (w3.heap.size) (by rfl) (box_past _ _ _ _) H2.out.nl rfl h6 ?_
        intro A1 C1 w5 ho_n hg_n hat_n
        have H3 := Aside0.mk (H2.out.setN (rs' := rn ++ [.slice none 0 0]) hg_n (by simpa using ho_n) hat_n)
        refine hK.out _ _ (H3.out.held) (fun hHeld => ?_)
        clear hK K
        refine norm_ (a' := ?_) ?_ ?_
        rotate_left
        · show Act.put _ (some 18) (.slice A1 (rn.length + 1) C1) = _; first | (simp only [Act.put, List.setIfInBounds_toArray, List.set_cons_zero, List.set_cons_succ]; rfl) | rfl
        refine one_ (i := 13) (N := some 24) #[true, true, true, true, true, true, true, true, true, true, true, true, true, true, false, false, false, false, false, false] rfl rfl (by kernel_rfl) (by decide) (fun K hK => ?_)
        refine appStep _ (by rfl) (by rfl) (.tmp 22) (.tmp 23) 57 43 (.slice none 0 0) (.slice none 0 0) 24 rfl Try.underlying57 info43 rfl (by decide) (.slice B ri.length d) ri.length ri (by rfl) (w3.heap.size + 1) (by rfl) (hg_n.cell (box_new2 _ _ _ _) (fun e => H0.out.boxN (Nat.le_succ _) _ e.symm rfl)) H3.out.il rfl h7 ?_
        intro A2 C2 w6 ho_i hg_i hat_i
        have H4 := Aside0.mk (H3.out.setI (rs' := ri ++ [.slice none 0 0]) hg_i (by simpa using ho_i) hat_i)
        refine hK.out _ _ (H4.out.held) (fun hHeld => ?_)
        clear hK K
        refine norm_ (a' := ?_) ?_ ?_
        rotate_left
        · show Act.put _ (some 24) (.slice A2 (ri.length + 1) C2) = _; first | (simp only [Act.put, List.setIfInBounds_toArray, List.set_cons_zero, List.set_cons_succ]; rfl) | rfl
        exact hC (.slice (some ⟨w3.heap.size, 0, none⟩) 1 1, .slice A1 (rn.length + 1) C1, .slice (some ⟨(w3.heap.size + 1), 0, none⟩) 1 1, .slice A2 (ri.length + 1) C2) _ ⟨⟨_, _, _, _, rfl, rfl⟩, H4.out⟩
    · -- box 12
      rw [if_pos (by rfl)]
      go_simp
      refine hK.out _ _ ((H0.out.al _).held) (fun hHeld => ?_)
      clear hK K
      refine norm_ (a' := ?_) ?_ ?_
      rotate_left
      · first | (simp only [Act.put, List.setIfInBounds_toArray, List.set_cons_zero, List.set_cons_succ]; rfl) | rfl
      have H1 := Aside0.mk (H0.out.al (.cells #[.slice none 0 0] 43))
      -- box 6
      refine one_ (i := 6) (N := some 17) #[true, true, true, true, true, true, true, false, true, true, true, true, true, false, false, false, false, false, false, false] rfl rfl (by kernel_rfl) (by decide) (fun K hK => ?_)
      rw [if_pos (by rfl)]
      go_simp
      refine hK.out _ _ ((H1.out.al _).held) (fun hHeld => ?_)
      clear hK K
      refine norm_ (a' := ?_) ?_ ?_
      rotate_left
      · first | (simp only [Act.put, List.setIfInBounds_toArray, List.set_cons_zero, List.set_cons_succ]; rfl) | rfl
      have H2 := Aside0.mk (H1.out.al (.cells #[.slice none 0 0] 40))
      refine one_ (i := 7) (N := some 18) #[true, true, true, true, true, true, true, true, true, true, true, true, true, false, false, false, false, false, false, false] rfl rfl (by kernel_rfl) (by decide) (fun K hK => ?_)
      refine appStep _ (by rfl) (by rfl) (.tmp 16) (.tmp 17) 48 40 (.slice none 0 0) (.slice none 0 0) 24 rfl Try.underlying48 info40 rfl (by decide) (.slice A rn.length c) rn.length rn (by rfl) (w3.heap.size + 1) (by rfl) (box_new2 _ _ _ _) H2.out.nl rfl h6 ?_
      intro A1 C1 w5 ho_n hg_n hat_n
      have H3 := Aside0.mk (H2.out.setN (rs' := rn ++ [.slice none 0 0]) hg_n (by simpa using ho_n) hat_n)
      refine hK.out _ _ (H3.out.held) (fun hHeld => ?_)
      clear hK K
      refine norm_ (a' := ?_) ?_ ?_
      rotate_left
      · show Act.put _ (some 18) (.slice A1 (rn.length + 1) C1) = _; first | (simp only [Act.put, List.setIfInBounds_toArray, List.set_cons_zero, List.set_cons_succ]; rfl) | rfl
      refine one_ (i := 13) (N := some 24) #[true, true, true, true, true, true, true, true, true, true, true, true, true, true, false, false, false, false, false, false] rfl rfl (by kernel_rfl) (by decide) (fun K hK => ?_)
      refine appStep _ (by rfl) (by rfl) (.tmp 22) (.tmp 23) 57 43 (.slice none 0 0) (.slice none 0 0) 24 rfl Try.underlying57 info43 rfl (by decide) (.slice B ri.length d) ri.length ri (by rfl) (w3.heap.size) (by rfl) (hg_n.cell (box_past _ _ _ _) (fun e => H0.out.boxN (Nat.le_refl _) _ e.symm rfl)) H3.out.il rfl h7 ?_
      intro A2 C2 w6 ho_i hg_i hat_i
      have H4 := Aside0.mk (H3.out.setI (rs' := ri ++ [.slice none 0 0]) hg_i (by simpa using ho_i) hat_i)
      refine hK.out _ _ (H4.out.held) (fun hHeld => ?_)
      clear hK K
      refine norm_ (a' := ?_) ?_ ?_
      rotate_left
      · show Act.put _ (some 24) (.slice A2 (ri.length + 1) C2) = _; first | (simp only [Act.put, List.setIfInBounds_toArray, List.set_cons_zero, List.set_cons_succ]; rfl) | rfl
      exact hC (.slice (some ⟨(w3.heap.size + 1), 0, none⟩) 1 1, .slice A1 (rn.length + 1) C1, .slice (some ⟨w3.heap.size, 0, none⟩) 1 1, .slice A2 (ri.length + 1) C2) _ ⟨⟨_, _, _, _, rfl, rfl⟩, H4.out⟩
  rintro ⟨b1, v1, b2, v2⟩ w4 ⟨⟨A1, C1, A2, C2, e1, e2⟩, H5⟩
  dsimp only at e1 e2 H5
  subst e1; subst e2
  refine norm_ (a' := ?_) ?_ ?_
  rotate_left
  · simp only [putAll, Act.put, List.setIfInBounds_toArray, List.set_cons_zero, List.set_cons_succ]; rfl
  refine pure_ (i := 14) (N := some 25) (v := ?_) (a' := ?_) #[true, true, true, true, true, true, true, true, true, true, true, true, true, true, true, false, false, false, false, false] rfl rfl (by kernel_rfl) (fun _ _ _ h => h) (Or.inl ⟨by rfl, ?_⟩) ?_ ?_
  rotate_left
  · intro w'; go_simp; try with_reducible rfl
  rotate_left
  · simp only [Act.put, List.setIfInBounds_toArray, List.set_cons_zero, List.set_cons_succ]; rfl
  refine pure_ (i := 15) (N := some 26) (v := ?_) (a' := ?_) #[true, true, true, true, true, true, true, true, true, true, true, true, true, true, true, true, false, false, false, false] rfl rfl (by kernel_rfl) (fun _ _ _ h => h) (Or.inl ⟨by rfl, ?_⟩) ?_ ?_
  rotate_left
  · intro w'; go_simp; try with_reducible rfl
  rotate_left
  · simp only [Act.put, List.setIfInBounds_toArray, List.set_cons_zero, List.set_cons_succ]; rfl
  have k0 := H5.c0
  have kf := H5.f 0
  refine last_ (i := 16) (N := none) #[true, true, true, true, true, true, true, true, true, true, true, true, true, true, true, true, true, false, false, false] rfl rfl (by kernel_rfl) (by decide) (fun K hK => ?_)
  rw [if_pos (by rfl)]
  go_simp
  refine hK.out _ _ ?_
  clear hK K
  have H6 := H5.storeN (.slice A1 (rn.length + 1) C1)
  refine pure_ (i := 17) (N := some 27) (v := ?_) (a' := ?_) #[true, true, true, true, true, true, true, true, true, true, true, true, true, true, true, true, true, true, false, false] rfl rfl (by kernel_rfl) (fun _ _ _ h => h) (Or.inl ⟨by rfl, ?_⟩) ?_ ?_
  rotate_left
  · intro w'; go_simp; try with_reducible rfl
  rotate_left
  · simp only [Act.put, List.setIfInBounds_toArray, List.set_cons_zero, List.set_cons_succ]; rfl
  refine pure_ (i := 18) (N := some 28) (v := ?_) (a' := ?_) #[true, true, true, true, true, true, true, true, true, true, true, true, true, true, true, true, true, true, true, false] rfl rfl (by kernel_rfl) (fun _ _ _ h => h) (Or.inl ⟨by rfl, ?_⟩) ?_ ?_
  rotate_left
  · intro w'; go_simp; try with_reducible rfl
  rotate_left
  · simp only [Act.put, List.setIfInBounds_toArray, List.set_cons_zero, List.set_cons_succ]; rfl
  clear k0 kf
  have k1 := H6.c1
  have kf := H6.f 1
  refine last_ (i := 19) (N := none) #[true, true, true, true, true, true, true, true, true, true, true, true, true, true, true, true, true, true, true, true] rfl rfl (by kernel_rfl) (by decide) (fun K hK => ?_)
  rw [if_pos (by rfl)]
  go_simp
  refine hK.out _ _ ?_
  clear hK K
  have H7 := H6.storeI (.slice A2 (ri.length + 1) C2)
  refine done_ (by kernel_rfl) ?_
  clear k1 kf
  go_wp2
  go_ret
  have hA := H7.withRows (H7.rows.snocNil rfl) (H7.rowi.snocNil rfl) (fun v hv b e => by
    rw [List.mem_append] at hv
    rcases hv with hv | hv
    · exact H7.inS v hv b e
    · simp at hv
      subst hv
      cases e) (fun v hv b e => by
    rw [List.mem_append] at hv
    rcases hv with hv | hv
    · exact H7.inT v hv b e
    · simp at hv
      subst hv
      cases e)
  exact ⟨rfl, hA.done⟩
end
end Go.Proofs.Ytchkimmhallckaa.Sc
