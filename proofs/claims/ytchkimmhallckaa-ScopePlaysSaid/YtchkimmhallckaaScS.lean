import Derived.Test.YtchkimmhallckaaScR
namespace Go.Proofs.Ytchkimmhallckaa.Sc
open Go.RowKit Go.Maps Go.WideMaps Go.Proofs.Ytchkimmhallckaa
open Go.Proofs.YtchkimmhallckaaW.PrintWords Go.Proofs.YtchkimmhallckaaW.PrintLast Go.Proofs.YtchkimmhallckaaW.PrintMore
set_option linter.unusedVariables false
set_option linter.unusedSimpArgs false

section
variable {w0 w w1 : World} {F : Nat → Prop} {q m : Nat} {cn ci nv iv v' u : Value} {rn ri rnC riC us is : List Value} {St Sn Si T : List Lvl} {l l' : Lvl}

theorem own_shape {e : TypeId} {v : Value} {n : Nat} {xs : List Value} (h : w.ownsRow 0 e 1 v n xs) (hn : 0 < n) : ∃ gl cap, v = .slice (some ⟨gl, 0, none⟩) n cap ∧ n ≤ cap := by
  rcases h.2 with ⟨_, h2⟩ | ⟨gl, cap, _, h2, _, _, hc, _⟩
  · omega
  · exact ⟨gl, cap, h2, hc⟩

theorem close_ref_no (h : RS w F q nv iv nv iv rn ri rn ri St St w) (hd : St.length = 1) : Calls Try.prog 17 #[.pointer (some ⟨q, 0, none⟩)] w fun e w' => e = .returned (.bool false) ∧ w' = w := by
  go_enter Try.func17, Try.ntmps17
  go_wp2_with fail
  refine (depth_ref h (by omega)).mono ?_
  rintro e w1 ⟨rfl, rfl⟩
  rw [hd, show (((1 : Nat) : Int)) - 1 = 0 from rfl]
  go_wp2
  go_ret
  exact ⟨rfl, rfl⟩

set_option maxHeartbeats 4000000 in
theorem close_ref (h : RS w F q nv iv nv iv (us ++ [u]) (is ++ [v']) (us ++ [u]) (is ++ [v']) (T ++ [l]) (T ++ [l]) w) (hd : T.length < 64) (hT : 0 < T.length) : Calls Try.prog 17 #[.pointer (some ⟨q, 0, none⟩)] w fun e w' => e = .returned (.bool true) ∧ RAt w' (Ext F w w') q T ∧ Kp F w w' := by
  have hlen : us.length = T.length := by have := h.rows.len; simp at this; omega
  have hleni : is.length = T.length := by have := h.rowi.len; simp at this; omega
  obtain ⟨gn, cn, rfl, hcn⟩ := own_shape h.nl (by simp)
  obtain ⟨gi, ci, rfl, hci⟩ := own_shape h.il (by simp)
  simp only [List.length_append, List.length_singleton, hlen, hleni] at h hcn hci
  have e1 : (((T ++ [l]).length : Nat) : Int) - 1 = (T.length : Int) := by simp
  have f1 : decide ((T.length : Int) < 1) = false := decide_eq_false (by omega)
  have q1 : T.length ≤ cn := by omega
  have q2 : ¬ cn = 0 := by omega
  have q3 : ¬ cn < T.length := by omega
  have q4 : T.length ≤ ci := by omega
  have q5 : ¬ ci = 0 := by omega
  have q6 : ¬ ci < T.length := by omega
  have H0 := Aside0.mk h.drew
  have hlen2 := Aside0.mk hlen
  have hleni2 := Aside0.mk hleni
  clear hlen hleni
  go_enter Try.func17, Try.ntmps17
  go_wp2_with fail
  refine (depth_ref h (by simp; omega)).mono ?_
  rintro e w1 ⟨rfl, rfl⟩
  rw [e1]
  go_wp2_with fail
  refine (depth_ref h (by simp; omega)).mono ?_
  rintro e w1 ⟨rfl, rfl⟩
  rw [e1]
  clear h
  go_wp2
  refine start_ (n := 20) (S := HeldQ q (.slice (some ⟨gn, 0, none⟩) (T.length + 1) cn) (.slice (some ⟨gi, 0, none⟩) (T.length + 1) ci)) (ds := [16, 19]) #[false, false, false, false, false, false, false, false, false, false, false, false, false, false, false, false, false, false, false, false] (by kernel_rfl) rfl rfl (H0.out.held) (fun hHeld => ?_)
  generalize hw3 : World.drew _ = w3 at H0 hHeld ⊢
  clear hw3
  refine pure_ (i := 0) (N := some 9) (v := ?_) (a' := ?_) #[true, false, false, false, false, false, false, false, false, false, false, false, false, false, false, false, false, false, false, false] rfl rfl (by kernel_rfl) (fun _ _ _ h => h) (Or.inl ⟨by rfl, ?_⟩) ?_ ?_
  rotate_left
  · intro w'; go_simp; try with_reducible rfl
  rotate_left
  · simp only [Act.put, List.setIfInBounds_toArray, List.set_cons_zero, List.set_cons_succ]; rfl
  refine pure_ (i := 1) (N := some 10) (v := ?_) (a' := ?_) #[true, true, false, false, false, false, false, false, false, false, false, false, false, false, false, false, false, false, false, false] rfl rfl (by kernel_rfl) (fun _ _ _ h => h) (Or.inl ⟨by rfl, ?_⟩) ?_ ?_
  rotate_left
  · intro w'; go_simp; try with_reducible rfl
  rotate_left
  · simp only [Act.put, List.setIfInBounds_toArray, List.set_cons_zero, List.set_cons_succ]; rfl
  refine pure_ (i := 2) (N := some 11) (v := ?_) (a' := ?_) #[true, true, true, false, false, false, false, false, false, false, false, false, false, false, false, false, false, false, false, false] rfl rfl (by kernel_rfl) (fun _ _ _ h => h) (Or.inl ⟨by rfl, ?_⟩) ?_ ?_
  rotate_left
  · intro w'; go_simp; try with_reducible rfl
  rotate_left
  · simp only [Act.put, List.setIfInBounds_toArray, List.set_cons_zero, List.set_cons_succ]; rfl
  refine pure_ (i := 3) (N := some 12) (v := ?_) (a' := ?_) #[true, true, true, true, false, false, false, false, false, false, false, false, false, false, false, false, false, false, false, false] rfl rfl (by kernel_rfl) (fun _ _ _ h => h) (Or.inl ⟨by rfl, ?_⟩) ?_ ?_
  rotate_left
  · intro w'; go_simp; try with_reducible rfl
  rotate_left
  · simp only [Act.put, List.setIfInBounds_toArray, List.set_cons_zero, List.set_cons_succ]; rfl
  refine pure_ (i := 4) (N := some 13) (v := ?_) (a' := ?_) #[true, true, true, true, true, false, false, false, false, false, false, false, false, false, false, false, false, false, false, false] rfl rfl (by kernel_rfl) (fun _ _ _ h => h) (Or.inl ⟨by rfl, ?_⟩) ?_ ?_
  rotate_left
  · intro w'; go_simp; try with_reducible rfl
  rotate_left
  · simp only [Act.put, List.setIfInBounds_toArray, List.set_cons_zero, List.set_cons_succ]; rfl
  refine pure_ (i := 6) (N := some 15) (v := ?_) (a' := ?_) #[true, true, true, true, true, false, true, false, false, false, false, false, false, false, false, false, false, false, false, false] rfl rfl (by kernel_rfl) (fun _ _ _ h => h) (Or.inl ⟨by rfl, ?_⟩) ?_ ?_
  rotate_left
  · intro w'; go_simp; try with_reducible rfl
  rotate_left
  · simp only [Act.put, List.setIfInBounds_toArray, List.set_cons_zero, List.set_cons_succ]; rfl
  refine pure_ (i := 8) (N := some 17) (v := ?_) (a' := ?_) #[true, true, true, true, true, false, true, false, true, false, false, false, false, false, false, false, false, false, false, false] rfl rfl (by kernel_rfl) (fun _ _ _ h => h) (Or.inl ⟨by rfl, ?_⟩) ?_ ?_
  rotate_left
  · intro w'; go_simp; try with_reducible rfl
  rotate_left
  · simp only [Act.put, List.setIfInBounds_toArray, List.set_cons_zero, List.set_cons_succ]; rfl
  refine pure_ (i := 9) (N := some 18) (v := ?_) (a' := ?_) #[true, true, true, true, true, false, true, false, true, true, false, false, false, false, false, false, false, false, false, false] rfl rfl (by kernel_rfl) (fun _ _ _ h => h) (Or.inl ⟨by rfl, ?_⟩) ?_ ?_
  rotate_left
  · intro w'; go_simp; try with_reducible rfl
  rotate_left
  · simp only [Act.put, List.setIfInBounds_toArray, List.set_cons_zero, List.set_cons_succ]; rfl
  refine pure_ (i := 10) (N := some 19) (v := ?_) (a' := ?_) #[true, true, true, true, true, false, true, false, true, true, true, false, false, false, false, false, false, false, false, false] rfl rfl (by kernel_rfl) (fun _ _ _ h => h) (Or.inl ⟨by rfl, ?_⟩) ?_ ?_
  rotate_left
  · intro w'; go_simp; try with_reducible rfl
  rotate_left
  · simp only [Act.put, List.setIfInBounds_toArray, List.set_cons_zero, List.set_cons_succ]; rfl
  refine pure_ (i := 12) (N := some 21) (v := ?_) (a' := ?_) #[true, true, true, true, true, false, true, false, true, true, true, false, true, false, false, false, false, false, false, false] rfl rfl (by kernel_rfl) (fun _ _ _ h => h) (Or.inl ⟨by rfl, ?_⟩) ?_ ?_
  rotate_left
  · intro w'; go_simp; try with_reducible rfl
  rotate_left
  · simp only [Act.put, List.setIfInBounds_toArray, List.set_cons_zero, List.set_cons_succ]; rfl
  refine take_ (i := 5) (N := some 14) (v := ?_) (a' := ?_) #[true, true, true, true, true, true, true, false, true, true, true, false, true, false, false, false, false, false, false, false] rfl rfl (by kernel_rfl) (fun _ _ _ h => h) (Or.inl ⟨by rfl, ?_⟩) hHeld ?_ ?_
  rotate_left
  · intro w' hSw; obtain ⟨s0, s1⟩ := hSw; go_simp; try with_reducible rfl
  rotate_left
  · simp only [Act.put, List.setIfInBounds_toArray, List.set_cons_zero, List.set_cons_succ]; rfl
  refine take_ (i := 11) (N := some 20) (v := ?_) (a' := ?_) #[true, true, true, true, true, true, true, false, true, true, true, true, true, false, false, false, false, false, false, false] rfl rfl (by kernel_rfl) (fun _ _ _ h => h) (Or.inl ⟨by rfl, ?_⟩) hHeld ?_ ?_
  rotate_left
  · intro w' hSw; obtain ⟨s0, s1⟩ := hSw; go_simp; try with_reducible rfl
  rotate_left
  · simp only [Act.put, List.setIfInBounds_toArray, List.set_cons_zero, List.set_cons_succ]; rfl
  refine pure_ (i := 7) (N := some 16) (v := ?_) (a' := ?_) #[true, true, true, true, true, true, true, true, true, true, true, true, true, false, false, false, false, false, false, false] rfl rfl (by kernel_rfl) (fun _ _ _ h => h) (Or.inl ⟨by rfl, ?_⟩) ?_ ?_
  rotate_left
  · intro w'; go_simp; try with_reducible rfl
  rotate_left
  · simp only [Act.put, List.setIfInBounds_toArray, List.set_cons_zero, List.set_cons_succ]; rfl
  refine pure_ (i := 13) (N := some 22) (v := ?_) (a' := ?_) #[true, true, true, true, true, true, true, true, true, true, true, true, true, true, false, false, false, false, false, false] rfl rfl (by kernel_rfl) (fun _ _ _ h => h) (Or.inl ⟨by rfl, ?_⟩) ?_ ?_
  rotate_left
  · intro w'; go_simp; try with_reducible rfl
  rotate_left
  · simp only [Act.put, List.setIfInBounds_toArray, List.set_cons_zero, List.set_cons_succ]; rfl
  refine pure_ (i := 14) (N := some 23) (v := ?_) (a' := ?_) #[true, true, true, true, true, true, true, true, true, true, true, true, true, true, true, false, false, false, false, false] rfl rfl (by kernel_rfl) (fun _ _ _ h => h) (Or.inl ⟨by rfl, ?_⟩) ?_ ?_
  rotate_left
  · intro w'; go_simp; try with_reducible rfl
  rotate_left
  · simp only [Act.put, List.setIfInBounds_toArray, List.set_cons_zero, List.set_cons_succ]; rfl
  refine pure_ (i := 15) (N := some 24) (v := ?_) (a' := ?_) #[true, true, true, true, true, true, true, true, true, true, true, true, true, true, true, true, false, false, false, false] rfl rfl (by kernel_rfl) (fun _ _ _ h => h) (Or.inl ⟨by rfl, ?_⟩) ?_ ?_
  rotate_left
  · intro w'; go_simp; try with_reducible rfl
  rotate_left
  · simp only [Act.put, List.setIfInBounds_toArray, List.set_cons_zero, List.set_cons_succ]; rfl
  have k0 := H0.out.c0
  have kf := H0.out.f 0
  refine last_ (i := 16) (N := none) #[true, true, true, true, true, true, true, true, true, true, true, true, true, true, true, true, true, false, false, false] rfl rfl (by kernel_rfl) (by decide) (fun K hK => ?_)
  rw [if_pos (by rfl)]
  go_simp
  refine hK.out _ _ ?_
  clear hK K
  have P1 := (H0.out.setN (v' := .slice (some ⟨gn, 0, none⟩) T.length cn) (rs' := us) (World.grownBy.refl _ _) (by have := H0.out.nl; simp only [List.length_append, List.length_singleton, hlen2.out] at this; rw [hlen2.out]; exact ownsRow_pop (size := 1) (by simp [hlen2.out]) this) (fun k e => .inl e))
  have P2 := (P1.setI (v' := .slice (some ⟨gi, 0, none⟩) T.length ci) (rs' := is) (World.grownBy.refl _ _) (by have := P1.il; simp only [List.length_append, List.length_singleton, hleni2.out] at this; rw [hleni2.out]; exact ownsRow_pop (size := 1) (by simp [hleni2.out]) this) (fun k e => .inl e))
  have H6 := P2.storeN (.slice (some ⟨gn, 0, none⟩) T.length cn)
  refine pure_ (i := 17) (N := some 25) (v := ?_) (a' := ?_) #[true, true, true, true, true, true, true, true, true, true, true, true, true, true, true, true, true, true, false, false] rfl rfl (by kernel_rfl) (fun _ _ _ h => h) (Or.inl ⟨by rfl, ?_⟩) ?_ ?_
  rotate_left
  · intro w'; go_simp; try with_reducible rfl
  rotate_left
  · simp only [Act.put, List.setIfInBounds_toArray, List.set_cons_zero, List.set_cons_succ]; rfl
  refine pure_ (i := 18) (N := some 26) (v := ?_) (a' := ?_) #[true, true, true, true, true, true, true, true, true, true, true, true, true, true, true, true, true, true, true, false] rfl rfl (by kernel_rfl) (fun _ _ _ h => h) (Or.inl ⟨by rfl, ?_⟩) ?_ ?_
  rotate_left
  · intro w'; go_simp; try with_reducible rfl
  rotate_left
  · simp only [Act.put, List.setIfInBounds_toArray, List.set_cons_zero, List.set_cons_succ]; rfl
  clear k0 kf
  have k1 := H6.c1
  have kf := H6.f 1
  refine last_ (i := 19) (N := none) #[true, true, true, true, true, true, true, true, true, true, true, true, true, true, true, true, true, true, true, true] rfl rfl (by kernel_rfl) (by decide) (fun K hK => ?_)
  rw [if_pos (by rfl)]
  go_simp
  refine hK.out _ _ ?_
  clear hK K
  have H7 := H6.storeI (.slice (some ⟨gi, 0, none⟩) T.length ci)
  refine done_ (by kernel_rfl) ?_
  clear k1 kf
  go_wp2
  go_ret
  have hA := H7.withRows H7.rows.pop H7.rowi.pop (fun v hv b e => H7.inS v (by simp [hv]) b e) (fun v hv b e => H7.inT v (by simp [hv]) b e)
  exact ⟨rfl, hA.done⟩
end
end Go.Proofs.Ytchkimmhallckaa.Sc
