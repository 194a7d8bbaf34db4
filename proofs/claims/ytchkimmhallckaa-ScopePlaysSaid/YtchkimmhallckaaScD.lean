import Derived.Test.YtchkimmhallckaaScC
import Derived.WalkSpells
namespace Go.Proofs.Ytchkimmhallckaa.Sc
open Go.RowKit Go.Maps Go.WideMaps
open Go.Proofs.YtchkimmhallckaaW.PrintWords Go.Proofs.YtchkimmhallckaaW.PrintLast Go.Proofs.YtchkimmhallckaaW.PrintMore
set_option linter.unusedVariables false
set_option linter.unusedSimpArgs false

section
variable (T : List Lvl) (l : Lvl) (lv : Int) (s : ByteArray)
theorem ofSt_new : ofSt [[]] lv s = none := by
  unfold ofSt
  split
  · rcases h : lv.toNat with _ | n <;> simp [lk]
  · rfl
theorem ofSt_open (St : List Lvl) : ofSt (St ++ [[]]) lv s = ofSt St lv s := by
  unfold ofSt
  split
  · congr 1
    simp only [List.getD_eq_getElem?_getD]
    by_cases h : lv.toNat < St.length
    · rw [List.getElem?_append_left h]
    · rw [List.getElem?_append_right (by omega), List.getElem?_eq_none (l := St) (by omega)]
      rcases h2 : lv.toNat - St.length with _ | n <;> simp
  · rfl
theorem ofSt_top : ofSt (T ++ [l]) T.length s = lk l s := by
  unfold ofSt
  rw [if_pos (by omega)]
  simp [List.getD_eq_getElem?_getD]
theorem ofSt_close : ofSt T lv s = if lv = T.length then none else ofSt (T ++ [l]) lv s := by
  unfold ofSt
  by_cases h0 : 0 ≤ lv
  · rw [if_pos h0, if_pos h0]
    simp only [List.getD_eq_getElem?_getD]
    by_cases h : lv.toNat < T.length
    · rw [if_neg (by omega), List.getElem?_append_left h]
    · rw [List.getElem?_eq_none (l := T) (by omega)]
      split
      · rfl
      · rw [List.getElem?_eq_none (by simp; omega)]
  · rw [if_neg h0, if_neg h0]
    simp
theorem ofSt_decl (n : ByteArray) (x : Int) (hn : lk l n = none) : ofSt (T ++ [l ++ [(n, x)]]) lv s = putM (ofSt (T ++ [l])) T.length n (some x) lv s := by
  unfold putM
  by_cases h1 : lv = T.length
  · subst h1
    rw [ofSt_top, ofSt_top, lk_snoc]
    by_cases h2 : s = n
    · subst h2
      simp [hn]
    · simp [h2, Ne.symm h2]
  · rw [if_neg (fun e => h1 e.1)]
    have e1 := ofSt_close T (l ++ [(n, x)]) lv s
    have e2 := ofSt_close T l lv s
    rw [if_neg h1] at e1 e2
    rw [← e1, ← e2]
end

theorem wf_small {lv : Int} (h0 : 0 ≤ lv) (h1 : lv ≤ 100000) : (Lit.int .i64 lv).wf = true := by
  simp [Lit.wf, IntKind.min, IntKind.max, IntKind.signed, IntKind.bits]
  omega

section
variable {w : World} {F : Nat → Prop} {g : Nat} {M : Int → ByteArray → Option Int} {St T : List Lvl} {l : Lvl} {N : Nat} {mp lv fv : Value} {vs : List Value}

theorem depth_nil (w : World) : Calls Try.prog 10 #[.pointer none] w fun e w' => e = .returned (.int .i64 (-1)) ∧ w' = w := by
  go_enter Try.func10, Try.ntmps10
  go_wp2
  go_ret
  exact ⟨rfl, rfl⟩

theorem depth_calls (h : Rep w F g M St N mp lv fv vs) : Calls Try.prog 10 #[.pointer (some ⟨g, 0, none⟩)] w fun e w' => e = .returned (.int .i64 (vs.length : Int)) ∧ w' = w := by
  have c1 := h.c1
  obtain ⟨A, c, rfl⟩ := own_slice h.lists
  clear h
  go_enter Try.func10, Try.ntmps10
  go_wp2
  go_ret
  exact ⟨rfl, rfl⟩

theorem here_first (h : Rep w F g M St N mp lv fv []) : Calls Try.prog 26 #[.pointer (some ⟨g, 0, none⟩)] w fun e w' => e = .returned (.pointer (some ⟨g, 2, none⟩)) ∧ w' = w := by
  have c1 := h.c1
  obtain ⟨A, c, rfl⟩ := own_slice h.lists
  clear h
  go_enter Try.func26, Try.ntmps26
  go_wp2
  go_ret
  exact ⟨rfl, rfl⟩

theorem here_last {gl cap : Nat} {u : Value} (h : Rep w F g M St N mp (.slice (some ⟨gl, 0, none⟩) (vs.length + 1) cap) fv (vs ++ [u])) : Calls Try.prog 26 #[.pointer (some ⟨g, 0, none⟩)] w fun e w' => e = .returned (.pointer (some ⟨gl, vs.length, none⟩)) ∧ w' = w := by
  have c1 := h.c1
  have hd : vs.length + 1 ≤ 64 := by have := h.len; have := h.deep; simp at *; omega
  clear h
  have f1 : decide (((vs.length + 1 : Nat) : Int) > 0) = true := by simp
  go_enter Try.func26, Try.ntmps26
  go_wp2
  go_ret
  exact ⟨rfl, rfl⟩
end
end Go.Proofs.Ytchkimmhallckaa.Sc
