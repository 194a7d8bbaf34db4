import Derived.Test.YtchkimmhallckaaScJ
namespace Go.Proofs.Ytchkimmhallckaa.Sc
open Go.RowKit Go.Maps Go.WideMaps Go.Proofs.Ytchkimmhallckaa
open Go.Proofs.YtchkimmhallckaaW.PrintWords Go.Proofs.YtchkimmhallckaaW.PrintLast Go.Proofs.YtchkimmhallckaaW.PrintMore
set_option linter.unusedVariables false
set_option linter.unusedSimpArgs false

section
variable {w w' w1 : World} {F F' : Nat → Prop} {g : Nat} {M M' : Int → ByteArray → Option Int} {St T : List Lvl} {l : Lvl} {N : Nat} {mp lv fv u : Value} {vs us : List Value}

set_option maxHeartbeats 2000000 in
theorem declare_new (h : Rep w F g (ofSt (T ++ [l])) (T ++ [l]) N (.map none) lv fv vs) (s : ByteArray) (x : Int) (hx : (Lit.int .i64 x).wf = true) (hs : IsName s true) (hz : s.size ≤ 24) (hl : lk l s = none) (hm : l.length < 256) (hN : N < maxLen) :
    Calls Try.prog 9 #[.pointer (some ⟨g, 0, none⟩), .string s, .int .i64 x] w fun e w' => e = .returned (.int .i64 0) ∧ (∃ mb fv' vs', Rep w' (Ext F w w') g (ofSt (T ++ [l ++ [(s, x)]])) (T ++ [l ++ [(s, x)]]) (N + 1) (.map (some mb)) lv fv' vs') ∧ Kp F w w' := by
  obtain ⟨k, hk⟩ := hs
  have hz2 : s.size ≤ maxLen := by unfold maxLen; omega
  have hT : vs.length = T.length := by have := h.len; simp at this; omega
  have hT2 : T.length < 64 := by have := h.deep; simp at this; omega
  have hM : ofSt (T ++ [l]) (T.length : Int) s = none := by rw [ofSt_top]; exact hl
  have hw := wf_small (lv := (T.length : Int)) (by omega) (by omega)
  obtain ⟨ad, v, hR⟩ := rowAt h
  have qM := fun (w : World) (r : Option Nat) => run_eql_map_nil (P := Try.prog) w 47 53 3 r Try.underlying47
  have hf : decide (((l.length : Nat) : Int) = 256) = false := decide_eq_false (by omega)
  have hf2 : (((l.length : Nat) : Int) == 256) = false := by simp; omega
  go_enter Try.func9, Try.ntmps9
  go_wp2_with fail
  refine (PScopePlays.scope_named.calls k s true _ hk).mono ?_
  rintro e w1 ⟨rfl, d1⟩
  have h1 := h.drawn d1
  go_wp2_with fail
  refine (depth_calls h1).mono ?_
  rintro e w2 ⟨rfl, rfl⟩
  go_wp2_with fail
  have h6 := Go6.start (k := (T.length : Int)) (s := s) h d1
  have h7 := h6.on (below_drew (Below.refl _ _))
  have c0 := h6.rep.c0
  have c1 := h6.k0
  have c2 := h6.k1
  have hrun := h7.rep.map.look hw hz2
  rw [hM] at hrun
  simp only [keyV, Option.getD_none, Option.isSome_none] at hrun
  clear h h1
  go_region_held3 (fun w' => w'.cell? ⟨g, 0, none⟩ = some (.map none) ∧ w'.cell? ⟨w2.heap.size, 0, none⟩ = some (.int .i64 (T.length : Int)) ∧ w'.cell? ⟨w2.heap.size, 1, none⟩ = some (.string s) ∧ Go6 w F g (ofSt (T ++ [l])) (T ++ [l]) N (.map none) lv fv vs w2.heap.size (T.length : Int) s w') (first | exact ⟨h7.rep.c0, h7.k0, h7.k1, h7⟩ | exact h7 | exact Go6.on (by assumption) (by assumption) | exact Go6.on (by assumption) (below_alloc (Below.refl _ _) _)) (fail)
  go_wp2_with fail
  refine (hR.call h7.rep).mono ?_
  rintro e w3 ⟨rfl, e3⟩
  clear hrun c0 c1 c2
  obtain ⟨h7x⟩ : Nonempty (Go6 w F g (ofSt (T ++ [l])) (T ++ [l]) N (.map none) lv fv vs w2.heap.size (T.length : Int) s w3) := ⟨by rw [e3]; exact h7⟩
  clear h7 h6
  have r1 := hR.cell h7x.rep
  obtain ⟨A, c, rfl⟩ := own_slice (hR.row h7x.rep)
  have hnone : ∀ a b, ofSt (T ++ [l]) a b = none := by
    rcases h7x.rep.map with ⟨_, hn⟩ | ⟨b, D, hb, _⟩
    · exact hn
    · cases hb
  have hmm := @run_makeMap Try.prog
  have p0 := h7x.rep.c0
  have p1 := h7x.rep.f 0
  have hg0 : g < w3.heap.size := h7x.rep.lt g h7x.rep.inG
  have p2 : (w3.alloc (.map #[] 0)).frozen? ⟨g, 0, none⟩ = false := (h7x.rep.block (below_alloc (Below.refl _ _) _) (Nat.le_refl _)).f 0
  have p3 : (w3.alloc (.map #[] 0)).cell? ⟨g, 0, none⟩ = some (.map none) := (h7x.rep.block (below_alloc (Below.refl _ _) _) (Nat.le_refl _)).c0
  have hm1 : Rep (w3.alloc (.map #[] 0)) (fun b => F b ∨ b = w3.heap.size) g (ofSt (T ++ [l])) (T ++ [l]) N (.map none) lv fv vs := (h7x.rep.block (below_alloc (Below.refl _ _) _) (Nat.le_refl _)).wider (fun b hb => .inl hb) (fun b hb => by rcases hb with hb | rfl; (· have := h7x.rep.lt b hb; simp; omega); (· simp))
  have hm3 := hm1.storeMap (b := w3.heap.size) (N' := N) (M' := ofSt (T ++ [l])) (((MapIs.made w3).ext fun a b => (hnone a b).symm).mono (Nat.zero_le _)) (.inr rfl)
  have hm4 : Rep ((w3.alloc (.map #[] 0)).setCell ⟨g, 0, none⟩ (.map (some w3.heap.size))).drew _ g (ofSt (T ++ [l])) (T ++ [l]) N _ lv fv vs := hm3.keep (fun _ _ => rfl) (Nat.le_refl _)
  have hcomm : (w3.alloc (.map #[] 0)).setCell ⟨g, 0, none⟩ (.map (some w3.heap.size)) = (w3.setCell ⟨g, 0, none⟩ (.map (some w3.heap.size))).alloc (.map #[] 0) := World.setCell_alloc_past _ _ _ _ hg0
  have hBg : g ≠ w2.heap.size := fun e => by have := h7x.new g h7x.rep.inG; have := h7x.lt; omega
  have q0 : ((w3.alloc (.map #[] 0)).setCell ⟨g, 0, none⟩ (.map (some w3.heap.size))).drew.cell? ⟨w2.heap.size, 0, none⟩ = some (.int .i64 (T.length : Int)) := by
    show ((w3.alloc (.map #[] 0)).setCell ⟨g, 0, none⟩ (.map (some w3.heap.size))).cell? ⟨w2.heap.size, 0, none⟩ = _
    rw [World.cell?_setCell_far _ _ _ _ hBg]
    exact (h7x.on (below_alloc (Below.refl _ _) (.map #[] 0))).k0
  have q1 : ((w3.alloc (.map #[] 0)).setCell ⟨g, 0, none⟩ (.map (some w3.heap.size))).drew.cell? ⟨w2.heap.size, 1, none⟩ = some (.string s) := by
    show ((w3.alloc (.map #[] 0)).setCell ⟨g, 0, none⟩ (.map (some w3.heap.size))).cell? ⟨w2.heap.size, 1, none⟩ = _
    rw [World.cell?_setCell_far _ _ _ _ hBg]
    exact (h7x.on (below_alloc (Below.refl _ _) (.map #[] 0))).k1
  obtain ⟨w5, hst, hm5, hg5⟩ := hm4.map.store hN hw hz2 hx
  simp only [keyV] at hst
  have h9 := hm4.setMap hg5 hm5
  have hne : w2.heap.size ≠ w3.heap.size := fun e => by
    have := h7x.lt2
    omega
  have k50 := hg5.cell q0 (fun e => hne (Option.some.inj e))
  have k51 := hg5.cell q1 (fun e => hne (Option.some.inj e))
  have c50 := h9.c0
  have c5a := hR.cell h9
  have hKp : Kp F w ((w3.alloc (.map #[] 0)).setCell ⟨g, 0, none⟩ (.map (some w3.heap.size))).drew := ((Kp.ofBelow h7x.below).trans ((Kp.alloc F w3 (.map #[] 0)).trans (Kp.setCell _ _ _ h7x.rep.inG))).drewN 1
  have hKp2 : Kp F w w5 := hKp.transExt (Kp.grown hg5 (fun k e => by cases e; right; (have := h7x.below.size; constructor; omega; simp [World.setCell])))
  have c40 := hm4.c0
  rw [hcomm] at c40 q0 q1 hst
  have hKp3 := h7x.below.size
  have hnw := h7x.new
  clear hm1 hm3 h7x d1
  clear e3
  go_wp2
  go_region_held3 (fun w' => w'.cell? ⟨g, 0, none⟩ = some (.map (some w3.heap.size)) ∧ w'.cell? ⟨w2.heap.size, 0, none⟩ = some (.int .i64 (T.length : Int)) ∧ w'.cell? ⟨w2.heap.size, 1, none⟩ = some (.string s)) (first | exact ⟨c40, q0, q1⟩ | exact ⟨c50, k50, k51⟩) (fail)
  clear hst k50 k51 c50 p0 p1 p2 p3 q0 q1 c40 hm4 r1
  go_wp2_with (first
    | (at_builtin; refine appOne w5 rfl _ _ 40 9 (.string ByteArray.empty) (.string s) 16 rfl Try.underlying40 info9 rfl ?b1 ?b2 (.slice A l.length c) l.length (names l) ?hs ?hx (hR.row h9) ?h1 ?hl ?_; (case b1 => decide); (case b2 => decide); (case hs => rfl); (case hx => rfl); (case h1 => rfl); (case hl => omega); intro A1 C1 w6 ho6 hg6 hat6; have k6 := (hR.keep h9 hg6).1; have f6 := (hR.keep h9 hg6).2))
  go_ret
  obtain ⟨hi1, hi2⟩ := hR.inF h9
  have hs1 := hKp.size
  have hs2 := hg5.size
  have hs3 := hg6.size
  have hw3 : w.heap.size ≤ w3.heap.size := hKp3
  have hFx : ∀ b, (F b ∨ b = w3.heap.size) → Ext F w w5 b := fun b hb => by
    rcases hb with hb | rfl
    · exact .inl hb
    · exact .inr ⟨hw3, by have : w3.heap.size < ((w3.alloc (.map #[] 0)).setCell ⟨g, 0, none⟩ (.map (some w3.heap.size))).drew.heap.size := (by simp [World.setCell]); omega⟩
  refine ⟨rfl, ?_, hKp2.transExt ((Kp.grown hg6 (fun k e => hFx k (hi2 k e))).trans (Kp.setCell _ _ _ (hFx _ hi1)))⟩
  obtain ⟨fv', vs', h10⟩ := hR.decl x h9 hz hm hg6 ho6 hat6
  refine ⟨w3.heap.size, fv', vs', (h10.extM fun a b => (ofSt_decl T l a b s x hl).symm).wider (fun b hb => ?_) (Ext.lt hnw (by simp [World.setCell]; omega))⟩
  rcases hb with hb | ⟨q1, q2⟩
  · rcases hFx b hb with hb | ⟨q3, q4⟩
    · exact .inl hb
    · exact .inr ⟨q3, by simp [World.setCell]; omega⟩
  · exact .inr ⟨by omega, by simpa [World.setCell] using q2⟩
end
end Go.Proofs.Ytchkimmhallckaa.Sc
