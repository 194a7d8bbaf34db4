import Derived.Test.YtchkimmhallckaaScI
namespace Go.Proofs.Ytchkimmhallckaa.Sc
open Go.RowKit Go.Maps Go.WideMaps Go.Proofs.Ytchkimmhallckaa
open Go.Proofs.YtchkimmhallckaaW.PrintWords Go.Proofs.YtchkimmhallckaaW.PrintLast Go.Proofs.YtchkimmhallckaaW.PrintMore
set_option linter.unusedVariables false
set_option linter.unusedSimpArgs false

section
variable {w w' w1 : World} {F F' : Nat → Prop} {g : Nat} {M M' : Int → ByteArray → Option Int} {St T : List Lvl} {l : Lvl} {N : Nat} {mp lv fv u : Value} {vs us : List Value}

set_option maxHeartbeats 1000000 in
theorem declare_many (h : Rep w F g (ofSt (T ++ [l])) (T ++ [l]) N mp lv fv vs) (s : ByteArray) (x : Int) (hs : IsName s true) (hz : s.size ≤ maxLen) (hl : lk l s = none) (hm : l.length = 256) :
    Calls Try.prog 9 #[.pointer (some ⟨g, 0, none⟩), .string s, .int .i64 x] w fun e w' => e = .returned (.int .i64 3) ∧ Rep w' F g (ofSt (T ++ [l])) (T ++ [l]) N mp lv fv vs ∧ Below w.heap.size w w' := by
  obtain ⟨k, hk⟩ := hs
  obtain ⟨mb, rfl⟩ := h.map.isMapV
  have hT : vs.length = T.length := by have := h.len; simp at this; omega
  have hT2 : T.length < 64 := by have := h.deep; simp at this; omega
  have hM : ofSt (T ++ [l]) (T.length : Int) s = none := by rw [ofSt_top]; exact hl
  have hw := wf_small (lv := (T.length : Int)) (by omega) (by omega)
  obtain ⟨ad, v, hR⟩ := rowAt h
  go_enter Try.func9, Try.ntmps9
  go_wp2_with fail
  refine (PScopePlays.scope_named.calls k s true _ hk).mono ?_
  rintro e w1 ⟨rfl, d1⟩
  have h1 := h.drawn d1
  go_wp2_with fail
  refine (depth_calls h1).mono ?_
  rintro e w2 ⟨rfl, rfl⟩
  go_wp2_with fail
  have h6 := Go6.start (k := (T.length : Int)) (s := s) h d1
  have h7 := h6.on (below_drew (Below.refl _ _))
  have c0 := h6.rep.c0
  have c1 := h6.k0
  have c2 := h6.k1
  have hrun := h7.rep.map.look hw hz
  rw [hM] at hrun
  simp only [keyV, Option.getD_none, Option.isSome_none] at hrun
  clear h h1
  go_region_held3 (fun w' => w'.cell? ⟨g, 0, none⟩ = some (.map mb) ∧ w'.cell? ⟨w2.heap.size, 0, none⟩ = some (.int .i64 (T.length : Int)) ∧ w'.cell? ⟨w2.heap.size, 1, none⟩ = some (.string s) ∧ Go6 w F g (ofSt (T ++ [l])) (T ++ [l]) N (.map mb) lv fv vs w2.heap.size (T.length : Int) s w') (first | exact ⟨h7.rep.c0, h7.k0, h7.k1, h7⟩ | exact h7 | exact Go6.on (by assumption) (by assumption) | exact Go6.on (by assumption) (below_alloc (Below.refl _ _) _)) (fail)
  go_wp2_with fail
  refine (hR.call h7.rep).mono ?_
  rintro e w3 ⟨rfl, rfl⟩
  have r1 := hR.cell h7.rep
  obtain ⟨A, c, rfl⟩ := own_slice (hR.row h7.rep)
  rw [hm] at r1
  go_wp2
  go_ret
  exact ⟨rfl, h7.rep, h7.below⟩

set_option maxHeartbeats 2000000 in
theorem declare_old {mb : Nat} (h : Rep w F g (ofSt (T ++ [l])) (T ++ [l]) N (.map (some mb)) lv fv vs) (s : ByteArray) (x : Int) (hx : (Lit.int .i64 x).wf = true) (hs : IsName s true) (hz : s.size ≤ 24) (hl : lk l s = none) (hm : l.length < 256) (hN : N < maxLen) :
    Calls Try.prog 9 #[.pointer (some ⟨g, 0, none⟩), .string s, .int .i64 x] w fun e w' => e = .returned (.int .i64 0) ∧ (∃ fv' vs', Rep w' (Ext F w w') g (ofSt (T ++ [l ++ [(s, x)]])) (T ++ [l ++ [(s, x)]]) (N + 1) (.map (some mb)) lv fv' vs') ∧ Kp F w w' := by
  obtain ⟨k, hk⟩ := hs
  have hz2 : s.size ≤ maxLen := by unfold maxLen; omega
  have hT : vs.length = T.length := by have := h.len; simp at this; omega
  have hT2 : T.length < 64 := by have := h.deep; simp at this; omega
  have hM : ofSt (T ++ [l]) (T.length : Int) s = none := by rw [ofSt_top]; exact hl
  have hw := wf_small (lv := (T.length : Int)) (by omega) (by omega)
  obtain ⟨ad, v, hR⟩ := rowAt h
  have qM := fun (w : World) (r : Option Nat) => run_eql_map_nil (P := Try.prog) w 47 53 3 r Try.underlying47
  have hf : decide (((l.length : Nat) : Int) = 256) = false := decide_eq_false (by omega)
  have hf2 : (((l.length : Nat) : Int) == 256) = false := by simp; omega
  go_enter Try.func9, Try.ntmps9
  go_wp2_with fail
  refine (PScopePlays.scope_named.calls k s true _ hk).mono ?_
  rintro e w1 ⟨rfl, d1⟩
  have h1 := h.drawn d1
  go_wp2_with fail
  refine (depth_calls h1).mono ?_
  rintro e w2 ⟨rfl, rfl⟩
  go_wp2_with fail
  have h6 := Go6.start (k := (T.length : Int)) (s := s) h d1
  have h7 := h6.on (below_drew (Below.refl _ _))
  have c0 := h6.rep.c0
  have c1 := h6.k0
  have c2 := h6.k1
  have hrun := h7.rep.map.look hw hz2
  rw [hM] at hrun
  simp only [keyV, Option.getD_none, Option.isSome_none] at hrun
  clear h h1
  go_region_held3 (fun w' => w'.cell? ⟨g, 0, none⟩ = some (.map (some mb)) ∧ w'.cell? ⟨w2.heap.size, 0, none⟩ = some (.int .i64 (T.length : Int)) ∧ w'.cell? ⟨w2.heap.size, 1, none⟩ = some (.string s) ∧ Go6 w F g (ofSt (T ++ [l])) (T ++ [l]) N (.map (some mb)) lv fv vs w2.heap.size (T.length : Int) s w') (first | exact ⟨h7.rep.c0, h7.k0, h7.k1, h7⟩ | exact h7 | exact Go6.on (by assumption) (by assumption) | exact Go6.on (by assumption) (below_alloc (Below.refl _ _) _)) (fail)
  go_wp2_with fail
  refine (hR.call h7.rep).mono ?_
  rintro e w3 ⟨rfl, rfl⟩
  have r1 := hR.cell h7.rep
  obtain ⟨A, c, rfl⟩ := own_slice (hR.row h7.rep)
  have h8 := h7.on (below_drew (Below.refl _ _))
  obtain ⟨w5, hst, hm5, hg5⟩ := h8.rep.map.store hN hw hz2 hx
  simp only [keyV] at hst
  have h9 := h8.rep.setMap hg5 hm5
  have hne : w2.heap.size ≠ mb := fun e => by
    have := h8.new mb (h8.rep.inM mb rfl)
    have := h8.lt
    omega
  have k50 := hg5.cell h8.k0 (fun e => hne (Option.some.inj e))
  have k51 := hg5.cell h8.k1 (fun e => hne (Option.some.inj e))
  have c50 := h9.c0
  have c5a := hR.cell h9
  go_wp2
  go_region_held3 (fun w' => w'.cell? ⟨g, 0, none⟩ = some (.map (some mb)) ∧ w'.cell? ⟨w2.heap.size, 0, none⟩ = some (.int .i64 (T.length : Int)) ∧ w'.cell? ⟨w2.heap.size, 1, none⟩ = some (.string s)) (first | exact ⟨h8.rep.c0, h8.k0, h8.k1⟩ | exact ⟨c50, k50, k51⟩) (fail)
  clear c0 c1 c2 hrun hst k50 k51 c50
  go_wp2_with (first
    | (at_builtin; refine appOne w5 rfl _ _ 40 9 (.string ByteArray.empty) (.string s) 16 rfl Try.underlying40 info9 rfl ?b1 ?b2 (.slice A l.length c) l.length (names l) ?hs ?hx (hR.row h9) ?h1 ?hl ?_; (case b1 => decide); (case b2 => decide); (case hs => rfl); (case hx => rfl); (case h1 => rfl); (case hl => omega); intro A1 C1 w6 ho6 hg6 hat6; have k6 := (hR.keep h9 hg6).1; have f6 := (hR.keep h9 hg6).2))
  go_ret
  obtain ⟨hi1, hi2⟩ := hR.inF h9
  have hs1 := h8.below.size
  have hs2 := hg5.size
  have hs3 := hg6.size
  refine ⟨rfl, ?_, ((Kp.ofBelow h8.below).trans (Kp.grown hg5 h9.inM)).trans ((Kp.grown hg6 hi2).trans (Kp.setCell _ _ _ hi1))⟩
  obtain ⟨fv', vs', h10⟩ := hR.decl x h9 hz hm hg6 ho6 hat6
  refine ⟨fv', vs', (h10.extM fun a b => (ofSt_decl T l a b s x hl).symm).wider (fun b hb => ?_) (Ext.lt h8.new (by simp [World.setCell]; omega))⟩
  rcases hb with hb | ⟨q1, q2⟩
  · exact .inl hb
  · exact .inr ⟨by omega, by simpa [World.setCell] using q2⟩
end
end Go.Proofs.Ytchkimmhallckaa.Sc
