import Derived.Test.YtchkimmhallckaaScU
namespace Go.Proofs.Ytchkimmhallckaa.Sc
open Go.RowKit Go.Maps Go.WideMaps Go.Proofs.Ytchkimmhallckaa
open Go.Proofs.YtchkimmhallckaaW.PrintWords Go.Proofs.YtchkimmhallckaaW.PrintLast Go.Proofs.YtchkimmhallckaaW.PrintMore
set_option linter.unusedVariables false
set_option linter.unusedSimpArgs false

/-! THE REFERENCE's METHODS, over the state alone -/
section
variable {w w' : World} {F : Nat → Prop} {q : Nat} {St T : List Lvl} {l : Lvl}

theorem snoc_of {α : Type} {rs : List α} {n : Nat} (h : rs.length = n + 1) : ∃ us u, rs = us ++ [u] := by
  rcases snoc_cases rs with rfl | h2
  · simp at h
  · exact h2

theorem drawn_kp (d : Drawn0 w w') : Below w.heap.size w w' := by
  obtain ⟨n, rfl⟩ := d
  exact ⟨rfl, rfl, rfl, Nat.le_refl _, fun _ _ => rfl⟩

theorem R_depth (h : RAt w F q St) (hd : St.length ≤ 64) : Calls Try.prog 21 #[.pointer (some ⟨q, 0, none⟩)] w fun e w' => e = .returned (.int .i64 ((St.length : Int) - 1)) ∧ w' = w := by
  obtain ⟨nv, iv, rn, ri, h⟩ := h
  exact depth_ref h hd

theorem R_find (h : RAt w F q St) (hd : St.length ≤ 64) (hm : ∀ l ∈ St, l.length ≤ 256) (s : ByteArray) : Calls Try.prog 20 #[.pointer (some ⟨q, 0, none⟩), .string s] w fun e w' => e = .returned (findV (find St s)) ∧ Drawn0 w w' := by
  obtain ⟨nv, iv, rn, ri, h⟩ := h
  exact find_ref h hd hm s

theorem R_open (h : RAt w F q St) (hd : St.length ≤ 64) : Calls Try.prog 15 #[.pointer (some ⟨q, 0, none⟩)] w fun e w' => e = .returned (.int .i64 (if St.length < 64 then 0 else 4)) ∧ RAt w' (Ext F w w') q (if St.length < 64 then St ++ [[]] else St) ∧ Kp F w w' := by
  have h0 := h
  obtain ⟨nv, iv, rn, ri, h⟩ := h
  by_cases hd2 : St.length < 64
  · rw [if_pos hd2, if_pos hd2]
    exact open_ref h hd2
  · rw [if_neg hd2, if_neg hd2]
    refine (open_ref_deep h (by omega)).mono ?_
    rintro e w' ⟨rfl, rfl⟩
    exact ⟨rfl, h0.ext (Below.refl _ _), Kp.refl _ _⟩

theorem R_close (h : RAt w F q (T ++ [l])) (hd : T.length < 64) : Calls Try.prog 17 #[.pointer (some ⟨q, 0, none⟩)] w fun e w' => e = .returned (.bool (decide (T ≠ []))) ∧ RAt w' (Ext F w w') q (if T = [] then T ++ [l] else T) ∧ Kp F w w' := by
  have h0 := h
  obtain ⟨nv, iv, rn, ri, h⟩ := h
  obtain ⟨us, u, rfl⟩ := snoc_of (n := T.length) (by have := h.rows.len; simpa using this)
  obtain ⟨is, v, rfl⟩ := snoc_of (n := T.length) (by have := h.rowi.len; simpa using this)
  by_cases hT : T = []
  · subst hT
    refine (close_ref_no h rfl).mono ?_
    rintro e w' ⟨rfl, rfl⟩
    exact ⟨rfl, h0.ext (Below.refl _ _), Kp.refl _ _⟩
  · rw [if_neg hT]
    refine (close_ref h hd (List.length_pos_iff.2 hT)).mono ?_
    rintro e w' ⟨rfl, h', hk⟩
    exact ⟨by simp [hT], h', hk⟩

theorem R_decl (h : RAt w F q (T ++ [l])) (hd : T.length < 64) (hm : l.length ≤ 256) (s : ByteArray) (x : Int) : Calls Try.prog 18 #[.pointer (some ⟨q, 0, none⟩), .string s, .int .i64 x] w fun e w' => e = .returned (.int .i64 (declC l s)) ∧ RAt w' (Ext F w w') q (T ++ [declL l s x]) ∧ Kp F w w' := by
  have h0 := h
  obtain ⟨nv, iv, rn, ri, h⟩ := h
  obtain ⟨us, u, rfl⟩ := snoc_of (n := T.length) (by have := h.rows.len; simpa using this)
  obtain ⟨is, v, rfl⟩ := snoc_of (n := T.length) (by have := h.rowi.len; simpa using this)
  cases hn : isName s with
  | false =>
    have e1 : declC l s = 150 := by simp [declC, hn]
    have e2 : declL l s x = l := by simp [declL, e1]
    rw [e1, e2]
    refine (decl_ref_bad h (by simp; omega) s x hn).mono ?_
    rintro e w' ⟨rfl, d⟩
    exact ⟨rfl, h0.ext (drawn_kp d), Kp.ofBelow (drawn_kp d)⟩
  | true =>
    cases hl : lk l s with
    | some y =>
      have e1 : declC l s = 151 := by simp [declC, hn, hl]
      have e2 : declL l s x = l := by simp [declL, e1]
      rw [e1, e2]
      refine (decl_ref_twice h hd hm s x hn hl).mono ?_
      rintro e w' ⟨rfl, d⟩
      exact ⟨rfl, h0.ext (drawn_kp d), Kp.ofBelow (drawn_kp d)⟩
    | none =>
      by_cases h256 : l.length = 256
      · have e1 : declC l s = 3 := by simp [declC, hn, hl, h256]
        have e2 : declL l s x = l := by simp [declL, e1]
        rw [e1, e2]
        refine (decl_ref_many h hd hm s x hn hl ⟨h256⟩).mono ?_
        rintro e w' ⟨rfl, d⟩
        exact ⟨rfl, h0.ext (drawn_kp d), Kp.ofBelow (drawn_kp d)⟩
      · have e1 : declC l s = 0 := by simp [declC, hn, hl, h256]
        have e2 : declL l s x = l ++ [(s, x)] := by simp [declL, e1]
        rw [e1, e2]
        exact decl_ref_ok h hd hm s x hn hl (by omega)

theorem R_here (h : RAt w F q (T ++ [l])) (hd : T.length < 64) (hm : l.length ≤ 256) : Calls Try.prog 24 #[.pointer (some ⟨q, 0, none⟩)] w fun e w' => HereIs w w' e l := by
  obtain ⟨nv, iv, rn, ri, h⟩ := h
  obtain ⟨us, u, rfl⟩ := snoc_of (n := T.length) (by have := h.rows.len; simpa using this)
  obtain ⟨is, v, rfl⟩ := snoc_of (n := T.length) (by have := h.rowi.len; simpa using this)
  exact here_ref h hd hm
end

/-! BOTH STATES, with what they lie in hidden -/
structure Both (w0 : World) (G : Nat → Prop) (g q : Nat) (Ss Sq : List Lvl) (N : Nat) (w : World) : Prop where
  mk ::
  out : ∃ F Fq, SAt w F g Ss N ∧ RAt w Fq q Sq ∧ (∀ b, F b → w0.heap.size ≤ b ∧ ¬ G b ∧ ¬ Fq b) ∧ (∀ b, Fq b → w0.heap.size ≤ b ∧ ¬ G b) ∧ (∀ b, G b → b < w.heap.size) ∧ Below w0.heap.size w0 w

section
variable {w0 w w' w1 : World} {G : Nat → Prop} {g q : Nat} {Ss Sq St T : List Lvl} {l : Lvl} {N N' : Nat}

theorem Both.below (h : Both w0 G g q Ss Sq N w) : Below w0.heap.size w0 w := by
  obtain ⟨F, Fq, _, _, _, _, _, hB⟩ := h.out
  exact hB

theorem Both.stepS {F Fq : Nat → Prop} {Ss' : List Lvl} (hs : SAt w F g Ss N) (hq : RAt w Fq q Sq) (hF : ∀ b, F b → w0.heap.size ≤ b ∧ ¬ G b ∧ ¬ Fq b) (hFq : ∀ b, Fq b → w0.heap.size ≤ b ∧ ¬ G b) (hG : ∀ b, G b → b < w.heap.size) (hB : Below w0.heap.size w0 w)
    (h' : SAt w' (Ext F w w') g Ss' N') (hk : Kp F w w') : Both w0 G g q Ss' Sq N' w' ∧ Others G w w' := by
  refine ⟨⟨_, Fq, h', hq.keep (fun b hb => hk.block b (hq.lt b hb) (fun e => (hF b e).2.2 hb)) hk.size, ?_, hFq, fun b hb => Nat.lt_of_lt_of_le (hG b hb) hk.size, hk.below hB hB.size (fun b hb => (hF b hb).1)⟩, fun b hb => hk.block b (hG b hb) (fun e => (hF b e).2.1 hb)⟩
  intro b hb
  rcases hb with hb | ⟨q1, q2⟩
  · exact hF b hb
  · exact ⟨Nat.le_trans hB.size q1, fun e => by have := hG b e; omega, fun e => by have := hq.lt b e; omega⟩

theorem Both.stepQ {F Fq : Nat → Prop} {Sq' : List Lvl} (hs : SAt w F g Ss N) (hq : RAt w Fq q Sq) (hF : ∀ b, F b → w0.heap.size ≤ b ∧ ¬ G b ∧ ¬ Fq b) (hFq : ∀ b, Fq b → w0.heap.size ≤ b ∧ ¬ G b) (hG : ∀ b, G b → b < w.heap.size) (hB : Below w0.heap.size w0 w)
    (h' : RAt w' (Ext Fq w w') q Sq') (hk : Kp Fq w w') : Both w0 G g q Ss Sq' N w' ∧ Others G w w' := by
  refine ⟨⟨F, _, hs.keep (fun b hb => hk.block b (hs.lt b hb) (fun e => (hF b hb).2.2 e)) hk.size, h', fun b hb => ⟨(hF b hb).1, (hF b hb).2.1, fun e => ?_⟩, ?_, fun b hb => Nat.lt_of_lt_of_le (hG b hb) hk.size, hk.below hB hB.size (fun b hb => (hFq b hb).1)⟩, fun b hb => hk.block b (hG b hb) (fun e => (hFq b e).2 hb)⟩
  · rcases e with e | ⟨q1, q2⟩
    · exact (hF b hb).2.2 e
    · have := hs.lt b hb
      omega
  · intro b hb
    rcases hb with hb | ⟨q1, q2⟩
    · exact hFq b hb
    · exact ⟨Nat.le_trans hB.size q1, fun e => by have := hG b e; omega⟩

theorem Both.on (h : Both w0 G g q Ss Sq N w) (hb : Below w.heap.size w w') : Both w0 G g q Ss Sq N w' ∧ Others G w w' := by
  obtain ⟨F, Fq, hs, hq, hF, hFq, hG, hB⟩ := h.out
  exact Both.stepS hs hq hF hFq hG hB (hs.ext hb) (Kp.ofBelow hb)

theorem Both.mono (h : Both w0 G g q Ss Sq N w) (hN : N ≤ N') : Both w0 G g q Ss Sq N' w := by
  obtain ⟨F, Fq, hs, hq, hF, hFq, hG, hB⟩ := h.out
  exact ⟨F, Fq, hs.mono hN, hq, hF, hFq, hG, hB⟩

theorem Both.facts (h : Both w0 G g q Ss Sq N w) : 1 ≤ Ss.length ∧ Ss.length ≤ 64 ∧ ∀ l ∈ Ss, l.length ≤ 256 := by
  obtain ⟨F, Fq, hs, hq, _⟩ := h.out
  refine ⟨hs.len.1, hs.len.2, ?_⟩
  obtain ⟨mp, lv, fv, vs, hs⟩ := hs
  exact hs.many

/-- a block that was laid just now is another's -/
theorem Both.box (h : Both w0 (fun _ => False) g q Ss Sq N w) (o : Obj) : Both w0 (fun b => b = w.heap.size) g q Ss Sq N (w.alloc o) := by
  obtain ⟨F, Fq, hs, hq, hF, hFq, hG, hB⟩ := h.out
  have hb := below_alloc (Below.refl w.heap.size w) o
  refine ⟨F, Fq, hs.keep (fun b hb' => hb.block b (hs.lt b hb')) hb.size, hq.keep (fun b hb' => hb.block b (hq.lt b hb')) hb.size, fun b hb' => ⟨(hF b hb').1, fun e => by have := hs.lt b hb'; omega, (hF b hb').2.2⟩, fun b hb' => ⟨(hFq b hb').1, fun e => by have := hq.lt b hb'; omega⟩, fun b e => by rw [e]; simp, hB.alloc hB.size o⟩

theorem Both.drop (h : Both w0 G g q Ss Sq N w) : Both w0 (fun _ => False) g q Ss Sq N w := by
  obtain ⟨F, Fq, hs, hq, hF, hFq, hG, hB⟩ := h.out
  exact ⟨F, Fq, hs, hq, fun b hb => ⟨(hF b hb).1, fun e => e, (hF b hb).2.2⟩, fun b hb => ⟨(hFq b hb).1, fun e => e⟩, fun b e => e.elim, hB⟩

theorem Bs_depth (h : Both w0 G g q Ss Sq N w) : Calls Try.prog 10 #[.pointer (some ⟨g, 0, none⟩)] w fun e w' => e = .returned (.int .i64 ((Ss.length : Int) - 1)) ∧ w' = w := by
  obtain ⟨F, Fq, hs, _⟩ := h.out
  exact S_depth hs
theorem Bq_depth (h : Both w0 G g q St St N w) : Calls Try.prog 21 #[.pointer (some ⟨q, 0, none⟩)] w fun e w' => e = .returned (.int .i64 ((St.length : Int) - 1)) ∧ w' = w := by
  have hf := h.facts
  obtain ⟨F, Fq, hs, hq, _⟩ := h.out
  exact R_depth hq hf.2.1
theorem Bs_find (h : Both w0 G g q Ss Sq N w) (s : ByteArray) (hz : s.size ≤ maxLen) : Calls Try.prog 13 #[.pointer (some ⟨g, 0, none⟩), .string s] w fun e w' => e = .returned (findV (find Ss s)) ∧ w' = w := by
  obtain ⟨F, Fq, hs, _⟩ := h.out
  exact S_find hs s hz
theorem Bq_find (h : Both w0 G g q St St N w) (s : ByteArray) : Calls Try.prog 20 #[.pointer (some ⟨q, 0, none⟩), .string s] w fun e w' => e = .returned (findV (find St s)) ∧ Both w0 G g q St St N w' ∧ Others G w w' := by
  have hf := h.facts
  have h0 := h
  obtain ⟨F, Fq, hs, hq, _⟩ := h.out
  refine (R_find hq hf.2.1 hf.2.2 s).mono ?_
  rintro e w' ⟨rfl, d⟩
  exact ⟨rfl, h0.on (drawn_kp d)⟩
theorem Bs_open (h : Both w0 G g q Ss Sq N w) : Calls Try.prog 12 #[.pointer (some ⟨g, 0, none⟩)] w fun e w' => e = .returned (.int .i64 (if Ss.length < 64 then 0 else 4)) ∧ Both w0 G g q (if Ss.length < 64 then Ss ++ [[]] else Ss) Sq N w' ∧ Others G w w' := by
  obtain ⟨F, Fq, hs, hq, hF, hFq, hG, hB⟩ := h.out
  refine (S_open hs).mono ?_
  rintro e w' ⟨rfl, h', hk⟩
  exact ⟨rfl, Both.stepS hs hq hF hFq hG hB h' hk⟩
theorem Bq_open (h : Both w0 G g q Ss Sq N w) (hd : Sq.length ≤ 64) : Calls Try.prog 15 #[.pointer (some ⟨q, 0, none⟩)] w fun e w' => e = .returned (.int .i64 (if Sq.length < 64 then 0 else 4)) ∧ Both w0 G g q Ss (if Sq.length < 64 then Sq ++ [[]] else Sq) N w' ∧ Others G w w' := by
  obtain ⟨F, Fq, hs, hq, hF, hFq, hG, hB⟩ := h.out
  refine (R_open hq hd).mono ?_
  rintro e w' ⟨rfl, h', hk⟩
  exact ⟨rfl, Both.stepQ hs hq hF hFq hG hB h' hk⟩
theorem Bs_close (h : Both w0 G g q (T ++ [l]) Sq N w) : Calls Try.prog 16 #[.pointer (some ⟨g, 0, none⟩)] w fun e w' => e = .returned (.bool (decide (T ≠ []))) ∧ Both w0 G g q (if T = [] then T ++ [l] else T) Sq N w' ∧ Others G w w' := by
  obtain ⟨F, Fq, hs, hq, hF, hFq, hG, hB⟩ := h.out
  refine (S_close hs).mono ?_
  rintro e w' ⟨rfl, h', hk⟩
  exact ⟨rfl, Both.stepS hs hq hF hFq hG hB h' hk⟩
theorem Bq_close (h : Both w0 G g q Ss (T ++ [l]) N w) (hd : T.length < 64) : Calls Try.prog 17 #[.pointer (some ⟨q, 0, none⟩)] w fun e w' => e = .returned (.bool (decide (T ≠ []))) ∧ Both w0 G g q Ss (if T = [] then T ++ [l] else T) N w' ∧ Others G w w' := by
  obtain ⟨F, Fq, hs, hq, hF, hFq, hG, hB⟩ := h.out
  refine (R_close hq hd).mono ?_
  rintro e w' ⟨rfl, h', hk⟩
  exact ⟨rfl, Both.stepQ hs hq hF hFq hG hB h' hk⟩
theorem Bs_decl (h : Both w0 G g q (T ++ [l]) Sq N w) (s : ByteArray) (x : Int) (hz : s.size ≤ maxLen) (hx : (Lit.int .i64 x).wf = true) (hN : N < maxLen) : Calls Try.prog 9 #[.pointer (some ⟨g, 0, none⟩), .string s, .int .i64 x] w fun e w' => e = .returned (.int .i64 (declC l s)) ∧ Both w0 G g q (T ++ [declL l s x]) Sq (N + 1) w' ∧ Others G w w' := by
  obtain ⟨F, Fq, hs, hq, hF, hFq, hG, hB⟩ := h.out
  refine (S_decl hs s x hz hx hN).mono ?_
  rintro e w' ⟨rfl, h', hk⟩
  exact ⟨rfl, Both.stepS hs hq hF hFq hG hB h' hk⟩
theorem Bq_decl (h : Both w0 G g q Ss (T ++ [l]) N w) (hd : T.length < 64) (hm : l.length ≤ 256) (s : ByteArray) (x : Int) : Calls Try.prog 18 #[.pointer (some ⟨q, 0, none⟩), .string s, .int .i64 x] w fun e w' => e = .returned (.int .i64 (declC l s)) ∧ Both w0 G g q Ss (T ++ [declL l s x]) N w' ∧ Others G w w' := by
  obtain ⟨F, Fq, hs, hq, hF, hFq, hG, hB⟩ := h.out
  refine (R_decl hq hd hm s x).mono ?_
  rintro e w' ⟨rfl, h', hk⟩
  exact ⟨rfl, Both.stepQ hs hq hF hFq hG hB h' hk⟩
theorem Bs_here (h : Both w0 G g q (T ++ [l]) Sq N w) : Calls Try.prog 23 #[.pointer (some ⟨g, 0, none⟩)] w fun e w' => HereIs w w' e l := by
  obtain ⟨F, Fq, hs, _⟩ := h.out
  exact S_here hs
theorem Bq_here (h : Both w0 G g q (T ++ [l]) (T ++ [l]) N w) : Calls Try.prog 24 #[.pointer (some ⟨q, 0, none⟩)] w fun e w' => HereIs w w' e l := by
  have hf := h.facts
  obtain ⟨F, Fq, hs, hq, _⟩ := h.out
  exact R_here hq (by have := hf.2.1; simp at this; omega) (hf.2.2 l (by simp))

theorem Both.start {v : World} (h : SAt v (fun b => b = w.heap.size) w.heap.size [[]] 0) (hb : Below w.heap.size w v) {u : World} {q : Nat} (hq : RAt u (fun b => v.heap.size ≤ b ∧ b < u.heap.size) q [[]]) (hb2 : Below v.heap.size v u) :
    Both w (fun _ => False) w.heap.size q [[]] [[]] 0 u := by
  refine ⟨_, _, h.keep (fun b hb' => hb2.block b (h.lt b hb')) hb2.size, hq, fun b e => ⟨by omega, fun e => e, fun e2 => ?_⟩, fun b e => ⟨Nat.le_trans hb.size e.1, fun e => e⟩, fun b e => e.elim, hb.trans (hb2.mono hb.size)⟩
  have := h.lt b e
  omega
end
end Go.Proofs.Ytchkimmhallckaa.Sc
