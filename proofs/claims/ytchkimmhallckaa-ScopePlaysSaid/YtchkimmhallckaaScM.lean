import Derived.Test.YtchkimmhallckaaScL
namespace Go.Proofs.Ytchkimmhallckaa.Sc
open Go.RowKit Go.Maps Go.WideMaps Go.Proofs.Ytchkimmhallckaa
open Go.Proofs.YtchkimmhallckaaW.PrintWords Go.Proofs.YtchkimmhallckaaW.PrintLast Go.Proofs.YtchkimmhallckaaW.PrintMore
set_option linter.unusedVariables false
set_option linter.unusedSimpArgs false

/-! THE SIX METHODS, over the state alone -/
section
variable {w w' w1 : World} {F : Nat → Prop} {g : Nat} {St T : List Lvl} {l : Lvl} {N : Nat}

theorem SAt.lt (h : SAt w F g St N) : ∀ b, F b → b < w.heap.size := by
  obtain ⟨mp, lv, fv, vs, h⟩ := h
  exact h.lt

theorem SAt.wider {F' : Nat → Prop} (h : SAt w F g St N) (hF : ∀ b, F b → F' b) (hl : ∀ b, F' b → b < w.heap.size) : SAt w F' g St N := by
  obtain ⟨mp, lv, fv, vs, h⟩ := h
  exact ⟨mp, lv, fv, vs, h.wider hF hl⟩

theorem SAt.mono (h : SAt w F g St N) {N' : Nat} (hN : N ≤ N') : SAt w F g St N' := by
  obtain ⟨mp, lv, fv, vs, h⟩ := h
  exact ⟨mp, lv, fv, vs, ⟨h.cells, h.map.mono hN, h.lists, h.len, h.row, h.sep, h.inG, h.inM, h.inL, h.inR, h.lt, h.deep, h.many, h.short⟩⟩

theorem SAt.ext (h : SAt w F g St N) (hk : Below w.heap.size w w') : SAt w' (Ext F w w') g St N :=
  (h.keep (fun b hb => hk.block b (h.lt b hb)) hk.size).wider (fun b hb => .inl hb) (Ext.lt h.lt hk.size)

theorem SAt.len (h : SAt w F g St N) : 1 ≤ St.length ∧ St.length ≤ 64 := by
  obtain ⟨mp, lv, fv, vs, h⟩ := h
  have := h.len
  have := h.deep
  omega

theorem S_depth (h : SAt w F g St N) : Calls Try.prog 10 #[.pointer (some ⟨g, 0, none⟩)] w fun e w' => e = .returned (.int .i64 ((St.length : Int) - 1)) ∧ w' = w := by
  obtain ⟨mp, lv, fv, vs, h⟩ := h
  refine (depth_calls h).mono ?_
  rintro e w' ⟨rfl, rfl⟩
  have := h.len
  exact ⟨by congr 2; omega, rfl⟩

theorem S_find (h : SAt w F g St N) (s : ByteArray) (hs : s.size ≤ maxLen) : Calls Try.prog 13 #[.pointer (some ⟨g, 0, none⟩), .string s] w fun e w' => e = .returned (findV (find St s)) ∧ w' = w := by
  obtain ⟨mp, lv, fv, vs, h⟩ := h
  exact find_calls h s hs

theorem S_here (h : SAt w F g (T ++ [l]) N) : Calls Try.prog 23 #[.pointer (some ⟨g, 0, none⟩)] w fun e w' => HereIs w w' e l := by
  obtain ⟨mp, lv, fv, vs, h⟩ := h
  exact Here_calls h

theorem S_open (h : SAt w F g St N) : Calls Try.prog 12 #[.pointer (some ⟨g, 0, none⟩)] w fun e w' => e = .returned (.int .i64 (if St.length < 64 then 0 else 4)) ∧ SAt w' (Ext F w w') g (if St.length < 64 then St ++ [[]] else St) N ∧ Kp F w w' := by
  obtain ⟨mp, lv, fv, vs, h⟩ := h
  by_cases hd : St.length < 64
  · refine (open_more h hd).mono ?_
    rintro e w' ⟨rfl, ⟨lv', vs', h'⟩, hk⟩
    rw [if_pos hd, if_pos hd]
    exact ⟨rfl, ⟨mp, lv', fv, vs', h'.extM fun a b => (ofSt_open a b St).symm⟩, hk⟩
  · refine (open_deep h hd).mono ?_
    rintro e w' ⟨rfl, rfl⟩
    rw [if_neg hd, if_neg hd]
    exact ⟨rfl, ⟨mp, lv, fv, vs, h.same fun b => Ext_self.symm⟩, Kp.refl _ _⟩

theorem S_close (h : SAt w F g (T ++ [l]) N) : Calls Try.prog 16 #[.pointer (some ⟨g, 0, none⟩)] w fun e w' => e = .returned (.bool (decide (T ≠ []))) ∧ SAt w' (Ext F w w') g (if T = [] then T ++ [l] else T) N ∧ Kp F w w' := by
  obtain ⟨mp, lv, fv, vs, h⟩ := h
  rcases snoc_cases vs with rfl | ⟨us, u, rfl⟩
  · obtain rfl := one_level h
    refine (close_no h).mono ?_
    rintro e w' ⟨rfl, rfl⟩
    exact ⟨rfl, ⟨mp, lv, fv, [], h.same fun b => Ext_self.symm⟩, Kp.refl _ _⟩
  · have hT : T ≠ [] := by
      rintro rfl
      have := h.len
      simp at this
    obtain ⟨gl, cap, rfl⟩ := lists_shape h
    refine (close_yes h).mono ?_
    rintro e w' ⟨rfl, h', hk⟩
    rw [if_neg hT]
    exact ⟨by simp [hT], ⟨mp, _, fv, us, h'.wider (fun b hb => .inl hb) (Ext.lt h.lt hk.size)⟩, hk⟩

/-- what Declare answers, and what it leaves -/
def declC (l : Lvl) (s : ByteArray) : Int := if isName s = false then 150 else if (lk l s).isSome then 151 else if l.length = 256 then 3 else 0
def declL (l : Lvl) (s : ByteArray) (x : Int) : Lvl := if declC l s = 0 then l ++ [(s, x)] else l

theorem S_decl (h : SAt w F g (T ++ [l]) N) (s : ByteArray) (x : Int) (hs : s.size ≤ maxLen) (hx : (Lit.int .i64 x).wf = true) (hN : N < maxLen) :
    Calls Try.prog 9 #[.pointer (some ⟨g, 0, none⟩), .string s, .int .i64 x] w fun e w' => e = .returned (.int .i64 (declC l s)) ∧ SAt w' (Ext F w w') g (T ++ [declL l s x]) (N + 1) ∧ Kp F w w' := by
  have h0 := h
  obtain ⟨mp, lv, fv, vs, h⟩ := h
  cases hn : isName s with
  | false =>
    refine (declare_noName h s x (by rw [← hn]; exact isName_is s)).mono ?_
    rintro e w' ⟨rfl, d⟩
    have hb : Below w.heap.size w w' := by
      obtain ⟨n, rfl⟩ := d
      exact ⟨rfl, rfl, rfl, Nat.le_refl _, fun _ _ => rfl⟩
    have e1 : declC l s = 150 := by simp [declC, hn]
    have e2 : declL l s x = l := by simp [declL, e1]
    rw [e1, e2]
    exact ⟨rfl, (h0.ext hb).mono (by omega), Kp.ofBelow hb⟩
  | true =>
    have hnm : IsName s true := by rw [← hn]; exact isName_is s
    cases hl : lk l s with
    | some v =>
      refine (declare_twice h s x v hnm hs hl).mono ?_
      rintro e w' ⟨rfl, _, hb⟩
      have e1 : declC l s = 151 := by simp [declC, hn, hl]
      have e2 : declL l s x = l := by simp [declL, e1]
      rw [e1, e2]
      exact ⟨rfl, (h0.ext hb).mono (by omega), Kp.ofBelow hb⟩
    | none =>
      by_cases hm : l.length = 256
      · refine (declare_many h s x hnm hs hl hm).mono ?_
        rintro e w' ⟨rfl, _, hb⟩
        have e1 : declC l s = 3 := by simp [declC, hn, hl, hm]
        have e2 : declL l s x = l := by simp [declL, e1]
        rw [e1, e2]
        exact ⟨rfl, (h0.ext hb).mono (by omega), Kp.ofBelow hb⟩
      · have hm2 : l.length < 256 := by have := h.many l (by simp); omega
        have e1 : declC l s = 0 := by simp [declC, hn, hl, hm]
        have e2 : declL l s x = l ++ [(s, x)] := by simp [declL, e1]
        rw [e1, e2]
        obtain ⟨mb, rfl⟩ := h.map.isMapV
        cases mb with
        | none =>
          refine (declare_new h s x hx hnm (isName_short hn) hl hm2 hN).mono ?_
          rintro e w' ⟨rfl, ⟨mb, fv', vs', h'⟩, hk⟩
          exact ⟨rfl, ⟨_, lv, fv', vs', h'⟩, hk⟩
        | some mb =>
          refine (declare_old h s x hx hnm (isName_short hn) hl hm2 hN).mono ?_
          rintro e w' ⟨rfl, ⟨fv', vs', h'⟩, hk⟩
          exact ⟨rfl, ⟨_, lv, fv', vs', h'⟩, hk⟩
end

/-! THE SAME, with what the state lies in hidden; G: the blocks of others that are to be kept -/
structure One (w0 : World) (G : Nat → Prop) (g : Nat) (St : List Lvl) (N : Nat) (w : World) : Prop where
  mk ::
  out : ∃ F, SAt w F g St N ∧ (∀ b, F b → w0.heap.size ≤ b ∧ ¬ G b) ∧ (∀ b, G b → b < w.heap.size) ∧ Below w0.heap.size w0 w

/-- others' blocks are as they were -/
def Others (G : Nat → Prop) (w w' : World) : Prop := ∀ b, G b → w'.heap[b]? = w.heap[b]?

section
variable {w0 w w' w1 : World} {G : Nat → Prop} {g : Nat} {St St' T : List Lvl} {l : Lvl} {N N' : Nat}

theorem One.step {F : Nat → Prop} (h : SAt w F g St N) (hF : ∀ b, F b → w0.heap.size ≤ b ∧ ¬ G b) (hG : ∀ b, G b → b < w.heap.size) (hB : Below w0.heap.size w0 w) (h' : SAt w' (Ext F w w') g St' N') (hk : Kp F w w') :
    One w0 G g St' N' w' ∧ Others G w w' := by
  refine ⟨⟨_, h', ?_, fun b hb => Nat.lt_of_lt_of_le (hG b hb) hk.size, hk.below hB hB.size (fun b hb => (hF b hb).1)⟩, fun b hb => hk.block b (hG b hb) (fun e => (hF b e).2 hb)⟩
  intro b hb
  rcases hb with hb | ⟨q1, q2⟩
  · exact hF b hb
  · exact ⟨Nat.le_trans hB.size q1, fun e => by have := hG b e; omega⟩

theorem One.start (w : World) {v : World} (h : SAt v (fun b => b = w.heap.size) w.heap.size [[]] 0) (hb : Below w.heap.size w v) : One w (fun _ => False) w.heap.size [[]] 0 v :=
  ⟨_, h, fun b e => ⟨by omega, fun e => e⟩, fun b e => e.elim, hb⟩

theorem One.below (h : One w0 G g St N w) : Below w0.heap.size w0 w := by
  obtain ⟨F, _, _, _, hB⟩ := h.out
  exact hB

theorem One.on (h : One w0 G g St N w) (hb : Below w.heap.size w w') : One w0 G g St N w' ∧ Others G w w' := by
  obtain ⟨F, h, hF, hG, hB⟩ := h.out
  exact One.step h hF hG hB (h.ext hb) (Kp.ofBelow hb)

theorem One.mono (h : One w0 G g St N w) (hN : N ≤ N') : One w0 G g St N' w := by
  obtain ⟨F, h, hF, hG, hB⟩ := h.out
  exact ⟨F, h.mono hN, hF, hG, hB⟩

theorem One.len (h : One w0 G g St N w) : 1 ≤ St.length ∧ St.length ≤ 64 := by
  obtain ⟨F, h, _⟩ := h.out
  exact h.len

theorem O_depth (h : One w0 G g St N w) : Calls Try.prog 10 #[.pointer (some ⟨g, 0, none⟩)] w fun e w' => e = .returned (.int .i64 ((St.length : Int) - 1)) ∧ w' = w := by
  obtain ⟨F, h, _⟩ := h.out
  exact S_depth h

theorem O_find (h : One w0 G g St N w) (s : ByteArray) (hs : s.size ≤ maxLen) : Calls Try.prog 13 #[.pointer (some ⟨g, 0, none⟩), .string s] w fun e w' => e = .returned (findV (find St s)) ∧ w' = w := by
  obtain ⟨F, h, _⟩ := h.out
  exact S_find h s hs

theorem O_here (h : One w0 G g (T ++ [l]) N w) : Calls Try.prog 23 #[.pointer (some ⟨g, 0, none⟩)] w fun e w' => HereIs w w' e l ∧ One w0 G g (T ++ [l]) N w' ∧ Others G w w' := by
  obtain ⟨F, h2, _⟩ := h.out
  refine (S_here h2).mono ?_
  intro e w' he
  have hb : Below w.heap.size w w' := by
    obtain ⟨A, C, _, _, _, hb⟩ := he
    exact hb
  exact ⟨he, h.on hb⟩

theorem O_open (h : One w0 G g St N w) : Calls Try.prog 12 #[.pointer (some ⟨g, 0, none⟩)] w fun e w' => e = .returned (.int .i64 (if St.length < 64 then 0 else 4)) ∧ One w0 G g (if St.length < 64 then St ++ [[]] else St) N w' ∧ Others G w w' := by
  obtain ⟨F, h, hF, hG, hB⟩ := h.out
  refine (S_open h).mono ?_
  rintro e w' ⟨rfl, h', hk⟩
  exact ⟨rfl, One.step h hF hG hB h' hk⟩

theorem O_close (h : One w0 G g (T ++ [l]) N w) : Calls Try.prog 16 #[.pointer (some ⟨g, 0, none⟩)] w fun e w' => e = .returned (.bool (decide (T ≠ []))) ∧ One w0 G g (if T = [] then T ++ [l] else T) N w' ∧ Others G w w' := by
  obtain ⟨F, h, hF, hG, hB⟩ := h.out
  refine (S_close h).mono ?_
  rintro e w' ⟨rfl, h', hk⟩
  exact ⟨rfl, One.step h hF hG hB h' hk⟩

theorem O_decl (h : One w0 G g (T ++ [l]) N w) (s : ByteArray) (x : Int) (hs : s.size ≤ maxLen) (hx : (Lit.int .i64 x).wf = true) (hN : N < maxLen) :
    Calls Try.prog 9 #[.pointer (some ⟨g, 0, none⟩), .string s, .int .i64 x] w fun e w' => e = .returned (.int .i64 (declC l s)) ∧ One w0 G g (T ++ [declL l s x]) (N + 1) w' ∧ Others G w w' := by
  obtain ⟨F, h, hF, hG, hB⟩ := h.out
  refine (S_decl h s x hs hx hN).mono ?_
  rintro e w' ⟨rfl, h', hk⟩
  exact ⟨rfl, One.step h hF hG hB h' hk⟩
end

theorem findV_some (a : Int) (b : Nat) : findV (some (a, b)) = .tuple #[.int .i64 a, .int .i64 (b : Int), .bool true] := rfl
theorem findV_none : findV none = .tuple #[.int .i64 0, .int .i64 0, .bool false] := rfl

/-! wakes -/
def X : ByteArray := { data := #[120] }
theorem nX : isName X = true := by decide +kernel

set_option maxHeartbeats 1000000 in
theorem wakes_calls (w : World) : Calls Try.prog 11 #[] w fun e w' => e = .returned (.bool true) ∧ Below w.heap.size w w' := by
  have z1 : X.size ≤ maxLen := by decide
  have d0 : declC [] X = 0 := by decide +kernel
  have d1 (v : Int) : declL [] X v = [(X, v)] := by simp [declL, d0]
  have f1 : find [[(X, 1)], [(X, 2)]] X = some (2, 1) := by decide +kernel
  have f2 : find [[(X, 1)]] X = some (1, 0) := by decide +kernel
  go_enter Try.func11, Try.ntmps11
  go_wp2_with fail
  refine (new_calls w).mono ?_
  rintro e w1 ⟨rfl, h1, b1⟩
  have o1 := One.start w h1 b1
  go_wp2_with fail
  refine (O_decl (T := []) (l := []) o1 X 1 z1 (by decide) (by decide)).mono ?_
  rintro e w2 ⟨rfl, o2, _⟩
  rw [d0]
  rw [d1] at o2
  go_wp2_with fail
  refine (O_open o2).mono ?_
  rintro e w3 ⟨rfl, o3, _⟩
  go_wp2_with fail
  refine (O_decl (T := [[(X, 1)]]) (l := []) o3 X 2 z1 (by decide) (by decide)).mono ?_
  rintro e w4 ⟨rfl, o4, _⟩
  rw [d0]
  rw [d1] at o4
  go_wp2_with fail
  refine (O_find o4 X z1).mono ?_
  rintro e w5 ⟨rfl, rfl⟩
  rw [show find ([[(X, 1)]] ++ [[(X, 2)]]) X = some (2, 1) from f1, findV_some]
  go_wp2_with fail
  refine (O_close o4).mono ?_
  rintro e w6 ⟨rfl, o6, _⟩
  rw [show decide ([[(X, (1 : Int))]] ≠ ([] : List Lvl)) = true by rfl]
  go_wp2_with fail
  refine (O_find o6 X z1).mono ?_
  rintro e w7 ⟨rfl, rfl⟩
  rw [show find (if [[(X, (1 : Int))]] = ([] : List Lvl) then [[(X, (1 : Int))]] ++ [[(X, 2)]] else [[(X, 1)]]) X = some (1, 0) from f2, findV_some]
  go_wp2
  go_ret
  exact ⟨rfl, o6.below⟩
end Go.Proofs.Ytchkimmhallckaa.Sc
