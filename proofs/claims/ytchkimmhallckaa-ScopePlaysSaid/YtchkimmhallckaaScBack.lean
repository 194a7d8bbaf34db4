import Derived.Test.YtchkimmhallckaaScM
namespace Go.Proofs.Ytchkimmhallckaa.Sc
open Go.RowKit Go.Maps Go.WideMaps Go.Proofs.Ytchkimmhallckaa
open Go.Proofs.YtchkimmhallckaaW.PrintWords Go.Proofs.YtchkimmhallckaaW.PrintLast Go.Proofs.YtchkimmhallckaaW.PrintMore
set_option linter.unusedVariables false
set_option linter.unusedSimpArgs false

theorem strAt {w : World} {A : Option Addr} {l : List ByteArray} (h : Kd.C Kd.string w A l.length l) (hn : 0 < l.length) : ∃ ad, A = some ad ∧ ∀ (j : Nat) (hj : j < l.length), w.cell? (ad.add j) = some (.string l[j]) := by
  obtain ⟨ad, hA, hc⟩ := h.2.2 hn
  refine ⟨ad, hA, fun j hj => ?_⟩
  obtain ⟨c, h1, h2, h3⟩ := hc j l[j] (List.getElem?_eq_getElem hj)
  have h4 : c = [.string l[j]] := h2
  subst h4
  have h5 := h3 0 _ rfl
  rw [show j * Kd.string.sz + 0 = j from Nat.mul_one j] at h5
  exact h5

/-- names declared one behind the other, each standing for a number -/
def declAll (f : Nat → Int) (xs : List ByteArray) : Nat → Lvl
  | 0 => []
  | j + 1 => declL (declAll f xs j) (xs.getD j ByteArray.empty) (f j)

theorem declAll_next {f : Nat → Int} {xs : List ByteArray} {j : Nat} (hj : j < xs.length) : declL (declAll f xs j) xs[j] (f j) = declAll f xs (j + 1) := by
  simp [declAll, List.getD_eq_getElem?_getD, List.getElem?_eq_getElem hj]

theorem info3 : (Try.prog.info? 3).map (fun i => (i.zero, i.size, i.bytes)) = some (some (.int .i64 0), 1, 8) := by kernel_rfl

def ints (xs : List Int) : List Value := xs.map (Value.int .i64)
theorem ints_snoc (xs : List Int) (x : Int) : ints (xs ++ [x]) = ints xs ++ [.int .i64 x] := by simp [ints]
theorem ints_at {xs : List Int} {j : Nat} (hj : j < xs.length) : (ints xs)[j]? = some (.int .i64 xs[j]) := by simp [ints, List.getElem?_eq_getElem hj]

/-- the state, and two rows of numbers beside it -/
structure Two (w0 : World) (g : Nat) (St : List Lvl) (N : Nat) (v6 v7 : Value) (xs ys : List Int) (w : World) : Prop where
  mk ::
  out : ∃ F, SAt w F g St N ∧ (∀ b, F b → w0.heap.size ≤ b) ∧ Below w0.heap.size w0 w ∧ w.ownsRow 0 3 1 v6 xs.length (ints xs) ∧ w.ownsRow 0 3 1 v7 ys.length (ints ys) ∧
    (∀ b, v6.ownBlock = some b → w0.heap.size ≤ b ∧ ¬ F b) ∧ (∀ b, v7.ownBlock = some b → w0.heap.size ≤ b ∧ ¬ F b) ∧ (∀ b, v6.ownBlock = some b → v7.ownBlock ≠ some b)

section
variable {w0 w w' w1 : World} {g : Nat} {St T : List Lvl} {l : Lvl} {N : Nat} {v6 v7 v8 v' : Value} {xs ys : List Int} {x : Int} {G : Nat → Prop}

theorem Two.start (h : One w0 (fun _ => False) g St N w) : Two w0 g St N (.slice none 0 0) (.slice none 0 0) [] [] w := by
  obtain ⟨F, h, hF, _, hB⟩ := h.out
  exact ⟨F, h, fun b hb => (hF b hb).1, hB, World.ownsRow_nil _ _ _ _, World.ownsRow_nil _ _ _ _, fun b e => (nomatch e), fun b e => (nomatch e), fun b e => (nomatch e)⟩

theorem Two.row6 (h : Two w0 g St N v6 v7 xs ys w) : w.ownsRow 0 3 1 v6 xs.length (ints xs) := by
  obtain ⟨F, _, _, _, h6, _⟩ := h.out
  exact h6
theorem Two.row7 (h : Two w0 g St N v6 v7 xs ys w) : w.ownsRow 0 3 1 v7 ys.length (ints ys) := by
  obtain ⟨F, _, _, _, _, h7, _⟩ := h.out
  exact h7
theorem Two.below (h : Two w0 g St N v6 v7 xs ys w) : Below w0.heap.size w0 w := by
  obtain ⟨F, _, _, hB, _⟩ := h.out
  exact hB
theorem Two.find (h : Two w0 g St N v6 v7 xs ys w) (s : ByteArray) (hs : s.size ≤ maxLen) : Calls Try.prog 13 #[.pointer (some ⟨g, 0, none⟩), .string s] w fun e w' => e = .returned (findV (find St s)) ∧ w' = w := by
  obtain ⟨F, h, _⟩ := h.out
  exact S_find h s hs

theorem Two.app6 (h : Two w0 g St N v6 v7 xs ys w) (hg : w.grownBy w1 v6.ownBlock) (ho : w1.ownsRow 0 3 1 v' (xs.length + 1) (ints xs ++ [.int .i64 x])) (hat : ∀ k, v'.ownBlock = some k → v6.ownBlock = some k ∨ w.heap.size ≤ k) :
    Two w0 g St N v' v7 (xs ++ [x]) ys w1 := by
  obtain ⟨F, hS, hF, hB, h6, h7, d6, d7, d67⟩ := h.out
  have hb1 : Below w0.heap.size w0 w1 := hB.grown hg hB.size (fun k e => (d6 k e).1)
  refine ⟨F, hS.keep (fun b hb => hg.block b (hS.lt b hb) (fun e => (d6 b e.symm).2 hb)) hg.size, hF, hb1, by rw [ints_snoc]; simpa using ho, own_keep h7 (fun b e => hg.block b (own_lt h7 b e) (fun e' => d67 b e'.symm e)), fun b e => ?_, d7, fun b e e' => ?_⟩
  · rcases hat b e with e' | e'
    · exact d6 b e'
    · exact ⟨Nat.le_trans hB.size e', fun hb => by have := hS.lt b hb; omega⟩
  · rcases hat b e with e'' | e''
    · exact d67 b e'' e'
    · have := own_lt h7 b e'
      omega

theorem Two.app7 (h : Two w0 g St N v6 v7 xs ys w) (hg : w.grownBy w1 v7.ownBlock) (ho : w1.ownsRow 0 3 1 v' (ys.length + 1) (ints ys ++ [.int .i64 x])) (hat : ∀ k, v'.ownBlock = some k → v7.ownBlock = some k ∨ w.heap.size ≤ k) :
    Two w0 g St N v6 v' xs (ys ++ [x]) w1 := by
  obtain ⟨F, hS, hF, hB, h6, h7, d6, d7, d67⟩ := h.out
  have hb1 : Below w0.heap.size w0 w1 := hB.grown hg hB.size (fun k e => (d7 k e).1)
  refine ⟨F, hS.keep (fun b hb => hg.block b (hS.lt b hb) (fun e => (d7 b e.symm).2 hb)) hg.size, hF, hb1, own_keep h6 (fun b e => hg.block b (own_lt h6 b e) (fun e' => d67 b e e'.symm)), by rw [ints_snoc]; simpa using ho, d6, fun b e => ?_, fun b e e' => ?_⟩
  · rcases hat b e with e' | e'
    · exact d7 b e'
    · exact ⟨Nat.le_trans hB.size e', fun hb => by have := hS.lt b hb; omega⟩
  · rcases hat b e' with e'' | e''
    · exact d67 b e e''
    · have := own_lt h6 b e
      omega

/-- the blocks of three rows -/
def Own3 (v6 v7 v8 : Value) (b : Nat) : Prop := v6.ownBlock = some b ∨ v7.ownBlock = some b ∨ v8.ownBlock = some b

/-- the state, and three rows beside it, that are not written any more -/
structure Three (w0 : World) (g : Nat) (St : List Lvl) (N : Nat) (v6 v7 v8 : Value) (xs ys : List Int) (l : Lvl) (w : World) : Prop where
  one : One w0 (Own3 v6 v7 v8) g St N w
  r6 : w.ownsRow 0 3 1 v6 xs.length (ints xs)
  r7 : w.ownsRow 0 3 1 v7 ys.length (ints ys)
  r8 : w.ownsRow 0 9 1 v8 l.length (names l)

theorem Three.on {St' : List Lvl} {N' : Nat} (h : Three w0 g St N v6 v7 v8 xs ys l w) (o : One w0 (Own3 v6 v7 v8) g St' N' w' ∧ Others (Own3 v6 v7 v8) w w') : Three w0 g St' N' v6 v7 v8 xs ys l w' :=
  ⟨o.1, own_keep h.r6 (fun b e => o.2 b (.inl e)), own_keep h.r7 (fun b e => o.2 b (.inr (.inl e))), own_keep h.r8 (fun b e => o.2 b (.inr (.inr e)))⟩

theorem Two.here (h : Two w0 g (T ++ [l]) N v6 v7 xs ys w) : Calls Try.prog 23 #[.pointer (some ⟨g, 0, none⟩)] w fun e w' => ∃ A C, e = .returned (.slice A l.length C) ∧ Three w0 g (T ++ [l]) N v6 v7 (.slice A l.length C) xs ys l w' := by
  obtain ⟨F, hS, hF, hB, h6, h7, d6, d7, d67⟩ := h.out
  refine (S_here hS).mono ?_
  rintro e w' ⟨A, C, rfl, ho, hat, hb⟩
  have keep : ∀ b, b < w.heap.size → w'.heap[b]? = w.heap[b]? := fun b hb' => hb.block b hb'
  refine ⟨A, C, rfl, ⟨F, hS.keep (fun b hb' => keep b (hS.lt b hb')) hb.size, fun b hb' => ⟨hF b hb', fun e => ?_⟩, fun b e => ?_, hB.trans (hb.mono hB.size)⟩, own_keep h6 (fun b e => keep b (own_lt h6 b e)), own_keep h7 (fun b e => keep b (own_lt h7 b e)), ho⟩
  · rcases e with e | e | e
    · exact (d6 b e).2 hb'
    · exact (d7 b e).2 hb'
    · have := hat b e
      have := hS.lt b hb'
      omega
  · rcases e with e | e | e
    · exact Nat.lt_of_lt_of_le (own_lt h6 b e) hb.size
    · exact Nat.lt_of_lt_of_le (own_lt h7 b e) hb.size
    · exact own_lt ho b e
end

/-! Texts, of two lists that are one -/
theorem toList_inj {a b : ByteArray} (h : a.toList = b.toList) : a = b := by
  rw [ByteArray.toList_eq, ByteArray.toList_eq] at h
  exact ByteArray.ext (Array.ext' h)

theorem texts_loop (l : List ByteArray) (hl : l.length ≤ 1000) : ∀ (n i : Nat), l.length - i = n → ∃ k, PScopePlays.spinetkeep_Texts.l0 k l l (i : Int) = some true
  | 0, i, hn => ⟨1, by
      unfold PScopePlays.spinetkeep_Texts.l0
      rw [if_neg (by omega)]⟩
  | n + 1, i, hn => by
    obtain ⟨k, hk⟩ := texts_loop l hl n (i + 1) (by omega)
    refine ⟨k + 1, ?_⟩
    have e : wrap64 ((i : Int) + 1) = ((i + 1 : Nat) : Int) := by unfold wrap64; omega
    conv => lhs; unfold PScopePlays.spinetkeep_Texts.l0
    rw [if_pos (by omega), if_pos (by omega), if_pos (by omega), if_pos rfl, e]
    exact hk

theorem texts_same (l : List ByteArray) (hl : l.length ≤ 1000) : ∃ k, PScopePlays.spinetkeep_Texts.f k l l = some true := by
  obtain ⟨k, hk⟩ := texts_loop l hl _ 0 rfl
  exact ⟨k, by unfold PScopePlays.spinetkeep_Texts.f; rw [if_pos rfl]; exact hk⟩

theorem C_names {w : World} {A : Option Addr} {c : Nat} {l : Lvl} (h : w.ownsRow 0 9 1 (.slice A l.length c) l.length (names l)) : Kd.C Kd.string w A l.length (l.map (·.1)) ∧ l.length ≤ c := by
  have hc : l.length ≤ c := by
    rcases h.2 with ⟨h1, h2⟩ | ⟨g, cap, cur, h1, _, _, hn, _⟩
    · omega
    · cases h1
      exact hn
  refine ⟨⟨by simp, ?_, fun hn => ?_⟩, hc⟩
  · rcases h.2 with ⟨h1, h2⟩ | ⟨g, cap, cur, h1, _, _, hn, hm, _⟩
    · omega
    · simp only [maxLen] at hm
      omega
  · obtain ⟨ad, rfl, hcell⟩ := rowCells h hn
    refine ⟨ad, rfl, fun j p hp => ⟨[.string p], rfl, rfl, fun i u hu => ?_⟩⟩
    have hj := (List.getElem?_eq_some_iff.1 hp).1
    simp only [List.length_map] at hj
    rcases i with _ | i
    · simp at hu
      subst hu
      have := hcell j _ (names_at hj)
      rw [show j * Kd.string.sz + 0 = j from Nat.mul_one j, this]
      rw [List.getElem?_map, List.getElem?_eq_getElem hj] at hp
      simp at hp
      rw [hp]
    · simp at hu

theorem texts_calls {w : World} {A B : Option Addr} {c d : Nat} {l : Lvl} (h1 : w.ownsRow 0 9 1 (.slice A l.length c) l.length (names l)) (h2 : w.ownsRow 0 9 1 (.slice B l.length d) l.length (names l)) (hl : l.length ≤ 1000) :
    Calls Try.prog 22 #[.slice A l.length c, .slice B l.length d] w fun e w' => e = .returned (.bool true) ∧ Drawn0 w w' := by
  obtain ⟨k, hk⟩ := texts_same (l.map (·.1)) (by simpa using hl)
  obtain ⟨q1, q2⟩ := C_names h1
  obtain ⟨q3, q4⟩ := C_names h2
  have := PScopePlays.spinetkeep_Texts.calls k A c (l.map (·.1)) B d (l.map (·.1)) true w (by simpa using q1) (by simpa using q2) (by simpa using q3) (by simpa using q4) hk
  simpa using this
end Go.Proofs.Ytchkimmhallckaa.Sc
