import Derived.Test.YtchkimmhallckaaScBack
namespace Go.Proofs.Ytchkimmhallckaa.Sc
open Go.RowKit Go.Maps Go.WideMaps Go.Proofs.Ytchkimmhallckaa
open Go.Proofs.YtchkimmhallckaaW.PrintWords Go.Proofs.YtchkimmhallckaaW.PrintLast Go.Proofs.YtchkimmhallckaaW.PrintMore
set_option linter.unusedVariables false
set_option linter.unusedSimpArgs false

/-! THE REFERENCE's STATE: two lists of rows -/
def nmsL (l : Lvl) : List Value := l.map fun p => .int .i64 p.2

structure Rows (w : World) (e : TypeId) (f : Lvl → List Value) (rs : List Value) (St : List Lvl) : Prop where
  len : rs.length = St.length
  row : ∀ (i : Nat) (v : Value) (l : Lvl), rs[i]? = some v → St[i]? = some l → w.ownsRow 0 e 1 v l.length (f l)
  sep : ∀ (i j : Nat) (v v' : Value) (k : Nat), rs[i]? = some v → rs[j]? = some v' → v.ownBlock = some k → v'.ownBlock = some k → i = j

section
variable {w w' w1 : World} {e : TypeId} {f : Lvl → List Value} {rs us : List Value} {St T : List Lvl} {l l' : Lvl} {u v v' : Value}

theorem Rows.at (h : Rows w e f rs St) {i : Nat} (hv : rs[i]? = some v) : ∃ l, St[i]? = some l ∧ w.ownsRow 0 e 1 v l.length (f l) := by
  have hi := (List.getElem?_eq_some_iff.1 hv).1
  have hl : St[i]? = some (St[i]'(by have := h.len; omega)) := List.getElem?_eq_getElem _
  exact ⟨_, hl, h.row i v _ hv hl⟩

theorem Rows.lt (h : Rows w e f rs St) (hv : v ∈ rs) {b : Nat} (hb : v.ownBlock = some b) : b < w.heap.size := by
  obtain ⟨i, hi⟩ := List.getElem?_of_mem hv
  obtain ⟨l, _, ho⟩ := h.at hi
  exact own_lt ho b hb

theorem Rows.tag (h : Rows w e f rs St) (hv : v ∈ rs) {b : Nat} (hb : v.ownBlock = some b) : Tag w b = some e := by
  obtain ⟨i, hi⟩ := List.getElem?_of_mem hv
  obtain ⟨l, _, ho⟩ := h.at hi
  exact own_tag ho hb

theorem Rows.keep (h : Rows w e f rs St) (hk : ∀ v ∈ rs, ∀ b, v.ownBlock = some b → w'.heap[b]? = w.heap[b]?) : Rows w' e f rs St :=
  ⟨h.len, fun i v l hv hl => own_keep (h.row i v l hv hl) (hk v (List.mem_of_getElem? hv)), h.sep⟩

/-- blocks of this kind are as they were -/
theorem Rows.other (h : Rows w e f rs St) (hk : ∀ b, b < w.heap.size → Tag w b = some e → w'.heap[b]? = w.heap[b]?) : Rows w' e f rs St :=
  h.keep fun v hv b hb => hk b (h.lt hv hb) (h.tag hv hb)

theorem last_cases {α : Type} {us : List α} {u : α} {i : Nat} {v : α} (h : (us ++ [u])[i]? = some v) : (us[i]? = some v ∧ i < us.length) ∨ (i = us.length ∧ v = u) := by
  rw [List.getElem?_append] at h
  split at h
  · rename_i hi
    exact .inl ⟨h, hi⟩
  · rename_i hi
    have hlen := (List.getElem?_eq_some_iff.1 h).1
    simp at hlen
    have h0 : i - us.length = 0 := by omega
    rw [h0] at h
    simp at h
    exact .inr ⟨by omega, h.symm⟩

theorem Rows.snocNil (h : Rows w e f rs St) (hf : f [] = []) : Rows w e f (rs ++ [.slice none 0 0]) (St ++ [[]]) := by
  refine ⟨by simp [h.len], fun i v l hv hl => ?_, fun i j v v' k hv hv' e1 e2 => ?_⟩
  · rcases last_cases hv with ⟨hv, hi⟩ | ⟨rfl, rfl⟩
    · rcases last_cases hl with ⟨hl, _⟩ | ⟨hl, _⟩
      · exact h.row i v l hv hl
      · have := h.len
        omega
    · rcases last_cases hl with ⟨hl, hi⟩ | ⟨_, rfl⟩
      · have := h.len
        omega
      · rw [hf]
        exact World.ownsRow_nil _ _ _ _
  · rcases last_cases hv with ⟨hv, _⟩ | ⟨_, rfl⟩
    · rcases last_cases hv' with ⟨hv', _⟩ | ⟨_, rfl⟩
      · exact h.sep i j v v' k hv hv' e1 e2
      · cases e2
    · cases e1

theorem getElem?_pre {α : Type} {us : List α} {u : α} {i : Nat} {v : α} (h : us[i]? = some v) : (us ++ [u])[i]? = some v := by
  rw [List.getElem?_append_left (List.getElem?_eq_some_iff.1 h).1]
  exact h

theorem Rows.pop (h : Rows w e f (us ++ [u]) (T ++ [l])) : Rows w e f us T := by
  have := h.len
  simp at this
  exact ⟨this, fun i v l hv hl => h.row i v l (getElem?_pre hv) (getElem?_pre hl), fun i j v v' k hv hv' => h.sep i j v v' k (getElem?_pre hv) (getElem?_pre hv')⟩

theorem Rows.top (h : Rows w e f (us ++ [u]) (T ++ [l])) : w.ownsRow 0 e 1 u l.length (f l) := by
  have := h.len
  simp at this
  exact h.row us.length u l (by simp) (by rw [this]; simp)

/-- the last row turned -/
theorem Rows.turn (h : Rows w e f (us ++ [u]) (T ++ [l])) (hg : w.grownBy w1 u.ownBlock) (ho : w1.ownsRow 0 e 1 v' l'.length (f l')) (hat : ∀ k, v'.ownBlock = some k → u.ownBlock = some k ∨ w.heap.size ≤ k) :
    Rows w1 e f (us ++ [v']) (T ++ [l']) := by
  have hlen := h.len
  simp at hlen
  have hu : (us ++ [u])[us.length]? = some u := by simp
  have old : ∀ (i : Nat) (x : Value) (k : Nat), us[i]? = some x → x.ownBlock = some k → v'.ownBlock = some k → i = us.length := fun i x k hx e1 e2 => by
    rcases hat k e2 with hk | hk
    · exact h.sep i us.length x u k (getElem?_pre hx) hu e1 hk
    · have := h.lt (List.mem_append_left _ (List.mem_of_getElem? hx)) e1
      omega
  refine ⟨by simp [hlen], fun i v m hv hm => ?_, fun i j x x' k hx hx' e1 e2 => ?_⟩
  · rcases last_cases hv with ⟨hv, hi⟩ | ⟨rfl, rfl⟩
    · rcases last_cases hm with ⟨hm, _⟩ | ⟨hm, _⟩
      · have := h.row i v m (getElem?_pre hv) (getElem?_pre hm)
        exact own_keep this fun b eb => hg.block b (own_lt this b eb) (fun e' => by have := h.sep i us.length v u b (getElem?_pre hv) hu eb e'.symm; omega)
      · omega
    · rcases last_cases hm with ⟨_, hi⟩ | ⟨_, rfl⟩
      · omega
      · exact ho
  · rcases last_cases hx with ⟨hx1, hi⟩ | ⟨q1, q2⟩ <;> rcases last_cases hx' with ⟨hx2, hj⟩ | ⟨q3, q4⟩
    · exact h.sep i j x x' k (getElem?_pre hx1) (getElem?_pre hx2) e1 e2
    · rw [q3]
      exact old i x k hx1 e1 (q4 ▸ e2)
    · rw [q1]
      exact (old j x' k hx2 e2 (q2 ▸ e1)).symm
    · rw [q1, q3]
end

/-- THE STATE ON ITS WAY: w0 is the world at the call; the cells still hold cn, ci; the lists' cells rnC, riC; the values are nv, iv, rn, ri -/
structure RS (w0 : World) (F : Nat → Prop) (q : Nat) (cn ci nv iv : Value) (rnC riC rn ri : List Value) (Sn Si : List Lvl) (w : World) : Prop where
  cells : w.heap[q]? = some (.cells #[cn, ci] 59 (0, 0))
  nl : w.ownsRow 0 40 1 nv rnC.length rnC
  il : w.ownsRow 0 43 1 iv riC.length riC
  rows : Rows w 9 names rn Sn
  rowi : Rows w 3 nmsL ri Si
  kp : Kp F w0 w
  inQ : F q
  ltF : ∀ b, F b → b < w0.heap.size
  inN : ∀ b, nv.ownBlock = some b → Ext F w0 w b
  inI : ∀ b, iv.ownBlock = some b → Ext F w0 w b
  inS : ∀ v ∈ rn, ∀ b, v.ownBlock = some b → Ext F w0 w b
  inT : ∀ v ∈ ri, ∀ b, v.ownBlock = some b → Ext F w0 w b

section
variable {w0 w w1 : World} {F : Nat → Prop} {q m : Nat} {cn ci nv iv v' u : Value} {rnC riC rn ri us : List Value} {Sn Si T : List Lvl} {l l' : Lvl} {rs' : List Value}

theorem Ext.up {b : Nat} (h : Ext F w0 w b) (hs : w.heap.size ≤ w1.heap.size) : Ext F w0 w1 b := h.elim .inl (fun e => .inr ⟨e.1, Nat.lt_of_lt_of_le e.2 hs⟩)

theorem RS.tagQ (h : RS w0 F q cn ci nv iv rnC riC rn ri Sn Si w) : Tag w q = some 59 := by simp [Tag, h.cells]
theorem RS.ltQ (h : RS w0 F q cn ci nv iv rnC riC rn ri Sn Si w) : q < w.heap.size := Nat.lt_of_lt_of_le (h.ltF q h.inQ) h.kp.size
theorem RS.c0 (h : RS w0 F q cn ci nv iv rnC riC rn ri Sn Si w) : w.cell? ⟨q, 0, none⟩ = some cn := by simp [World.cell?, h.cells]
theorem RS.c1 (h : RS w0 F q cn ci nv iv rnC riC rn ri Sn Si w) : w.cell? ⟨q, 1, none⟩ = some ci := by simp [World.cell?, h.cells]
theorem RS.f (h : RS w0 F q cn ci nv iv rnC riC rn ri Sn Si w) (j : Nat) : w.frozen? ⟨q, j, none⟩ = false := frozen_of_row w q j _ 59 h.cells

theorem RS.on (h : RS w0 F q cn ci nv iv rnC riC rn ri Sn Si w) (hb : Below w.heap.size w w1) : RS w0 F q cn ci nv iv rnC riC rn ri Sn Si w1 :=
  ⟨(hb.block q h.ltQ).trans h.cells, own_keep h.nl (fun b e => hb.block b (own_lt h.nl b e)), own_keep h.il (fun b e => hb.block b (own_lt h.il b e)), h.rows.other (fun b hb' _ => hb.block b hb'), h.rowi.other (fun b hb' _ => hb.block b hb'),
    h.kp.trans (Kp.ofBelow hb), h.inQ, h.ltF, fun b e => (h.inN b e).up hb.size, fun b e => (h.inI b e).up hb.size, fun v hv b e => (h.inS v hv b e).up hb.size, fun v hv b e => (h.inT v hv b e).up hb.size⟩

/-- what grows is one list, or one row: all else is as it was -/
theorem RS.grows (h : RS w0 F q cn ci nv iv rnC riC rn ri Sn Si w) {row : Option Nat} (hg : w.grownBy w1 row) (hin : ∀ k, row = some k → Ext F w0 w k) : Kp F w0 w1 := h.kp.transExt (Kp.grown hg hin)

/-- the list of names' rows turned -/
theorem RS.setN (h : RS w0 F q cn ci nv iv rnC riC rn ri Sn Si w) (hg : w.grownBy w1 nv.ownBlock) (ho : w1.ownsRow 0 40 1 v' rs'.length rs') (hat : ∀ k, v'.ownBlock = some k → nv.ownBlock = some k ∨ w.heap.size ≤ k) :
    RS w0 F q cn ci v' iv rs' riC rn ri Sn Si w1 := by
  have hb : ∀ b, b < w.heap.size → Tag w b ≠ some 40 → w1.heap[b]? = w.heap[b]? := fun b hb ht => hg.block b hb (fun e => ht (own_tag h.nl e.symm))
  refine ⟨(hb q h.ltQ (by simp [h.tagQ])).trans h.cells, ho, own_keep h.il fun b e => hb b (own_lt h.il b e) (by simp [own_tag h.il e]), h.rows.other fun b h1 h2 => hb b h1 (by simp [h2]), h.rowi.other fun b h1 h2 => hb b h1 (by simp [h2]),
    h.grows hg h.inN, h.inQ, h.ltF, fun b e => ?_, fun b e => (h.inI b e).up hg.size, fun v hv b e => (h.inS v hv b e).up hg.size, fun v hv b e => (h.inT v hv b e).up hg.size⟩
  rcases hat b e with e' | e'
  · exact (h.inN b e').up hg.size
  · exact .inr ⟨Nat.le_trans h.kp.size e', own_lt ho b e⟩

theorem RS.setI (h : RS w0 F q cn ci nv iv rnC riC rn ri Sn Si w) (hg : w.grownBy w1 iv.ownBlock) (ho : w1.ownsRow 0 43 1 v' rs'.length rs') (hat : ∀ k, v'.ownBlock = some k → iv.ownBlock = some k ∨ w.heap.size ≤ k) :
    RS w0 F q cn ci nv v' rnC rs' rn ri Sn Si w1 := by
  have hb : ∀ b, b < w.heap.size → Tag w b ≠ some 43 → w1.heap[b]? = w.heap[b]? := fun b hb ht => hg.block b hb (fun e => ht (own_tag h.il e.symm))
  refine ⟨(hb q h.ltQ (by simp [h.tagQ])).trans h.cells, own_keep h.nl fun b e => hb b (own_lt h.nl b e) (by simp [own_tag h.nl e]), ho, h.rows.other fun b h1 h2 => hb b h1 (by simp [h2]), h.rowi.other fun b h1 h2 => hb b h1 (by simp [h2]),
    h.grows hg h.inI, h.inQ, h.ltF, fun b e => (h.inN b e).up hg.size, fun b e => ?_, fun v hv b e => (h.inS v hv b e).up hg.size, fun v hv b e => (h.inT v hv b e).up hg.size⟩
  rcases hat b e with e' | e'
  · exact (h.inI b e').up hg.size
  · exact .inr ⟨Nat.le_trans h.kp.size e', own_lt ho b e⟩

/-- .. its rows told anew -/
theorem RS.withRows {rn' ri' : List Value} {Sn' Si' : List Lvl} (h : RS w0 F q cn ci nv iv rnC riC rn ri Sn Si w) (h1 : Rows w 9 names rn' Sn') (h2 : Rows w 3 nmsL ri' Si') (h3 : ∀ v ∈ rn', ∀ b, v.ownBlock = some b → Ext F w0 w b) (h4 : ∀ v ∈ ri', ∀ b, v.ownBlock = some b → Ext F w0 w b) :
    RS w0 F q cn ci nv iv rnC riC rn' ri' Sn' Si' w := ⟨h.cells, h.nl, h.il, h1, h2, h.kp, h.inQ, h.ltF, h.inN, h.inI, h3, h4⟩

/-- the innermost row of names turned -/
theorem RS.turnN (h : RS w0 F q cn ci nv iv rnC riC (us ++ [u]) ri (T ++ [l]) Si w) (hg : w.grownBy w1 u.ownBlock) (ho : w1.ownsRow 0 9 1 v' l'.length (names l')) (hat : ∀ k, v'.ownBlock = some k → u.ownBlock = some k ∨ w.heap.size ≤ k) :
    RS w0 F q cn ci nv iv rnC riC (us ++ [v']) ri (T ++ [l']) Si w1 := by
  have hb : ∀ b, b < w.heap.size → Tag w b ≠ some 9 → w1.heap[b]? = w.heap[b]? := fun b hb ht => hg.block b hb (fun e => ht (own_tag h.rows.top e.symm))
  refine ⟨(hb q h.ltQ (by simp [h.tagQ])).trans h.cells, own_keep h.nl fun b e => hb b (own_lt h.nl b e) (by simp [own_tag h.nl e]), own_keep h.il fun b e => hb b (own_lt h.il b e) (by simp [own_tag h.il e]), h.rows.turn hg ho hat, h.rowi.other fun b h1 h2 => hb b h1 (by simp [h2]),
    h.grows hg (h.inS u (by simp)), h.inQ, h.ltF, fun b e => (h.inN b e).up hg.size, fun b e => (h.inI b e).up hg.size, fun v hv b e => ?_, fun v hv b e => (h.inT v hv b e).up hg.size⟩
  rw [List.mem_append] at hv
  rcases hv with hv | hv
  · exact (h.inS v (by simp [hv]) b e).up hg.size
  · simp at hv
    subst hv
    rcases hat b e with e' | e'
    · exact (h.inS u (by simp) b e').up hg.size
    · exact .inr ⟨Nat.le_trans h.kp.size e', own_lt ho b e⟩

theorem RS.turnI (h : RS w0 F q cn ci nv iv rnC riC rn (us ++ [u]) Sn (T ++ [l]) w) (hg : w.grownBy w1 u.ownBlock) (ho : w1.ownsRow 0 3 1 v' l'.length (nmsL l')) (hat : ∀ k, v'.ownBlock = some k → u.ownBlock = some k ∨ w.heap.size ≤ k) :
    RS w0 F q cn ci nv iv rnC riC rn (us ++ [v']) Sn (T ++ [l']) w1 := by
  have hb : ∀ b, b < w.heap.size → Tag w b ≠ some 3 → w1.heap[b]? = w.heap[b]? := fun b hb ht => hg.block b hb (fun e => ht (own_tag h.rowi.top e.symm))
  refine ⟨(hb q h.ltQ (by simp [h.tagQ])).trans h.cells, own_keep h.nl fun b e => hb b (own_lt h.nl b e) (by simp [own_tag h.nl e]), own_keep h.il fun b e => hb b (own_lt h.il b e) (by simp [own_tag h.il e]), h.rows.other fun b h1 h2 => hb b h1 (by simp [h2]), h.rowi.turn hg ho hat,
    h.grows hg (h.inT u (by simp)), h.inQ, h.ltF, fun b e => (h.inN b e).up hg.size, fun b e => (h.inI b e).up hg.size, fun v hv b e => (h.inS v hv b e).up hg.size, fun v hv b e => ?_⟩
  rw [List.mem_append] at hv
  rcases hv with hv | hv
  · exact (h.inT v (by simp [hv]) b e).up hg.size
  · simp at hv
    subst hv
    rcases hat b e with e' | e'
    · exact (h.inT u (by simp) b e').up hg.size
    · exact .inr ⟨Nat.le_trans h.kp.size e', own_lt ho b e⟩

theorem Ext_setc {a : Addr} {x : Value} {b : Nat} (h : Ext F w0 w b) : Ext F w0 (w.setCell a x) b := h.up (by simp [World.setCell])

/-- the cell of names is written -/
theorem RS.storeN (h : RS w0 F q cn ci nv iv rnC riC rn ri Sn Si w) (x : Value) : RS w0 F q x ci nv iv rnC riC rn ri Sn Si (w.setCell ⟨q, 0, none⟩ x) := by
  have hb : ∀ b, Tag w b ≠ some 59 → (w.setCell ⟨q, 0, none⟩ x).heap[b]? = w.heap[b]? := fun b ht => Below.heap_setCell _ _ _ _ (fun e => ht (by rw [e]; exact h.tagQ))
  exact ⟨heap_setCell_same w q 0 _ 59 _ h.cells, own_keep h.nl fun b e => hb b (by simp [own_tag h.nl e]), own_keep h.il fun b e => hb b (by simp [own_tag h.il e]), h.rows.other fun b _ h2 => hb b (by simp [h2]), h.rowi.other fun b _ h2 => hb b (by simp [h2]),
    h.kp.trans (Kp.setCell _ _ _ h.inQ), h.inQ, h.ltF, fun b e => Ext_setc (h.inN b e), fun b e => Ext_setc (h.inI b e), fun v hv b e => Ext_setc (h.inS v hv b e), fun v hv b e => Ext_setc (h.inT v hv b e)⟩

theorem RS.storeI (h : RS w0 F q cn ci nv iv rnC riC rn ri Sn Si w) (x : Value) : RS w0 F q cn x nv iv rnC riC rn ri Sn Si (w.setCell ⟨q, 1, none⟩ x) := by
  have hb : ∀ b, Tag w b ≠ some 59 → (w.setCell ⟨q, 1, none⟩ x).heap[b]? = w.heap[b]? := fun b ht => Below.heap_setCell _ _ _ _ (fun e => ht (by rw [e]; exact h.tagQ))
  exact ⟨heap_setCell_same w q 1 _ 59 _ h.cells, own_keep h.nl fun b e => hb b (by simp [own_tag h.nl e]), own_keep h.il fun b e => hb b (by simp [own_tag h.il e]), h.rows.other fun b _ h2 => hb b (by simp [h2]), h.rowi.other fun b _ h2 => hb b (by simp [h2]),
    h.kp.trans (Kp.setCell _ _ _ h.inQ), h.inQ, h.ltF, fun b e => Ext_setc (h.inN b e), fun b e => Ext_setc (h.inI b e), fun v hv b e => Ext_setc (h.inS v hv b e), fun v hv b e => Ext_setc (h.inT v hv b e)⟩

/-- a cell of a list is written -/
theorem RS.cellN {gl cap n : Nat} (h : RS w0 F q cn ci (.slice (some ⟨gl, 0, none⟩) n cap) iv rnC riC rn ri Sn Si w) (j : Nat) (x : Value) : RS w0 F q cn ci (.slice (some ⟨gl, 0, none⟩) n cap) iv (rnC.set j x) riC rn ri Sn Si (w.setCell ⟨gl, j, none⟩ x) := by
  have hn : rnC.length = n := by
    rcases h.nl.2 with ⟨h', _⟩ | ⟨_, _, _, h', _⟩
    · cases h'
    · cases h'
      rfl
  have hl := h.nl
  rw [hn] at hl
  obtain ⟨ho, hg⟩ := hl.stored j x
  exact h.setN hg (by rw [List.length_set, hn]; exact ho) (fun k e => .inl e)

theorem RS.cellI {gl cap n : Nat} (h : RS w0 F q cn ci nv (.slice (some ⟨gl, 0, none⟩) n cap) rnC riC rn ri Sn Si w) (j : Nat) (x : Value) : RS w0 F q cn ci nv (.slice (some ⟨gl, 0, none⟩) n cap) rnC (riC.set j x) rn ri Sn Si (w.setCell ⟨gl, j, none⟩ x) := by
  have hn : riC.length = n := by
    rcases h.il.2 with ⟨h', _⟩ | ⟨_, _, _, h', _⟩
    · cases h'
    · cases h'
      rfl
  have hl := h.il
  rw [hn] at hl
  obtain ⟨ho, hg⟩ := hl.stored j x
  exact h.setI hg (by rw [List.length_set, hn]; exact ho) (fun k e => .inl e)
end

/-- THE STATE BETWEEN CALLS -/
def RAt (w : World) (F : Nat → Prop) (q : Nat) (St : List Lvl) : Prop := ∃ nv iv rn ri, RS w F q nv iv nv iv rn ri rn ri St St w

theorem RS.done {w0 w : World} {F : Nat → Prop} {q : Nat} {nv iv : Value} {rn ri : List Value} {St : List Lvl} (h : RS w0 F q nv iv nv iv rn ri rn ri St St w) : RAt w (Ext F w0 w) q St ∧ Kp F w0 w :=
  ⟨⟨nv, iv, rn, ri, h.cells, h.nl, h.il, h.rows, h.rowi, Kp.refl _ _, .inl h.inQ, Ext.lt h.ltF h.kp.size, fun b e => .inl (h.inN b e), fun b e => .inl (h.inI b e), fun v hv b e => .inl (h.inS v hv b e), fun v hv b e => .inl (h.inT v hv b e)⟩, h.kp⟩

theorem RAt.keep {w w1 : World} {F : Nat → Prop} {q : Nat} {St : List Lvl} (h : RAt w F q St) (hk : ∀ b, F b → w1.heap[b]? = w.heap[b]?) (hs : w.heap.size ≤ w1.heap.size) : RAt w1 F q St := by
  obtain ⟨nv, iv, rn, ri, h⟩ := h
  have hE : ∀ b, Ext F w w b → F b := fun b e => e.elim id (fun e => by omega)
  exact ⟨nv, iv, rn, ri, (hk q h.inQ).trans h.cells, own_keep h.nl fun b e => hk b (hE b (h.inN b e)), own_keep h.il fun b e => hk b (hE b (h.inI b e)), h.rows.keep fun v hv b e => hk b (hE b (h.inS v hv b e)), h.rowi.keep fun v hv b e => hk b (hE b (h.inT v hv b e)),
    Kp.refl _ _, h.inQ, fun b hb => Nat.lt_of_lt_of_le (h.ltF b hb) hs, fun b e => .inl (hE b (h.inN b e)), fun b e => .inl (hE b (h.inI b e)), fun v hv b e => .inl (hE b (h.inS v hv b e)), fun v hv b e => .inl (hE b (h.inT v hv b e))⟩

theorem RAt.lt {w : World} {F : Nat → Prop} {q : Nat} {St : List Lvl} (h : RAt w F q St) : ∀ b, F b → b < w.heap.size := by
  obtain ⟨nv, iv, rn, ri, h⟩ := h
  exact h.ltF

theorem RAt.ext {w w1 : World} {F : Nat → Prop} {q : Nat} {St : List Lvl} (h : RAt w F q St) (hb : Below w.heap.size w w1) : RAt w1 (Ext F w w1) q St := by
  obtain ⟨nv, iv, rn, ri, h⟩ := h
  exact (h.on hb).done.1
end Go.Proofs.Ytchkimmhallckaa.Sc
