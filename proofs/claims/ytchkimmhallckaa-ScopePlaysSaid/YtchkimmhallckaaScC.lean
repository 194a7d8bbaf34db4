import Derived.Test.YtchkimmhallckaaScB
import Derived.WalkSmall
namespace Go.Proofs.Ytchkimmhallckaa.Sc
open Go.RowKit Go.Maps Go.WideMaps
open Go.Proofs.YtchkimmhallckaaW.PrintWords Go.Proofs.YtchkimmhallckaaW.PrintLast Go.Proofs.YtchkimmhallckaaW.PrintMore

/-! THE STATE: levels, the outermost first; a level: its names in order, with their numbers. -/
abbrev Lvl := List (ByteArray × Int)

def lk : Lvl → ByteArray → Option Int
  | [], _ => none
  | (a, b) :: r, s => if a = s then some b else lk r s

theorem lk_snoc (l : Lvl) (a : ByteArray) (b : Int) (s : ByteArray) : lk (l ++ [(a, b)]) s = (lk l s).or (if a = s then some b else none) := by
  induction l with
  | nil => simp [lk]
  | cons p r ih =>
    obtain ⟨c, d⟩ := p
    simp only [List.cons_append, lk]
    split
    · rfl
    · exact ih

theorem lk_none_of (l : Lvl) (s : ByteArray) (h : ∀ p ∈ l, p.1 ≠ s) : lk l s = none := by
  induction l with
  | nil => rfl
  | cons p r ih =>
    obtain ⟨c, d⟩ := p
    simp only [lk]
    rw [if_neg (h (c, d) (by simp))]
    exact ih fun q hq => h q (by simp [hq])

def ofSt (St : List Lvl) (lv : Int) (s : ByteArray) : Option Int := if 0 ≤ lv then lk (St.getD lv.toNat []) s else none

def names (l : Lvl) : List Value := l.map fun p => .string p.1

/-- what a block holds -/
def Tag (w : World) (b : Nat) : Option Nat :=
  match w.heap[b]? with
  | some (.cells _ t _) => some t
  | _ => none

theorem own_tag {w : World} {base : Nat} {e : TypeId} {size n : Nat} {v : Value} {xs : List Value} (h : w.ownsRow base e size v n xs) {k : Nat} (hk : v.ownBlock = some k) : Tag w k = some e := by
  obtain ⟨cs, hc⟩ := own_typed h k hk
  simp [Tag, hc]

theorem map_tag {w : World} {mp : Value} {N : Nat} {M : Int → ByteArray → Option Int} (h : MapIs w mp N M) {b : Nat} (hb : mapBlock mp = some b) : Tag w b = none := by
  rcases h with ⟨rfl, hn⟩ | ⟨b', D, rfl, ⟨es, clock, hb', r⟩, hM⟩
  · cases hb
  · cases hb
    simp [Tag, hb']

theorem own_keep {w w' : World} {base : Nat} {e : TypeId} {size n : Nat} {v : Value} {xs : List Value} (h : w.ownsRow base e size v n xs) (hk : ∀ k, v.ownBlock = some k → w'.heap[k]? = w.heap[k]?) : w'.ownsRow base e size v n xs := by
  obtain ⟨h1, h2⟩ := h
  refine ⟨h1, ?_⟩
  rcases h2 with h2 | ⟨g, cap, cur, rfl, hg, hh, r⟩
  · exact .inl h2
  · exact .inr ⟨g, cap, cur, rfl, hg, (hk g (by simp [Value.ownBlock])).trans hh, r⟩

def Ext (F : Nat → Prop) (w w' : World) (b : Nat) : Prop := F b ∨ (w.heap.size ≤ b ∧ b < w'.heap.size)

structure Kp (F : Nat → Prop) (w w' : World) : Prop where
  os : w'.os = w.os
  tape : w'.tape = w.tape
  output : w'.output = w.output
  size : w.heap.size ≤ w'.heap.size
  block : ∀ b, b < w.heap.size → ¬ F b → w'.heap[b]? = w.heap[b]?

theorem Kp.refl (F : Nat → Prop) (w : World) : Kp F w w := ⟨rfl, rfl, rfl, Nat.le_refl _, fun _ _ _ => rfl⟩
theorem Kp.trans {F : Nat → Prop} {a b c : World} (h : Kp F a b) (k : Kp F b c) : Kp F a c :=
  ⟨k.os.trans h.os, k.tape.trans h.tape, k.output.trans h.output, Nat.le_trans h.size k.size, fun i hi hF => (k.block i (Nat.lt_of_lt_of_le hi h.size) hF).trans (h.block i hi hF)⟩
theorem Kp.transExt {F : Nat → Prop} {a b c : World} (h : Kp F a b) (k : Kp (Ext F a b) b c) : Kp F a c :=
  ⟨k.os.trans h.os, k.tape.trans h.tape, k.output.trans h.output, Nat.le_trans h.size k.size, fun i hi hF =>
    (k.block i (Nat.lt_of_lt_of_le hi h.size) (fun e => e.elim hF (fun e => by omega))).trans (h.block i hi hF)⟩
theorem Kp.grown {F : Nat → Prop} {w w' : World} {row : Option Nat} (h : w.grownBy w' row) (hr : ∀ k, row = some k → F k) : Kp F w w' :=
  ⟨h.os, h.tape, h.output, h.size, fun b hb hF => h.block b hb (fun e => hF (hr b e.symm))⟩
theorem Kp.alloc (F : Nat → Prop) (w : World) (o : Obj) : Kp F w (w.alloc o) := Kp.grown (World.grownBy_alloc w o none) (by simp)
theorem Kp.setCell {F : Nat → Prop} (w : World) (a : Addr) (u : Value) (h : F a.block) : Kp F w (w.setCell a u) :=
  ⟨rfl, rfl, rfl, by simp [World.setCell], fun b _ hF => Below.heap_setCell _ _ _ _ (fun e => hF (e ▸ h))⟩
theorem Kp.drewN {F : Nat → Prop} {w w' : World} (h : Kp F w w') (n : Nat) : Kp F w (w'.drewN n) := ⟨h.os, h.tape, h.output, h.size, h.block⟩
theorem Kp.drawn {F : Nat → Prop} {w w' w'' : World} (h : Kp F w w') (d : Drawn0 w' w'') : Kp F w w'' := by
  obtain ⟨n, rfl⟩ := d
  exact h.drewN n
theorem Kp.ofBelow {F : Nat → Prop} {w w' : World} (h : Below w.heap.size w w') : Kp F w w' := ⟨h.os, h.tape, h.output, h.size, fun b hb _ => h.block b hb⟩
theorem Kp.below {F : Nat → Prop} {B : Nat} {w0 w w' : World} (h : Kp F w w') (b : Below B w0 w) (hB : B ≤ w.heap.size) (hF : ∀ b, F b → B ≤ b) : Below B w0 w' :=
  ⟨h.os.trans b.os, h.tape.trans b.tape, h.output.trans b.output, Nat.le_trans b.size h.size, fun k hk => (h.block k (by omega) (fun e => by have := hF k e; omega)).trans (b.block k hk)⟩
theorem Kp.mono {F F' : Nat → Prop} {w w' : World} (h : Kp F w w') (hF : ∀ b, F b → F' b) : Kp F' w w' := ⟨h.os, h.tape, h.output, h.size, fun b hb hn => h.block b hb (fun e => hn (hF b e))⟩

structure Rep (w : World) (F : Nat → Prop) (g : Nat) (M : Int → ByteArray → Option Int) (St : List Lvl) (N : Nat) (mp lv fv : Value) (vs : List Value) : Prop where
  cells : w.heap[g]? = some (.cells #[mp, lv, fv] 50 (0, 0))
  map : MapIs w mp N M
  lists : w.ownsRow 0 40 1 lv vs.length vs
  len : vs.length + 1 = St.length
  row : ∀ (i : Nat) (v : Value) (l : Lvl), (fv :: vs)[i]? = some v → St[i]? = some l → w.ownsRow 0 9 1 v l.length (names l)
  sep : ∀ (i j : Nat) (v v' : Value) (k : Nat), (fv :: vs)[i]? = some v → (fv :: vs)[j]? = some v' → v.ownBlock = some k → v'.ownBlock = some k → i = j
  inG : F g
  inM : ∀ b, mapBlock mp = some b → F b
  inL : ∀ b, lv.ownBlock = some b → F b
  inR : ∀ v ∈ fv :: vs, ∀ b, v.ownBlock = some b → F b
  lt : ∀ b, F b → b < w.heap.size
  deep : St.length ≤ 64
  many : ∀ l ∈ St, l.length ≤ 256
  short : ∀ l ∈ St, ∀ p ∈ l, p.1.size ≤ 24

def SAt (w : World) (F : Nat → Prop) (g : Nat) (St : List Lvl) (N : Nat) : Prop := ∃ mp lv fv vs, Rep w F g (ofSt St) St N mp lv fv vs

section
variable {w w' : World} {F F' : Nat → Prop} {g : Nat} {M M' : Int → ByteArray → Option Int} {St : List Lvl} {N N' : Nat} {mp lv fv : Value} {vs : List Value}

theorem Rep.keep (h : Rep w F g M St N mp lv fv vs) (hk : ∀ b, F b → w'.heap[b]? = w.heap[b]?) (hs : w.heap.size ≤ w'.heap.size) : Rep w' F g M St N mp lv fv vs :=
  ⟨(hk g h.inG).trans h.cells, h.map.kept fun b hb => hk b (h.inM b hb), own_keep h.lists fun b hb => hk b (h.inL b hb), h.len,
    fun i v l hv hl => own_keep (h.row i v l hv hl) fun b hb => hk b (h.inR v (List.mem_of_getElem? hv) b hb), h.sep, h.inG, h.inM, h.inL, h.inR, fun b hb => Nat.lt_of_lt_of_le (h.lt b hb) hs, h.deep, h.many, h.short⟩

theorem Rep.wider (h : Rep w F g M St N mp lv fv vs) (hF : ∀ b, F b → F' b) (hl : ∀ b, F' b → b < w.heap.size) : Rep w F' g M St N mp lv fv vs :=
  ⟨h.cells, h.map, h.lists, h.len, h.row, h.sep, hF _ h.inG, fun b hb => hF b (h.inM b hb), fun b hb => hF b (h.inL b hb), fun v hv b hb => hF b (h.inR v hv b hb), hl, h.deep, h.many, h.short⟩

theorem Rep.c0 (h : Rep w F g M St N mp lv fv vs) : w.cell? ⟨g, 0, none⟩ = some mp := by simp [World.cell?, h.cells]
theorem Rep.c1 (h : Rep w F g M St N mp lv fv vs) : w.cell? ⟨g, 1, none⟩ = some lv := by simp [World.cell?, h.cells]
theorem Rep.c2 (h : Rep w F g M St N mp lv fv vs) : w.cell? ⟨g, 2, none⟩ = some fv := by simp [World.cell?, h.cells]
theorem Rep.f (h : Rep w F g M St N mp lv fv vs) (j : Nat) : w.frozen? ⟨g, j, none⟩ = false := frozen_of_row w g j _ 50 h.cells

/-- the map turned, nothing else -/
theorem Rep.setMap (h : Rep w F g M St N mp lv fv vs) (hg : w.grownBy w' (mapBlock mp)) (hm : MapIs w' mp N' M') : Rep w' F g M' St N' mp lv fv vs := by
  have hb : ∀ b, F b → Tag w b ≠ none → w'.heap[b]? = w.heap[b]? := fun b hb ht => hg.block b (h.lt b hb) (fun e => ht (map_tag h.map e.symm))
  have tg : Tag w g = some 50 := by simp [Tag, h.cells]
  refine ⟨(hb g h.inG (by simp [tg])).trans h.cells, hm, own_keep h.lists fun b e => hb b (h.inL b e) (by simp [own_tag h.lists e]), h.len, fun i v l hv hl => ?_, h.sep, h.inG, h.inM, h.inL, h.inR,
    fun b hb => Nat.lt_of_lt_of_le (h.lt b hb) hg.size, h.deep, h.many, h.short⟩
  have := h.row i v l hv hl
  exact own_keep this fun b e => hb b (h.inR v (List.mem_of_getElem? hv) b e) (by simp [own_tag this e])

/-- a cell of g's own block is written: the map's field -/
theorem Rep.storeMap (h : Rep w F g M St N mp lv fv vs) {b : Nat} (hm : MapIs w (.map (some b)) N' M') (hF : F b) : Rep (w.setCell ⟨g, 0, none⟩ (.map (some b))) F g M' St N' (.map (some b)) lv fv vs := by
  have tg : Tag w g = some 50 := by simp [Tag, h.cells]
  have hb : ∀ k, Tag w k ≠ some 50 → (w.setCell ⟨g, 0, none⟩ (.map (some b))).heap[k]? = w.heap[k]? := fun k hk => Below.heap_setCell _ _ _ _ (fun e => hk (by rw [e]; exact tg))
  refine ⟨heap_setCell_same w g 0 _ 50 _ h.cells, hm.kept fun k e => hb k (by simp [map_tag hm e]), own_keep h.lists fun k e => hb k (by simp [own_tag h.lists e]), h.len, fun i v l hv hl => ?_, h.sep, h.inG,
    fun k e => by cases e; exact hF, h.inL, h.inR, fun k hk => by have := h.lt k hk; simpa [World.setCell] using this, h.deep, h.many, h.short⟩
  have := h.row i v l hv hl
  exact own_keep this fun k e => hb k (by simp [own_tag this e])

/-- .. the lists' field, with what it holds from now on -/
theorem Rep.storeLists (h : Rep w F g M St N mp lv fv vs) {lv' : Value} {vs' : List Value} {St' : List Lvl} (hl : w.ownsRow 0 40 1 lv' vs'.length vs') (hlen : vs'.length + 1 = St'.length)
    (hrow : ∀ (i : Nat) (v : Value) (l : Lvl), (fv :: vs')[i]? = some v → St'[i]? = some l → w.ownsRow 0 9 1 v l.length (names l))
    (hsep : ∀ (i j : Nat) (v v' : Value) (k : Nat), (fv :: vs')[i]? = some v → (fv :: vs')[j]? = some v' → v.ownBlock = some k → v'.ownBlock = some k → i = j)
    (hinL : ∀ b, lv'.ownBlock = some b → F b) (hinR : ∀ v ∈ fv :: vs', ∀ b, v.ownBlock = some b → F b) (hd : St'.length ≤ 64) (hm : ∀ l ∈ St', l.length ≤ 256) (hs : ∀ l ∈ St', ∀ p ∈ l, p.1.size ≤ 24) :
    Rep (w.setCell ⟨g, 1, none⟩ lv') F g M St' N mp lv' fv vs' := by
  have tg : Tag w g = some 50 := by simp [Tag, h.cells]
  have hb : ∀ k, Tag w k ≠ some 50 → (w.setCell ⟨g, 1, none⟩ lv').heap[k]? = w.heap[k]? := fun k hk => Below.heap_setCell _ _ _ _ (fun e => hk (by rw [e]; exact tg))
  refine ⟨heap_setCell_same w g 1 _ 50 _ h.cells, h.map.kept fun k e => hb k (by simp [map_tag h.map e]), own_keep hl fun k e => hb k (by simp [own_tag hl e]), hlen, fun i v l hv hl => ?_, hsep, h.inG,
    h.inM, hinL, hinR, fun k hk => by have := h.lt k hk; simpa [World.setCell] using this, hd, hm, hs⟩
  have := hrow i v l hv hl
  exact own_keep this fun k e => hb k (by simp [own_tag this e])
end

section
variable {w w' w1 : World} {F F' : Nat → Prop} {g : Nat} {M M' : Int → ByteArray → Option Int} {St T : List Lvl} {l : Lvl} {N N' : Nat} {mp lv fv v v' : Value} {vs : List Value}

theorem Ext.left {b : Nat} (h : F b) : Ext F w w' b := .inl h
theorem Ext.lt (h : ∀ b, F b → b < w.heap.size) (hs : w.heap.size ≤ w'.heap.size) : ∀ b, Ext F w w' b → b < w'.heap.size := fun b e => e.elim (fun e => Nat.lt_of_lt_of_le (h b e) hs) (fun e => e.2)

theorem Rep.openLists {lv' : Value} (h : Rep w F g M St N mp lv fv vs) (hd : St.length < 64) (hg : w.grownBy w1 lv.ownBlock) (ho : w1.ownsRow 0 40 1 lv' (vs.length + 1) (vs ++ [.slice none 0 0]))
    (hat : ∀ k, lv'.ownBlock = some k → lv.ownBlock = some k ∨ w.heap.size ≤ k) : Rep (w1.setCell ⟨g, 1, none⟩ lv') (Ext F w w1) g M (St ++ [[]]) N mp lv' fv (vs ++ [.slice none 0 0]) := by
  have tg : Tag w g = some 50 := by simp [Tag, h.cells]
  have hb : ∀ k, k < w.heap.size → Tag w k ≠ some 40 → w1.heap[k]? = w.heap[k]? := fun k hk ht => hg.block k hk (fun e => ht (own_tag h.lists e.symm))
  have hl1 := Ext.lt (w' := w1) h.lt hg.size
  -- g's block and the map and the rows are as they were
  have h1 : Rep w1 (Ext F w w1) g M [] N mp lv' fv [] → True := fun _ => trivial
  have hrow : ∀ (i : Nat) (v : Value) (l : Lvl), (fv :: vs)[i]? = some v → St[i]? = some l → w1.ownsRow 0 9 1 v l.length (names l) := fun i v l hv hl => by
    have := h.row i v l hv hl
    exact own_keep this fun k e => hb k (own_lt this k e) (by simp [own_tag this e])
  have tg1 : w1.heap[g]? = some (.cells #[mp, lv, fv] 50 (0, 0)) := (hb g (h.lt g h.inG) (by simp [tg])).trans h.cells
  have tag1 : Tag w1 g = some 50 := by simp [Tag, tg1]
  have hm1 : MapIs w1 mp N M := h.map.kept fun k e => hb k (h.map.lt k e) (by simp [map_tag h.map e])
  have hb2 : ∀ k, Tag w1 k ≠ some 50 → (w1.setCell ⟨g, 1, none⟩ lv').heap[k]? = w1.heap[k]? := fun k hk => Below.heap_setCell _ _ _ _ (fun e => hk (by rw [e]; exact tag1))
  have hlast : ∀ (i : Nat) (v : Value), (fv :: (vs ++ [.slice none 0 0]))[i]? = some v → (fv :: vs)[i]? = some v ∨ (i = vs.length + 1 ∧ v = .slice none 0 0) := by
    intro i v hv
    rw [← List.cons_append, List.getElem?_append] at hv
    split at hv
    · exact .inl hv
    · rename_i hi
      simp only [List.length_cons] at hi hv
      have h0 : i - (vs.length + 1) = 0 := by
        rcases Nat.eq_zero_or_pos (i - (vs.length + 1)) with h0 | h0
        · exact h0
        · rw [List.getElem?_eq_none (by simp; omega)] at hv
          cases hv
      rw [h0] at hv
      simp at hv
      exact .inr ⟨by omega, hv.symm⟩
  refine ⟨heap_setCell_same w1 g 1 _ 50 _ tg1, hm1.kept fun k e => hb2 k (by simp [map_tag hm1 e]), own_keep (by simpa using ho) fun k e => hb2 k (by simp [own_tag ho e]), by simp [h.len], fun i v l hv hl => ?_, ?_, .inl h.inG,
    fun b e => .inl (h.inM b e), fun b e => ?_, fun v hv b e => ?_, fun k hk => by have := hl1 k hk; simpa [World.setCell] using this, by simp; omega, ?_, ?_⟩
  · rcases hlast i v hv with hv' | ⟨rfl, rfl⟩
    · have hi := (List.getElem?_eq_some_iff.1 hv').1
      rw [List.getElem?_append_left (by have := h.len; simp at hi; omega)] at hl
      have := hrow i v l hv' hl
      exact own_keep this fun k e => hb2 k (by simp [own_tag this e])
    · rw [List.getElem?_append_right (by have := h.len; omega), h.len] at hl
      simp at hl
      subst hl
      exact World.ownsRow_nil _ _ _ _
  · intro i j v v' k hv hv' e e'
    rcases hlast i v hv with hv | ⟨_, rfl⟩
    · rcases hlast j v' hv' with hv' | ⟨_, rfl⟩
      · exact h.sep i j v v' k hv hv' e e'
      · cases e'
    · cases e
  · rcases hat b e with e' | e'
    · exact .inl (h.inL b e')
    · exact .inr ⟨e', own_lt ho b e⟩
  · rw [← List.cons_append, List.mem_append] at hv
    rcases hv with hv | hv
    · exact .inl (h.inR v hv b e)
    · simp at hv
      subst hv
      cases e
  · intro l hl
    rw [List.mem_append] at hl
    rcases hl with hl | hl
    · exact h.many l hl
    · simp at hl
      subst hl
      simp
  · intro l hl p hp
    rw [List.mem_append] at hl
    rcases hl with hl | hl
    · exact h.short l hl p hp
    · simp at hl
      subst hl
      cases hp

theorem Rep.closeLists {u : Value} {gl cap : Nat} (h : Rep w F g M (T ++ [l]) N mp (.slice (some ⟨gl, 0, none⟩) (vs.length + 1) cap) fv (vs ++ [u])) :
    Rep (w.setCell ⟨g, 1, none⟩ (.slice (some ⟨gl, 0, none⟩) vs.length cap)) F g M T N mp (.slice (some ⟨gl, 0, none⟩) vs.length cap) fv vs := by
  have hlen := h.len
  simp at hlen
  have hpre : ∀ (i : Nat) (v : Value), (fv :: vs)[i]? = some v → (fv :: (vs ++ [u]))[i]? = some v := fun i v hv => by
    rw [← List.cons_append, List.getElem?_append_left (List.getElem?_eq_some_iff.1 hv).1]
    exact hv
  have hl := h.lists
  simp only [List.length_append, List.length_singleton] at hl
  refine h.storeLists (ownsRow_pop (size := 1) (by simp) hl) (by omega) (fun i v l hv hl => ?_) (fun i j v v' k hv hv' => h.sep i j v v' k (hpre i v hv) (hpre j v' hv')) (fun b e => h.inL b e)
    (fun v hv b e => h.inR v (by rcases List.mem_cons.1 hv with e | e <;> simp [e]) b e) (by have := h.deep; simp at this; omega) (fun l hl => h.many l (by simp [hl])) (fun l hl => h.short l (by simp [hl]))
  exact h.row i v l (hpre i v hv) (by rw [List.getElem?_append_left (List.getElem?_eq_some_iff.1 hl).1]; exact hl)
/-- one row of names turned: what is said of all rows -/
theorem Rep.turned {i0 : Nat} {l' : Lvl} (h : Rep w F g M St N mp lv fv vs) (hv0 : (fv :: vs)[i0]? = some v) (hg : w.grownBy w1 v.ownBlock) (ho : w1.ownsRow 0 9 1 v' l'.length (names l'))
    (hat : ∀ k, v'.ownBlock = some k → v.ownBlock = some k ∨ w.heap.size ≤ k) :
    (∀ (i : Nat) (u : Value) (m : Lvl), ((fv :: vs).set i0 v')[i]? = some u → (St.set i0 l')[i]? = some m → w1.ownsRow 0 9 1 u m.length (names m)) ∧
    (∀ (i j : Nat) (u u' : Value) (k : Nat), ((fv :: vs).set i0 v')[i]? = some u → ((fv :: vs).set i0 v')[j]? = some u' → u.ownBlock = some k → u'.ownBlock = some k → i = j) ∧
    (∀ u ∈ (fv :: vs).set i0 v', ∀ b, u.ownBlock = some b → Ext F w w1 b) := by
  have hi0 := (List.getElem?_eq_some_iff.1 hv0).1
  have hnew : ∀ (i : Nat) (u : Value), ((fv :: vs).set i0 v')[i]? = some u → (i = i0 ∧ u = v') ∨ (i ≠ i0 ∧ (fv :: vs)[i]? = some u) := by
    intro i u hu
    by_cases e : i = i0
    · subst e
      rw [List.getElem?_set_self hi0] at hu
      exact .inl ⟨rfl, (Option.some.inj hu).symm⟩
    · rw [List.getElem?_set_ne (Ne.symm e)] at hu
      exact .inr ⟨e, hu⟩
  refine ⟨?_, ?_, ?_⟩
  · intro i u m hu hm
    rcases hnew i u hu with ⟨rfl, rfl⟩ | ⟨e, hu⟩
    · have hi := (List.getElem?_eq_some_iff.1 hm).1
      rw [List.getElem?_set_self (by simpa using hi)] at hm
      cases hm
      exact ho
    · rw [List.getElem?_set_ne (Ne.symm e)] at hm
      have := h.row i u m hu hm
      exact own_keep this fun k ek => hg.block k (own_lt this k ek) (fun e' => e (h.sep i i0 u v k hu hv0 ek e'.symm))
  · intro i j u u' k hu hu' e e'
    have old : ∀ (i : Nat) (u : Value), (fv :: vs)[i]? = some u → u.ownBlock = some k → v'.ownBlock = some k → i = i0 := fun i u hu ek ek' => by
      rcases hat k ek' with hk | hk
      · exact h.sep i i0 u v k hu hv0 ek hk
      · have := h.lt k (h.inR u (List.mem_of_getElem? hu) k ek)
        omega
    rcases hnew i u hu with ⟨q1, q2⟩ | ⟨n1, hu1⟩ <;> rcases hnew j u' hu' with ⟨q3, q4⟩ | ⟨n2, hu2⟩
    · rw [q1, q3]
    · exact absurd (old j u' hu2 e' (q2 ▸ e)) n2
    · exact absurd (old i u hu1 e (q4 ▸ e')) n1
    · exact h.sep i j u u' k hu1 hu2 e e'
  · intro u hu b e
    obtain ⟨i, hi⟩ := List.getElem?_of_mem hu
    rcases hnew i u hi with ⟨rfl, rfl⟩ | ⟨_, hi⟩
    · rcases hat b e with e' | e'
      · exact .inl (h.inR v (List.mem_of_getElem? hv0) b e')
      · exact .inr ⟨e', own_lt ho b e⟩
    · exact .inl (h.inR u (List.mem_of_getElem? hi) b e)

theorem names_snoc (l : Lvl) (p : ByteArray × Int) : names (l ++ [p]) = names l ++ [.string p.1] := by simp [names]

theorem Rep.declFirst {s : ByteArray} {x : Int} (h : Rep w F g M [l] N mp lv fv []) (hs : s.size ≤ 24) (hl : l.length < 256) (hg : w.grownBy w1 fv.ownBlock) (ho : w1.ownsRow 0 9 1 v' (l.length + 1) (names l ++ [.string s]))
    (hat : ∀ k, v'.ownBlock = some k → fv.ownBlock = some k ∨ w.heap.size ≤ k) : Rep (w1.setCell ⟨g, 2, none⟩ v') (Ext F w w1) g M [l ++ [(s, x)]] N mp lv v' [] := by
  obtain ⟨t1, t2, t3⟩ := h.turned (i0 := 0) (l' := l ++ [(s, x)]) rfl hg (by rw [names_snoc]; simpa using ho) hat
  have hrow0 := h.row 0 fv l rfl rfl
  have tg : Tag w g = some 50 := by simp [Tag, h.cells]
  have hb : ∀ k, k < w.heap.size → Tag w k ≠ some 9 → w1.heap[k]? = w.heap[k]? := fun k hk ht => hg.block k hk (fun e => ht (own_tag hrow0 e.symm))
  have tg1 : w1.heap[g]? = some (.cells #[mp, lv, fv] 50 (0, 0)) := (hb g (h.lt g h.inG) (by simp [tg])).trans h.cells
  have tag1 : Tag w1 g = some 50 := by simp [Tag, tg1]
  have hm1 : MapIs w1 mp N M := h.map.kept fun k e => hb k (h.map.lt k e) (by simp [map_tag h.map e])
  have hl1 : w1.ownsRow 0 40 1 lv 0 [] := own_keep h.lists fun k e => hb k (own_lt h.lists k e) (by simp [own_tag h.lists e])
  have hb2 : ∀ k, Tag w1 k ≠ some 50 → (w1.setCell ⟨g, 2, none⟩ v').heap[k]? = w1.heap[k]? := fun k hk => Below.heap_setCell _ _ _ _ (fun e => hk (by rw [e]; exact tag1))
  have hlt := Ext.lt (w' := w1) h.lt hg.size
  refine ⟨heap_setCell_same w1 g 2 _ 50 _ tg1, hm1.kept fun k e => hb2 k (by simp [map_tag hm1 e]), own_keep hl1 fun k e => hb2 k (by simp [own_tag hl1 e]), rfl, fun i v l hv hl => ?_, t2, .inl h.inG, fun b e => .inl (h.inM b e),
    fun b e => .inl (h.inL b e), t3, fun k hk => by have := hlt k hk; simpa [World.setCell] using this, by simp, ?_, ?_⟩
  · have := t1 i v l hv hl
    exact own_keep this fun k e => hb2 k (by simp [own_tag this e])
  · intro m hm
    simp at hm
    subst hm
    simp
    omega
  · intro m hm p hp
    simp at hm
    subst hm
    rw [List.mem_append] at hp
    rcases hp with hp | hp
    · exact h.short l (by simp) p hp
    · simp at hp
      subst hp
      exact hs

theorem set_last {α : Type} (a b : α) : ∀ (T : List α), (T ++ [a]).set T.length b = T ++ [b]
  | [] => rfl
  | x :: T => by simp [set_last a b T]

theorem Rep.declLast {s : ByteArray} {x : Int} {u : Value} {gl cap n : Nat} {us : List Value} (h : Rep w F g M (T ++ [l]) N mp (.slice (some ⟨gl, 0, none⟩) n cap) fv (us ++ [u])) (hs : s.size ≤ 24) (hl : l.length < 256)
    (hg : w.grownBy w1 u.ownBlock) (ho : w1.ownsRow 0 9 1 v' (l.length + 1) (names l ++ [.string s])) (hat : ∀ k, v'.ownBlock = some k → u.ownBlock = some k ∨ w.heap.size ≤ k) :
    Rep (w1.setCell ⟨gl, us.length, none⟩ v') (Ext F w w1) g M (T ++ [l ++ [(s, x)]]) N mp (.slice (some ⟨gl, 0, none⟩) n cap) fv (us ++ [v']) := by
  have hlen := h.len
  simp at hlen
  have hu : (fv :: (us ++ [u]))[us.length + 1]? = some u := by simp
  have hSt : (T ++ [l])[us.length + 1]? = some l := by rw [List.getElem?_append_right (by omega), hlen]; simp
  obtain ⟨t1, t2, t3⟩ := h.turned (i0 := us.length + 1) (l' := l ++ [(s, x)]) hu hg (by rw [names_snoc]; simpa using ho) hat
  have e1 : (fv :: (us ++ [u])).set (us.length + 1) v' = fv :: (us ++ [v']) := by simp only [List.set_cons_succ, set_last]
  have e2 : (T ++ [l]).set (us.length + 1) (l ++ [(s, x)]) = T ++ [l ++ [(s, x)]] := by rw [hlen, set_last]
  rw [e1] at t1 t2 t3
  rw [e2] at t1
  have hrow0 := h.row _ u l hu hSt
  have tg : Tag w g = some 50 := by simp [Tag, h.cells]
  have hb : ∀ k, k < w.heap.size → Tag w k ≠ some 9 → w1.heap[k]? = w.heap[k]? := fun k hk ht => hg.block k hk (fun e => ht (own_tag hrow0 e.symm))
  have tg1 : w1.heap[g]? = some (.cells #[mp, _, fv] 50 (0, 0)) := (hb g (h.lt g h.inG) (by simp [tg])).trans h.cells
  have hm1 : MapIs w1 mp N M := h.map.kept fun k e => hb k (h.map.lt k e) (by simp [map_tag h.map e])
  have hl1 : w1.ownsRow 0 40 1 (.slice (some ⟨gl, 0, none⟩) n cap) _ (us ++ [u]) := own_keep h.lists fun k e => hb k (own_lt h.lists k e) (by simp [own_tag h.lists e])
  have hn : (us ++ [u]).length = n := by
    rcases h.lists.2 with ⟨h', _⟩ | ⟨_, _, _, h', _⟩
    · cases h'
    · cases h'
      rfl
  rw [hn] at hl1
  obtain ⟨hl2, hg2⟩ := hl1.stored us.length v'
  have tagl : Tag w1 gl = some 40 := own_tag hl1 rfl
  have hb2 : ∀ k, Tag w1 k ≠ some 40 → (w1.setCell ⟨gl, us.length, none⟩ v').heap[k]? = w1.heap[k]? := fun k hk => Below.heap_setCell _ _ _ _ (fun e => hk (by rw [e]; exact tagl))
  have hlt := Ext.lt (w' := w1) h.lt hg.size
  have tag1 : Tag w1 g = some 50 := by simp [Tag, tg1]
  rw [set_last] at hl2
  refine ⟨(hb2 g (by simp [tag1])).trans tg1, hm1.kept fun k e => hb2 k (by simp [map_tag hm1 e]), ?_, by simp; omega, fun i v l hv hl => ?_, t2, .inl h.inG, fun b e => .inl (h.inM b e),
    fun b e => .inl (h.inL b e), t3, fun k hk => by have := hlt k hk; simpa [World.setCell] using this, by have := h.deep; simp at this ⊢; omega, ?_, ?_⟩
  · have : (us ++ [v']).length = n := by rw [← hn]; simp
    rw [this]
    exact hl2
  · have := t1 i v l hv hl
    exact own_keep this fun k e => hb2 k (by simp [own_tag this e])
  · intro m hm
    rw [List.mem_append] at hm
    rcases hm with hm | hm
    · exact h.many m (by simp [hm])
    · simp at hm
      subst hm
      simp
      omega
  · intro m hm p hp
    rw [List.mem_append] at hm
    rcases hm with hm | hm
    · exact h.short m (by simp [hm]) p hp
    · simp at hm
      subst hm
      rw [List.mem_append] at hp
      rcases hp with hp | hp
      · exact h.short l (by simp) p hp
      · simp at hp
        subst hp
        exact hs
end
end Go.Proofs.Ytchkimmhallckaa.Sc
