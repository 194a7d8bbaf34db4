import Derived.Test.YtgnbemgeiloegaaKTgM
import Derived.Test.YtgnbemgeiloegaaKTgE
namespace Go.Proofs.Ytgnbemgeiloegaa.Tg
open Go.RowKit Go.Maps Go.WideMaps
open Go.Proofs.YtgnbemgeiloegaaW.PrintWords Go.Proofs.YtgnbemgeiloegaaW.PrintLast Go.Proofs.YtgnbemgeiloegaaW.PrintMore
set_option linter.unusedVariables false
set_option linter.unusedSimpArgs false
open Go.Proofs.Ytgnbemgeiloegaa.PTypesGoods (S40 S42 S47 k40 k42 k47 rd_T40 rd_T42 rd_T47 at_T40 at_T42 at_T47)
/-! THE PROGRAM's 'same', as a function of the table -/
abbrev Prs := List (Int × Int)
def sameRec (x y : S40) : Bool := decide (x.f0 = y.f0) && (x.f1.toList == y.f1.toList) && decide (x.f9 = y.f9) && decide (x.f9 ≠ -1)
def sameName (x y : S40) : Bool := !nul x.f2 && (x.f2.toList == y.f2.toList) && (x.f1.toList == y.f1.toList) && decide (x.f0 ≠ 11) && decide (y.f0 ≠ 11)
def sameLen (x y : S40) : Bool := nul x.f2 && nul y.f2 && decide (x.f3 = y.f3)
def parsR (f : Prs → Int → Int → Bool × Prs) : Prs → List S47 → List S47 → Bool × Prs
  | p, v :: vs, w :: ws => if v.f0 = w.f0 then (if (f p v.f1 w.f1).1 = true then parsR f (f p v.f1 w.f1).2 vs ws else f p v.f1 w.f1) else (false, p)
  | p, _, _ => (true, p)
def sameX (f : Prs → Int → Int → Bool × Prs) (p : Prs) (a b : Int) (x y : S40) : Bool × Prs :=
  if a = b then (true, p)
  else if x.f0 = 9 ∨ y.f0 = 9 then (sameRec x y, p)
  else if sameName x y = true then (true, p)
  else if x.f0 ≠ y.f0 then (false, p)
  else if (a, b) ∈ p then (true, p)
  else if x.f0 = 7 ∨ x.f0 = 8 ∨ x.f0 = 10 then (if sameLen x y = true then f ((a, b) :: p) x.f4 y.f4 else (false, (a, b) :: p))
  else if x.f0 = 11 then
    (if x.f7.length ≠ y.f7.length then (false, (a, b) :: p)
     else if (parsR f ((a, b) :: p) x.f7 y.f7).1 = true then f (parsR f ((a, b) :: p) x.f7 y.f7).2 x.f8 y.f8 else (false, (parsR f ((a, b) :: p) x.f7 y.f7).2))
  else (false, (a, b) :: p)
def sameF (t : List S40) : Nat → Prs → Int → Int → Bool × Prs
  | 0, p, _, _ => (false, p)
  | n + 1, p, a, b => sameX (sameF t n) p a b (rd_T40 t a) (rd_T40 t b)
/-- within the table -/
def InT (t : List S40) (a : Int) : Prop := 0 ≤ a ∧ a < t.length
/-- what types name lies within -/
structure Inner (t : List S40) : Prop where
  elem : ∀ a, InT t a → (rd_T40 t a).f0 = 7 ∨ (rd_T40 t a).f0 = 8 ∨ (rd_T40 t a).f0 = 10 → InT t (rd_T40 t a).f4
  par : ∀ a, InT t a → (rd_T40 t a).f0 = 11 → (∀ v ∈ (rd_T40 t a).f7, InT t v.f1) ∧ InT t (rd_T40 t a).f8
  lo : 7 ≤ t.length
  hi : t.length ≤ 256
structure Pok (t : List S40) (p : Prs) : Prop where
  nodup : p.Nodup
  inT : ∀ q ∈ p, InT t q.1 ∧ InT t q.2
theorem Pok.cons {t : List S40} {p : Prs} {a b : Int} (h : Pok t p) (ha : InT t a) (hb : InT t b) (hn : (a, b) ∉ p) : Pok t ((a, b) :: p) := by
  refine ⟨List.nodup_cons.2 ⟨hn, h.nodup⟩, fun q hq => ?_⟩
  rcases List.mem_cons.1 hq with rfl | hq
  · exact ⟨ha, hb⟩
  · exact h.inT q hq
theorem Pok.nil (t : List S40) : Pok t [] := ⟨List.nodup_nil, fun q hq => by cases hq⟩
theorem nodup_len : ∀ (m : Nat) (l : List Nat), l.Nodup → (∀ k ∈ l, k < m) → l.length ≤ m
  | 0, l, _, h => by
    cases l with
    | nil => simp
    | cons k l => exact absurd (h k (by simp)) (by omega)
  | m + 1, l, hn, h => by
    by_cases hm : m ∈ l
    · have h1 := nodup_len m (l.erase m) (hn.erase m) (fun k hk => by
        obtain ⟨k1, k2⟩ := (hn.mem_erase_iff).1 hk
        have := h k k2
        omega)
      rw [List.length_erase_of_mem hm] at h1
      omega
    · exact Nat.le_succ_of_le (nodup_len m l hn (fun k hk => by
        have := h k hk
        rcases Nat.lt_or_ge k m with h2 | h2
        · exact h2
        · exact absurd ((by omega : k = m) ▸ hk) hm))
theorem map_nodup {α β : Type} {f : α → β} : ∀ {l : List α}, (∀ a ∈ l, ∀ b ∈ l, f a = f b → a = b) → l.Nodup → (l.map f).Nodup
  | [], _, _ => by simp
  | a :: l, hf, h => by
    obtain ⟨h1, h2⟩ := List.nodup_cons.1 h
    rw [List.map_cons, List.nodup_cons]
    refine ⟨fun hm => ?_, map_nodup (fun b hb c hc => hf b (by simp [hb]) c (by simp [hc])) h2⟩
    obtain ⟨b, hb, e⟩ := List.mem_map.1 hm
    exact h1 ((hf b (by simp [hb]) a (by simp) e) ▸ hb)
theorem Pok.len {t : List S40} {p : Prs} (h : Pok t p) : p.length ≤ t.length * t.length := by
  let m : Int × Int → Nat := fun q => q.1.toNat * t.length + q.2.toNat
  have h1 : (p.map m).Nodup := by
    refine map_nodup ?_ h.nodup
    intro q hq r hr e
    obtain ⟨⟨a1, a2⟩, b1, b2⟩ := h.inT q hq
    obtain ⟨⟨c1, c2⟩, d1, d2⟩ := h.inT r hr
    have e' : q.1.toNat * t.length + q.2.toNat = r.1.toNat * t.length + r.2.toNat := e
    have e1 : (q.1.toNat * t.length + q.2.toNat) / t.length = q.1.toNat := by
      rw [Nat.mul_comm, Nat.mul_add_div (by omega), Nat.div_eq_of_lt (by omega)]; rfl
    have e2 : (r.1.toNat * t.length + r.2.toNat) / t.length = r.1.toNat := by
      rw [Nat.mul_comm, Nat.mul_add_div (by omega), Nat.div_eq_of_lt (by omega)]; rfl
    have e3 : q.1.toNat = r.1.toNat := by rw [← e1, ← e2, e']
    rw [e3] at e'
    have e4 : q.2.toNat = r.2.toNat := by omega
    exact Prod.ext (by omega) (by omega)
  have h2 : ∀ k ∈ p.map m, k < t.length * t.length := by
    intro k hk
    obtain ⟨q, hq, rfl⟩ := List.mem_map.1 hk
    obtain ⟨⟨a1, a2⟩, b1, b2⟩ := h.inT q hq
    have : (q.1.toNat + 1) * t.length ≤ t.length * t.length := Nat.mul_le_mul_right _ (by omega)
    rw [Nat.add_mul, Nat.one_mul] at this
    show q.1.toNat * t.length + q.2.toNat < _
    omega
  have := nodup_len _ _ h1 h2
  simpa using this
theorem parsR_ok {t : List S40} {f : Prs → Int → Int → Bool × Prs} (hf : ∀ p a b, Pok t p → InT t a → InT t b → Pok t (f p a b).2 ∧ p.length ≤ (f p a b).2.length) :
    ∀ (vs ws : List S47) (p : Prs), Pok t p → (∀ v ∈ vs, InT t v.f1) → (∀ v ∈ ws, InT t v.f1) → Pok t (parsR f p vs ws).2 ∧ p.length ≤ (parsR f p vs ws).2.length
  | [], ws, p, h, _, _ => by unfold parsR; exact ⟨h, Nat.le_refl _⟩
  | v :: vs, [], p, h, _, _ => by unfold parsR; exact ⟨h, Nat.le_refl _⟩
  | v :: vs, w :: ws, p, h, h1, h2 => by
    have k := hf p v.f1 w.f1 h (h1 v (by simp)) (h2 w (by simp))
    unfold parsR
    split
    · split
      · obtain ⟨k1, k2⟩ := parsR_ok hf vs ws _ k.1 (fun u hu => h1 u (by simp [hu])) (fun u hu => h2 u (by simp [hu]))
        exact ⟨k1, Nat.le_trans k.2 k2⟩
      · exact k
    · exact ⟨h, Nat.le_refl _⟩
theorem sameF_ok {t : List S40} (hI : Inner t) : ∀ (n : Nat) (p : Prs) (a b : Int), Pok t p → InT t a → InT t b → Pok t (sameF t n p a b).2 ∧ p.length ≤ (sameF t n p a b).2.length
  | 0, p, a, b, h, _, _ => ⟨h, Nat.le_refl _⟩
  | n + 1, p, a, b, h, ha, hb => by
    have ih := sameF_ok hI n
    have hA := hI.elem a ha
    have hB := hI.elem b hb
    have pA := hI.par a ha
    have pB := hI.par b hb
    show Pok t (sameX (sameF t n) p a b (rd_T40 t a) (rd_T40 t b)).2 ∧ p.length ≤ (sameX (sameF t n) p a b (rd_T40 t a) (rd_T40 t b)).2.length
    generalize rd_T40 t a = x at hA pA
    generalize rd_T40 t b = y at hB pB
    unfold sameX
    split
    · exact ⟨h, Nat.le_refl _⟩
    split
    · exact ⟨h, Nat.le_refl _⟩
    split
    · exact ⟨h, Nat.le_refl _⟩
    split
    · exact ⟨h, Nat.le_refl _⟩
    rename_i e0
    have e0' : x.f0 = y.f0 := Classical.not_not.1 e0
    split
    · exact ⟨h, Nat.le_refl _⟩
    rename_i hn
    have h1 := h.cons ha hb hn
    split
    · rename_i e7
      split
      · obtain ⟨k1, k2⟩ := ih _ x.f4 y.f4 h1 (hA e7) (hB (e0' ▸ e7))
        exact ⟨k1, Nat.le_trans (by simp) k2⟩
      · exact ⟨h1, by simp⟩
    split
    · rename_i e11
      split
      · exact ⟨h1, by simp⟩
      obtain ⟨k1, k2⟩ := parsR_ok ih x.f7 y.f7 _ h1 (pA e11).1 (pB (e0' ▸ e11)).1
      split
      · obtain ⟨m1, m2⟩ := ih _ x.f8 y.f8 k1 (pA e11).2 (pB (e0' ▸ e11)).2
        exact ⟨m1, Nat.le_trans (Nat.le_trans (by simp) k2) m2⟩
      · exact ⟨k1, Nat.le_trans (by simp) k2⟩
    · exact ⟨h1, by simp⟩
open Classical in
/-- the map of the pairs -/
noncomputable def metP (p : Prs) : Value → Option Int := fun v => if ∃ q ∈ p, v = keyP q.1 q.2 then some 1 else none
theorem metP_in {p : Prs} {a b : Int} (h : (a, b) ∈ p) : metP p (keyP a b) = some 1 := by
  unfold metP
  rw [if_pos ⟨(a, b), h, rfl⟩]
theorem metP_out {p : Prs} {a b : Int} (h : (a, b) ∉ p) : metP p (keyP a b) = none := by
  unfold metP
  rw [if_neg]
  rintro ⟨⟨c, d⟩, hq, e⟩
  simp [keyP] at e
  obtain ⟨rfl, rfl⟩ := e
  exact h hq
theorem metP_put (p : Prs) (a b : Int) : putG (metP p) (keyP a b) (some 1) = metP ((a, b) :: p) := by
  funext v
  unfold putG metP
  by_cases e : v = keyP a b
  · rw [if_pos e, if_pos ⟨(a, b), by simp, e⟩]
  · rw [if_neg e]
    by_cases h : ∃ q ∈ p, v = keyP q.1 q.2
    · obtain ⟨q, hq, e2⟩ := h
      rw [if_pos ⟨q, hq, e2⟩, if_pos ⟨q, by simp [hq], e2⟩]
    · rw [if_neg h, if_neg]
      rintro ⟨q, hq, e2⟩
      rcases List.mem_cons.1 hq with rfl | hq
      · exact e e2
      · exact h ⟨q, hq, e2⟩
theorem metP_nil : metP [] = fun _ => none := by
  funext v
  simp [metP]
/-- the world of a call: the table as it was, the map of the pairs in its block -/
structure WP (w0 : World) (g : Nat) (p : Prs) (w : World) : Prop where
  map : MapG 83 w (.map (some g)) p.length (metP p)
  below : Below w0.heap.size w0 w
theorem WP.on {w0 w w1 : World} {g : Nat} {p : Prs} (h : WP w0 g p w) (hb : Below w.heap.size w w1) : WP w0 g p w1 := ⟨h.map.kept (hb.block _ h.map.lt), h.below.trans (hb.mono h.below.size)⟩
/-- what pairs.same answers, at so much fuel -/
def SameAt (t : List S40) (w0 : World) (A : Option Addr) (c : Nat) (g n : Nat) : Prop :=
  ∀ (p : Prs) (a b : Int) (w : World), Pok t p → InT t a → InT t b → t.length * t.length < p.length + n → WP w0 g p w →
    Calls Try.prog 65 #[.map (some g), .slice A t.length c, .int .i64 a, .int .i64 b] w fun e w' => e = .returned (.bool (sameF t n p a b).1) ∧ WP w0 g (sameF t n p a b).2 w' ∧ KeepBut w w' g none
end Go.Proofs.Ytgnbemgeiloegaa.Tg
