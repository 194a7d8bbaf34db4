import Derived.Test.YtgnbemgeiloegaaMTgX
import Derived.Test.YtgnbemgeiloegaaMTgDb
import Derived.Test.YtgnbemgeiloegaaMTgFi
namespace Go.Proofs.Ytgnbemgeiloegaa.Tg
open Go.RowKit
open Go.Proofs.YtgnbemgeiloegaaW.PrintWords Go.Proofs.YtgnbemgeiloegaaW.PrintLast Go.Proofs.YtgnbemgeiloegaaW.PrintMore
set_option linter.unusedVariables false
set_option linter.unusedSimpArgs false
open Go.Proofs.Ytgnbemgeiloegaa.PTypesGoods (S40 S42 S47 k40 k42 k47 rd_T40 rd_T42 rd_T47 at_T40 at_T42 at_T47)
def swp (p : Prs) : Prs := p.map fun q => (q.2, q.1)
theorem swp_mem (p : Prs) (a b : Int) : (b, a) ∈ swp p ↔ (a, b) ∈ p := by
 unfold swp
 rw [List.mem_map]
 constructor
 ·
  rintro ⟨⟨c, d⟩, hq, e⟩
  simp at e
  obtain ⟨rfl, rfl⟩ := e
  exact hq
 · exact fun h => ⟨(a, b), h, rfl⟩
theorem beq_sym (a b : List UInt8) : (a == b) = (b == a) := by
 rw [Bool.eq_iff_iff, beq_iff_eq, beq_iff_eq]; exact ⟨Eq.symm, Eq.symm⟩
theorem dec_sym {α : Type} [DecidableEq α] (a b : α) : decide (a = b) = decide (b = a) := by
 by_cases h : a = b
 · subst h; rfl
 · rw [decide_eq_false h, decide_eq_false (fun e => h e.symm)]
theorem sameRec_sym (x y : S40) : sameRec y x = sameRec x y := by
 unfold sameRec
 rw [dec_sym y.f0 x.f0, beq_sym y.f1.toList x.f1.toList]
 by_cases h : y.f9 = x.f9
 · rw [h]
 ·
  rw [decide_eq_false (p := y.f9 = x.f9) h, decide_eq_false (p := x.f9 = y.f9) (fun e => h e.symm)]
  simp
theorem sameName_sym (x y : S40) : sameName y x = sameName x y := by
 unfold sameName nul
 rw [beq_sym y.f1.toList, beq_sym y.f2.toList]
 by_cases h : x.f2.toList = y.f2.toList
 · rw [h, Bool.and_assoc _ (decide (y.f0 ≠ 11)), Bool.and_assoc _ (decide (x.f0 ≠ 11)), Bool.and_comm (decide (y.f0 ≠ 11))]
 ·
  have : (x.f2.toList == y.f2.toList) = false := by simpa using h
  rw [this]
  simp
theorem sameLen_sym (x y : S40) : sameLen y x = sameLen x y := by
 unfold sameLen
 rw [dec_sym y.f3, Bool.and_comm (nul y.f2)]
theorem parsR_sym {f : Prs → Int → Int → Bool × Prs} (hf : ∀ p a b, f (swp p) b a = ((f p a b).1, swp (f p a b).2)) :
 ∀ (vs ws : List S47) (p : Prs), parsR f (swp p) ws vs = ((parsR f p vs ws).1, swp (parsR f p vs ws).2)
 | [], [], p => by simp [parsR]
 | [], w :: ws, p => by simp [parsR]
 | v :: vs, [], p => by simp [parsR]
 | v :: vs, w :: ws, p => by
  unfold parsR
  by_cases e : v.f0 = w.f0
  ·
   rw [if_pos e, if_pos e.symm, hf]
   simp only
   split
   · exact parsR_sym hf vs ws _
   · rfl
  · rw [if_neg e, if_neg (fun h => e h.symm)]
theorem sameX_sym {f : Prs → Int → Int → Bool × Prs} (hf : ∀ p a b, f (swp p) b a = ((f p a b).1, swp (f p a b).2)) (p : Prs) (a b : Int) (x y : S40) :
 sameX f (swp p) b a y x = ((sameX f p a b x y).1, swp (sameX f p a b x y).2) := by
 have hcons : (b, a) :: swp p = swp ((a, b) :: p) := rfl
 unfold sameX
 by_cases h1 : a = b
 · rw [if_pos h1, if_pos h1.symm]
 rw [if_neg h1, if_neg (fun e => h1 e.symm)]
 by_cases h2 : x.f0 = 9 ∨ y.f0 = 9
 · rw [if_pos h2, if_pos (Or.comm.1 h2), sameRec_sym]
 rw [if_neg h2, if_neg (fun h => h2 (Or.comm.1 h)), sameName_sym]
 by_cases h3 : sameName x y = true
 · rw [if_pos h3, if_pos h3]
 rw [if_neg h3, if_neg h3]
 by_cases h4 : x.f0 = y.f0
 ·
  have n1 : ¬ (y.f0 ≠ x.f0) := fun h => h h4.symm
  have n2 : ¬ (x.f0 ≠ y.f0) := fun h => h h4
  rw [if_neg n1, if_neg n2]
  by_cases h5 : (a, b) ∈ p
  · rw [if_pos h5, if_pos ((swp_mem p a b).2 h5)]
  have n3 : ¬ (b, a) ∈ swp p := fun h => h5 ((swp_mem p a b).1 h)
  rw [if_neg h5, if_neg n3, ← h4, sameLen_sym, hcons]
  by_cases h6 : x.f0 = 7 ∨ x.f0 = 8 ∨ x.f0 = 10
  ·
   rw [if_pos h6, if_pos h6]
   split
   · exact hf _ _ _
   · rfl
  rw [if_neg h6, if_neg h6]
  by_cases h7 : x.f0 = 11
  ·
   rw [if_pos h7, if_pos h7]
   by_cases h8 : x.f7.length = y.f7.length
   ·
    have n4 : ¬ (y.f7.length ≠ x.f7.length) := fun h => h h8.symm
    have n5 : ¬ (x.f7.length ≠ y.f7.length) := fun h => h h8
    rw [if_neg n4, if_neg n5, parsR_sym hf]
    simp only
    split
    · exact hf _ _ _
    · rfl
   · rw [if_pos (fun h => h8 h.symm), if_pos h8]
  rw [if_neg h7, if_neg h7]
 · rw [if_pos (fun h => h4 h.symm), if_pos h4]
theorem sameF_sym (t : List S40) : ∀ (n : Nat) (p : Prs) (a b : Int), sameF t n (swp p) b a = ((sameF t n p a b).1, swp (sameF t n p a b).2)
 | 0, p, a, b => rfl
 | n + 1, p, a, b => sameX_sym (sameF_sym t n) p a b (rd_T40 t a) (rd_T40 t b)
theorem parsR_sim {f g : Prs → Int → Int → Bool × Prs} {D : Int → Int → Prop} {R : Prs → Prs → Prop} (hf : ∀ p q a b, R p q → D a b → (f p a b).1 = (g q a b).1 ∧ R (f p a b).2 (g q a b).2) :
 ∀ (vs ws : List S47) (p q : Prs), R p q → (∀ v ∈ vs, ∀ w ∈ ws, D v.f1 w.f1) → (parsR f p vs ws).1 = (parsR g q vs ws).1 ∧ R (parsR f p vs ws).2 (parsR g q vs ws).2
 | [], ws, p, q, h, _ => by unfold parsR; exact ⟨rfl, h⟩
 | v :: vs, [], p, q, h, _ => by unfold parsR; exact ⟨rfl, h⟩
 | v :: vs, w :: ws, p, q, h, hd => by
  obtain ⟨k1, k2⟩ := hf p q v.f1 w.f1 h (hd v (by simp) w (by simp))
  unfold parsR
  split
  ·
   rw [k1]
   split
   · exact parsR_sim hf vs ws _ _ k2 (fun v' hv w' hw => hd v' (by simp [hv]) w' (by simp [hw]))
   · exact ⟨k1, k2⟩
  · exact ⟨rfl, h⟩
structure Closed (t1 t2 : List S40) (D : Int → Int → Prop) : Prop where
 left : ∀ a b, D a b → rd_T40 t1 a = rd_T40 t2 a
 right : ∀ a b, D a b → rd_T40 t1 b = rd_T40 t2 b
 elem : ∀ a b, D a b → (rd_T40 t2 a).f0 = 7 ∨ (rd_T40 t2 a).f0 = 8 ∨ (rd_T40 t2 a).f0 = 10 → (rd_T40 t2 a).f0 = (rd_T40 t2 b).f0 → D (rd_T40 t2 a).f4 (rd_T40 t2 b).f4
 pars : ∀ a b, D a b → (rd_T40 t2 a).f0 = 11 → (rd_T40 t2 a).f0 = (rd_T40 t2 b).f0 → (∀ v ∈ (rd_T40 t2 a).f7, ∀ w ∈ (rd_T40 t2 b).f7, D v.f1 w.f1) ∧ D (rd_T40 t2 a).f8 (rd_T40 t2 b).f8
theorem sameF_sim {t1 t2 : List S40} {D : Int → Int → Prop} {R : Prs → Prs → Prop} (hD : Closed t1 t2 D) (hm : ∀ p q a b, R p q → D a b → ((a, b) ∈ p ↔ (a, b) ∈ q)) (hc : ∀ p q a b, R p q → D a b → R ((a, b) :: p) ((a, b) :: q)) :
 ∀ (n : Nat) (p q : Prs) (a b : Int), R p q → D a b → (sameF t1 n p a b).1 = (sameF t2 n q a b).1 ∧ R (sameF t1 n p a b).2 (sameF t2 n q a b).2
 | 0, p, q, a, b, h, _ => ⟨rfl, h⟩
 | n + 1, p, q, a, b, h, hd => by
  have ih := sameF_sim hD hm hc n
  have e1 := hD.left a b hd
  have e2 := hD.right a b hd
  have e3 := hD.elem a b hd
  have e4 := hD.pars a b hd
  have m1 := hm p q a b h hd
  have c1 := hc p q a b h hd
  show (sameX (sameF t1 n) p a b (rd_T40 t1 a) (rd_T40 t1 b)).1 = (sameX (sameF t2 n) q a b (rd_T40 t2 a) (rd_T40 t2 b)).1 ∧ R (sameX (sameF t1 n) p a b (rd_T40 t1 a) (rd_T40 t1 b)).2 (sameX (sameF t2 n) q a b (rd_T40 t2 a) (rd_T40 t2 b)).2
  rw [e1, e2]
  generalize rd_T40 t2 a = x at e3 e4
  generalize rd_T40 t2 b = y at e3 e4
  unfold sameX
  by_cases h1 : a = b
  · rw [if_pos h1, if_pos h1]; exact ⟨rfl, h⟩
  rw [if_neg h1, if_neg h1]
  by_cases h2 : x.f0 = 9 ∨ y.f0 = 9
  · rw [if_pos h2, if_pos h2]; exact ⟨rfl, h⟩
  rw [if_neg h2, if_neg h2]
  by_cases h3 : sameName x y = true
  · rw [if_pos h3, if_pos h3]; exact ⟨rfl, h⟩
  rw [if_neg h3, if_neg h3]
  by_cases h4 : x.f0 = y.f0
  ·
   have n2 : ¬ (x.f0 ≠ y.f0) := fun h => h h4
   rw [if_neg n2, if_neg n2]
   by_cases h5 : (a, b) ∈ p
   · rw [if_pos h5, if_pos (m1.1 h5)]; exact ⟨rfl, h⟩
   rw [if_neg h5, if_neg (fun h => h5 (m1.2 h))]
   by_cases h6 : x.f0 = 7 ∨ x.f0 = 8 ∨ x.f0 = 10
   ·
    rw [if_pos h6, if_pos h6]
    split
    · exact ih _ _ _ _ c1 (e3 h6 h4)
    · exact ⟨rfl, c1⟩
   rw [if_neg h6, if_neg h6]
   by_cases h7 : x.f0 = 11
   ·
    rw [if_pos h7, if_pos h7]
    split
    · exact ⟨rfl, c1⟩
    ·
     obtain ⟨k1, k2⟩ := parsR_sim ih x.f7 y.f7 _ _ c1 (e4 h7 h4).1
     rw [k1]
     split
     · exact ih _ _ _ _ k2 (e4 h7 h4).2
     · exact ⟨rfl, k2⟩
   rw [if_neg h7, if_neg h7]
   exact ⟨rfl, c1⟩
  · rw [if_pos h4, if_pos h4]; exact ⟨rfl, h⟩
theorem parsR_fuel {t : List S40} {f g : Prs → Int → Int → Bool × Prs} {N : Nat} (hok : ∀ p a b, Pok t p → InT t a → InT t b → Pok t (f p a b).2 ∧ p.length ≤ (f p a b).2.length)
 (hf : ∀ p a b, Pok t p → InT t a → InT t b → N ≤ p.length → f p a b = g p a b) :
 ∀ (vs ws : List S47) (p : Prs), Pok t p → N ≤ p.length → (∀ v ∈ vs, InT t v.f1) → (∀ v ∈ ws, InT t v.f1) → parsR f p vs ws = parsR g p vs ws
 | [], ws, p, _, _, _, _ => by simp [parsR]
 | v :: vs, [], p, _, _, _, _ => by simp [parsR]
 | v :: vs, w :: ws, p, h, hN, h1, h2 => by
  have e := hf p v.f1 w.f1 h (h1 v (by simp)) (h2 w (by simp)) hN
  obtain ⟨k1, k2⟩ := hok p v.f1 w.f1 h (h1 v (by simp)) (h2 w (by simp))
  unfold parsR
  rw [← e]
  split
  ·
   split
   · exact parsR_fuel hok hf vs ws _ k1 (by omega) (fun u hu => h1 u (by simp [hu])) (fun u hu => h2 u (by simp [hu]))
   · rfl
  · rfl
theorem sameF_fuel {t : List S40} (hI : Inner t) : ∀ (n m : Nat) (p : Prs) (a b : Int), Pok t p → InT t a → InT t b → t.length * t.length < p.length + n → t.length * t.length < p.length + m → sameF t n p a b = sameF t m p a b
 | 0, m, p, a, b, h, _, _, hn, _ => absurd h.len (by omega)
 | n + 1, 0, p, a, b, h, _, _, _, hm => absurd h.len (by omega)
 | n + 1, m + 1, p, a, b, h, ha, hb, hn, hm => by
  have ih := sameF_fuel hI n m
  have hA := hI.elem a ha
  have hB := hI.elem b hb
  have pA := hI.par a ha
  have pB := hI.par b hb
  show sameX (sameF t n) p a b (rd_T40 t a) (rd_T40 t b) = sameX (sameF t m) p a b (rd_T40 t a) (rd_T40 t b)
  generalize rd_T40 t a = x at hA pA
  generalize rd_T40 t b = y at hB pB
  unfold sameX
  by_cases h1 : a = b
  · rw [if_pos h1, if_pos h1]
  rw [if_neg h1, if_neg h1]
  by_cases h2 : x.f0 = 9 ∨ y.f0 = 9
  · rw [if_pos h2, if_pos h2]
  rw [if_neg h2, if_neg h2]
  by_cases h3 : sameName x y = true
  · rw [if_pos h3, if_pos h3]
  rw [if_neg h3, if_neg h3]
  by_cases h4 : x.f0 = y.f0
  ·
   have n2 : ¬ (x.f0 ≠ y.f0) := fun h => h h4
   rw [if_neg n2, if_neg n2]
   by_cases h5 : (a, b) ∈ p
   · rw [if_pos h5, if_pos h5]
   rw [if_neg h5, if_neg h5]
   have hk := h.cons ha hb h5
   have hl : ((a, b) :: p).length = p.length + 1 := rfl
   by_cases h6 : x.f0 = 7 ∨ x.f0 = 8 ∨ x.f0 = 10
   · rw [if_pos h6, if_pos h6, ih _ _ _ hk (hA h6) (hB (h4 ▸ h6)) (by omega) (by omega)]
   rw [if_neg h6, if_neg h6]
   by_cases h7 : x.f0 = 11
   ·
    rw [if_pos h7, if_pos h7]
    split
    · rfl
    ·
     have e := parsR_fuel (N := p.length + 1) (fun p a b h ha hb => sameF_ok hI n p a b h ha hb) (fun p' a b h ha hb hN => ih p' a b h ha hb (by omega) (by omega)) x.f7 y.f7 _ hk (by omega) (pA h7).1 (pB (h4 ▸ h7)).1
     obtain ⟨k1, k2⟩ := parsR_ok (fun p a b h ha hb => sameF_ok hI n p a b h ha hb) x.f7 y.f7 _ hk (pA h7).1 (pB (h4 ▸ h7)).1
     rw [← e, ih _ _ _ k1 (pA h7).2 (pB (h4 ▸ h7)).2 (by omega) (by omega)]
   rw [if_neg h7, if_neg h7]
  · rw [if_pos h4, if_pos h4]
end Go.Proofs.Ytgnbemgeiloegaa.Tg
namespace Go.Proofs.Ytgnbemgeiloegaa.Tg
open Go.RowKit
open Go.Proofs.YtgnbemgeiloegaaW.PrintWords Go.Proofs.YtgnbemgeiloegaaW.PrintLast Go.Proofs.YtgnbemgeiloegaaW.PrintMore
set_option linter.unusedVariables false
set_option linter.unusedSimpArgs false
open Go.Proofs.Ytgnbemgeiloegaa.PTypesGoods (S40 S42 S47 k40 k42 k47 rd_T40 rd_T42 rd_T47 at_T40 at_T42 at_T47)
theorem deep_least {g : Int → List Int} {a : Int} : ∀ (d : Nat), Deep g d a → ∃ d0, d0 < d ∧ Deep g (d0 + 1) a ∧ ¬ Deep g d0 a
 | 0, h => h.elim
 | d + 1, h => by
  by_cases h2 : Deep g d a
  ·
   obtain ⟨d0, h3, h4⟩ := deep_least d h2
   exact ⟨d0, by omega, h4⟩
  · exact ⟨d, by omega, h, h2⟩
theorem visits_true {g : Int → List Int} {m n d : Nat}
 (ih : ∀ (a : Int) (st : List Int), At m a → st.length = m → Val st → zeros st < n → Deep g d a → (∀ b, At m b → rd st b = 1 → ¬ Deep g d b) → (visit g n a st).1 = true ∧ ∀ b, At m b → rd (visit g n a st).2 b = 1 → rd st b = 1) :
 ∀ (l : List Int) (st : List Int), (∀ b ∈ l, At m b ∧ Deep g d b) → st.length = m → Val st → zeros st < n → (∀ b, At m b → rd st b = 1 → ¬ Deep g d b) →
  (visits (visit g n) l st).1 = true ∧ ∀ b, At m b → rd (visits (visit g n) l st).2 b = 1 → rd st b = 1
 | [], st, _, _, _, _, _ => ⟨rfl, fun b _ h => h⟩
 | x :: xs, st, hl, hs, hv, hz, ho => by
  obtain ⟨hx1, hx2⟩ := hl x (by simp)
  obtain ⟨k1, k2⟩ := ih x st hx1 hs hv hz hx2 ho
  have kk := visit_keeps g n x st
  obtain ⟨m1, m2⟩ := visits_true ih xs (visit g n x st).2 (fun b hb => hl b (by simp [hb])) (kk.len.trans hs) (kk.val hv) (Nat.lt_of_le_of_lt kk.zer hz) (fun b hb h1 => ho b hb (k2 b hb h1))
  have e : visits (visit g n) (x :: xs) st = visits (visit g n) xs (visit g n x st).2 := by
   simp only [visits]; rw [if_pos k1]
  rw [e]
  exact ⟨m1, fun b hb h1 => k2 b hb (m2 b hb h1)⟩
theorem visit_true {g : Int → List Int} {m : Nat} (hg : ∀ a, At m a → ∀ b ∈ g a, At m b) : ∀ (n d : Nat) (a : Int) (st : List Int), At m a → st.length = m → Val st → zeros st < n → Deep g d a → (∀ b, At m b → rd st b = 1 → ¬ Deep g d b) →
 (visit g n a st).1 = true ∧ ∀ b, At m b → rd (visit g n a st).2 b = 1 → rd st b = 1
 | 0, d, a, st, _, _, _, hz, _, _ => absurd hz (by omega)
 | n + 1, d, a, st, ha, hs, hv, hz, hd, ho => by
  have has : At st.length a := by rw [hs]; exact ha
  have h1 : rd st a ≠ 1 := fun e => ho a ha e hd
  by_cases h2 : rd st a = 2
  ·
   have e : visit g (n + 1) a st = (true, st) := by simp only [visit]; rw [if_neg h1, if_pos h2]
   rw [e]
   exact ⟨rfl, fun b _ h => h⟩
  have h0 : rd st a = 0 := by
   rcases hv _ (rd_mem st a has) with h | h | h
   · exact h
   · exact absurd h h1
   · exact absurd h h2
  obtain ⟨d0, hlt, hd1, hd0⟩ := deep_least d hd
  have hset : ∀ b, At m b → rd (st.set a.toNat 1) b = if b = a then 1 else rd st b := fun b hb => rd_set st a b 1 has (by rw [hs]; exact hb)
  obtain ⟨k1, k2⟩ := visits_true (m := m) (n := n) (d := d0) (fun a' st' p1 p2 p3 p4 p5 p6 => visit_true hg n d0 a' st' p1 p2 p3 p4 p5 p6) (g a) (st.set a.toNat 1) (fun b hb => ⟨hg a ha b hb, hd1 b hb⟩) (by simp [hs]) (val_set hv _ (by omega))
   (by have := zeros_set_lt st a (v := 1) (by omega) has h0; omega)
   (fun b hb e => by
    rw [hset b hb] at e
    by_cases e' : b = a
    · subst e'; exact hd0
    ·
     rw [if_neg e'] at e
     exact fun hh => ho b hb e (hh.mono (by omega)))
  have e : visit g (n + 1) a st = (true, (visits (visit g n) (g a) (st.set a.toNat 1)).2.set a.toNat 2) := by
   simp only [visit]; rw [if_neg h1, if_neg h2, if_pos k1]
  have hl2 : (visits (visit g n) (g a) (st.set a.toNat 1)).2.length = m := by
   have := (visits_keeps (f := visit g n) (fun a' st' => visit_keeps g n a' st') (g a) (st.set a.toNat 1)).len
   rw [this]; simp [hs]
  rw [e]
  refine ⟨rfl, fun b hb h => ?_⟩
  rw [rd_set _ a b 2 (by rw [hl2]; exact ha) (by rw [hl2]; exact hb)] at h
  by_cases e' : b = a
  · rw [if_pos e'] at h; omega
  ·
   rw [if_neg e'] at h
   have := k2 b hb h
   rw [hset b hb, if_neg e'] at this
   exact this
theorem deep_search {t : List S40} (hw : Within t) (h : ∀ a, At t.length a → ∃ n, Deep (insP t) n a) : searchP t = true := by
 obtain ⟨N, hN⟩ := deep_all (g := insP t) (from_ 0 t.length) (fun b hb => h b (from_at (by omega) b hb))
 unfold searchP
 refine (visits_true (m := t.length) (d := N) (fun a st p1 p2 p3 p4 p5 p6 => visit_true (fun a ha => hw.place a ha) _ N a st p1 p2 p3 p4 p5 p6) (from_ 0 t.length) (List.replicate t.length 0) (fun b hb => ⟨from_at (by omega) b hb, hN b hb⟩) (by simp) (val_zeros _) (zeros_start _) (fun b hb e => ?_)).1
 exfalso
 unfold rd At at *
 rw [List.getD_eq_getElem?_getD, List.getElem?_replicate, if_pos (by omega)] at e
 simp at e
theorem gd_deep {t : List S40} (g : GoodR t) : ∃ N, ∀ a, InT t a → Deep (insP t) N a := by
 have ho := gd_ones g
 exact search_deep ho.within ((search_is ho.basics ho.within).symm.trans g.sea)
section
variable {t u : List S40}
theorem rd_app {a : Int} (h : InT t a) : rd_T40 (t ++ u) a = rd_T40 t a := by
 obtain ⟨h0, h1⟩ := h
 unfold rd_T40
 rw [List.getD_eq_getElem?_getD, List.getD_eq_getElem?_getD, List.getElem?_append_left (by omega)]
theorem rd_new {j : Nat} (h : j < u.length) : rd_T40 (t ++ u) ((t.length + j : Nat) : Int) = u[j] := by
 unfold rd_T40
 rw [List.getD_eq_getElem?_getD, Int.toNat_natCast, List.getElem?_append_right (by omega), Nat.add_sub_cancel_left, List.getElem?_eq_getElem h]; rfl
theorem in_app {a : Int} (h : InT t a) : InT (t ++ u) a := ⟨h.1, by have := h.2; rw [List.length_append]; omega⟩
theorem placeP_in {a : Int} : placeP t a = true ↔ InT t a := by unfold placeP InT; simp
theorem form_app {a : Int} (h : InT t a) : form (t ++ u) a = form t a := by
 have e1 : form (t ++ u) a = (rd_T40 (t ++ u) a).f0 := by unfold form; exact if_pos (in_app (u := u) h)
 have e2 : form t a = (rd_T40 t a).f0 := by unfold form; exact if_pos h
 rw [e1, e2, rd_app h]
theorem place_app {a : Int} (h : placeP t a = true) : placeP (t ++ u) a = true := placeP_in.2 (in_app (placeP_in.1 h))
theorem holds_app {a : Int} (h : holdsP t a = true) : holdsP (t ++ u) a = true := by
 have hi : InT t a := holds_at h
 unfold holdsP at h ⊢
 rw [form_app hi]
 rw [placeP_in.2 hi] at h
 rw [place_app (placeP_in.2 hi)]
 exact h
theorem placef_app {a k : Int} (h : (placeP t a && decide (form t a = k)) = true) : (placeP (t ++ u) a && decide (form (t ++ u) a = k)) = true := by
 rw [Bool.and_eq_true] at h ⊢
 rw [form_app (placeP_in.1 h.1)]
 exact ⟨place_app h.1, h.2⟩
theorem par_app {a : Int} (h : parP t a = true) : parP (t ++ u) a = true := by
 unfold parP at h ⊢
 rw [Bool.or_eq_true] at h ⊢
 exact h.imp holds_app placef_app
theorem res_app {a : Int} (h : resP t a = true) : resP (t ++ u) a = true := by
 unfold resP at h ⊢
 rw [Bool.or_eq_true] at h ⊢
 refine h.imp id (fun h => ?_)
 simp only [Bool.and_eq_true] at h ⊢
 have hi : InT t a := holds_at h.1.1
 rw [form_app hi]
 exact ⟨⟨holds_app h.1.1, h.1.2⟩, h.2⟩
theorem bases_app : ∀ (n : Nat) (x : Int) (acc : List Int), InT t x → (∀ b ∈ acc, InT t b) → (basesP t n x acc).2 = true → basesP (t ++ u) n x acc = basesP t n x acc ∧ ∀ b ∈ (basesP t n x acc).1, InT t b
 | 0, x, acc, _, _, h => by simp [basesP] at h
 | n + 1, x, acc, hx, hacc, h => by
  rw [basesP] at h
  rw [basesP, basesP, rd_app hx]
  by_cases h0 : (rd_T40 t x).f5 = 0
  · rw [if_pos h0, if_pos h0]; exact ⟨rfl, hacc⟩
  rw [if_neg h0] at h
  rw [if_neg h0, if_neg h0]
  by_cases h1 : placeP t (rd_T40 t x).f5 = true ∧ form t (rd_T40 t x).f5 = 9
  ·
   have hi := placeP_in.1 h1.1
   rw [if_pos h1] at h
   rw [if_pos h1, if_pos ⟨place_app h1.1, by rw [form_app hi]; exact h1.2⟩]
   by_cases h5 : acc.length > 5
   · rw [if_pos h5] at h; cases h
   ·
    rw [if_neg h5] at h
    rw [if_neg h5, if_neg h5]
    refine bases_app n _ _ hi (fun b hb => ?_) h
    rcases List.mem_append.1 hb with hb | hb
    · exact hacc b hb
    · rw [List.mem_singleton] at hb; subst hb; exact hi
  · rw [if_neg h1] at h; cases h
theorem fields_app : ∀ (l : List S42) (S S' : List ByteArray), fieldsP t S l = some S' → fieldsP (t ++ u) S l = some S'
 | [], S, S', h => h
 | f :: r, S, S', h => by
  rw [fieldsP] at h ⊢
  by_cases hc : (met S f.f0 || !isName f.f0 || !holdsP t f.f2) = true
  · rw [if_pos hc] at h; cases h
  ·
   rw [if_neg hc] at h
   have hh : holdsP t f.f2 = true := by
    cases hp : holdsP t f.f2
    · exact absurd (by rw [hp]; simp) hc
    · rfl
   rw [if_neg (by rw [holds_app hh]; rw [hh] at hc; exact hc)]
   exact fields_app r _ _ h
theorem recs_app : ∀ (l : List Int) (S S' : List ByteArray), (∀ b ∈ l, InT t b) → recsP t S l = some S' → recsP (t ++ u) S l = some S'
 | [], S, S', _, h => h
 | b :: r, S, S', hl, h => by
  rw [recsP] at h ⊢
  rw [rd_app (hl b (by simp))]
  by_cases h6 : (rd_T40 t b).f6.length > 64
  · rw [if_pos h6] at h; cases h
  ·
   rw [if_neg h6] at h
   rw [if_neg h6]
   obtain ⟨S1, h1, h2⟩ := Option.bind_eq_some_iff.1 h
   rw [fields_app _ _ _ h1]
   exact recs_app r _ _ (fun c hc => hl c (by simp [hc])) h2
theorem record_app {a : Int} (ha : InT t a) (h : recordP t a = true) : recordP (t ++ u) a = true := by
 unfold recordP at h ⊢
 simp only [Bool.and_eq_true] at h
 obtain ⟨⟨⟨h1, h2⟩, h3⟩, h4⟩ := h
 obtain ⟨e1, e2⟩ := bases_app (u := u) 6 a [a] ha (fun b hb => by rw [List.mem_singleton] at hb; subst hb; exact ha) h1
 obtain ⟨S', hS⟩ := Option.isSome_iff_exists.1 h4
 rw [e1, rd_app ha, recs_app _ _ _ e2 hS]
 simp only [Bool.and_eq_true]
 exact ⟨⟨⟨h1, h2⟩, h3⟩, rfl⟩
theorem pars_app {l : List S47} (h : parsP t l = true) : parsP (t ++ u) l = true := by
 unfold parsP at h ⊢
 rw [List.all_eq_true] at h ⊢
 exact fun v hv => par_app (h v hv)
theorem case_app {a : Int} {x : S40} (ha : InT t a) (h : caseP t a x = true) : caseP (t ++ u) a x = true := by
 unfold caseP at h ⊢
 split
 ·
  rename_i e; rw [if_pos e] at h
  simp only [Bool.and_eq_true] at h ⊢
  exact ⟨h.1, holds_app h.2⟩
 ·
  rename_i e; rw [if_neg e] at h
  split
  ·
   rename_i e; rw [if_pos e] at h
   rw [Bool.or_eq_true] at h ⊢
   exact h.imp holds_app placef_app
  ·
   rename_i e; rw [if_neg e] at h
   split
   ·
    rename_i e; rw [if_pos e] at h
    exact placef_app h
   ·
    rename_i e; rw [if_neg e] at h
    split
    ·
     rename_i e; rw [if_pos e] at h
     exact record_app ha h
    ·
     rename_i e; rw [if_neg e] at h
     split
     ·
      rename_i e; rw [if_pos e] at h
      simp only [Bool.and_eq_true] at h ⊢
      exact ⟨⟨pars_app h.1.1, h.1.2⟩, res_app h.2⟩
     · rename_i e; rw [if_neg e] at h; cases h
theorem one_app {a : Int} (ha : InT t a) (h : oneP t a = true) : oneP (t ++ u) a = true := by
 unfold oneP oneX at h ⊢
 rw [rd_app ha]
 simp only [Bool.and_eq_true] at h ⊢
 exact ⟨h.1, case_app ha h.2⟩
theorem insP_app {a : Int} (ha : InT t a) : insP (t ++ u) a = insP t a := by
 unfold insP
 rw [rd_app ha]
theorem deep_app (hw : Within t) : ∀ (n : Nat) (a : Int), InT t a → Deep (insP t) n a → Deep (insP (t ++ u)) n a
 | 0, a, _, h => h
 | n + 1, a, ha, h => fun b hb => by
  rw [insP_app ha] at hb
  exact deep_app hw n b (hw.place a ha b hb) (h b hb)
theorem good_app (g : GoodR t) (hl : t.length + u.length ≤ 256) (hone : ∀ i, (t.length : Int) ≤ i → i < (t ++ u).length → oneP (t ++ u) i = true)
 (htw : ∀ i, (t.length : Int) ≤ i → i < (t ++ u).length → (rd_T40 (t ++ u) i).f0 = 9 → (rd_T40 (t ++ u) i).f9 = -1)
 (hdp : ∀ i, (t.length : Int) ≤ i → i < (t ++ u).length → ∃ n, Deep (insP (t ++ u)) n i) : GoodR (t ++ u) := by
 have l7 := g.lo
 have hlen : (t ++ u).length = t.length + u.length := List.length_append
 have hbas : ∀ i : Int, 0 ≤ i → i < 7 → rd_T40 (t ++ u) i = bas i := fun i h0 h7 => by rw [rd_app ⟨h0, by omega⟩]; exact g.bas i h0 h7
 have hall : ∀ i : Int, 7 ≤ i → i < (t ++ u).length → oneP (t ++ u) i = true := fun i h7 hi => by
  by_cases h : i < t.length
  · exact one_app ⟨by omega, h⟩ (g.one i h7 h)
  · exact hone i (by omega) hi
 have ho : Ones (t ++ u) := ⟨by omega, hbas, hall⟩
 refine ⟨by omega, by omega, hbas, hall, ?_, ?_⟩
 ·
  rw [search_is ho.basics ho.within]
  refine deep_search ho.within fun a ha => ?_
  by_cases h : a < t.length
  ·
   obtain ⟨N, hN⟩ := gd_deep g
   exact ⟨N, deep_app (gd_ones g).within N a ⟨ha.1, h⟩ (hN a ⟨ha.1, h⟩)⟩
  · exact hdp a (by omega) ha.2
 ·
  rintro i k h7 hki hi ⟨e1, e2, e3, e4, e5⟩
  by_cases h : i < t.length
  ·
   have hI : InT t i := ⟨by omega, h⟩
   have hK : InT t k := ⟨by omega, by omega⟩
   rw [rd_app hI, rd_app hK] at *
   exact g.twin i k h7 hki h ⟨e1, e2, e3, e4, e5⟩
  · exact e5 (htw i (by omega) hi e1)
end
end Go.Proofs.Ytgnbemgeiloegaa.Tg
namespace Go.Proofs.Ytgnbemgeiloegaa.Tg
open Go.RowKit
open Go.Proofs.YtgnbemgeiloegaaW.PrintWords Go.Proofs.YtgnbemgeiloegaaW.PrintLast Go.Proofs.YtgnbemgeiloegaaW.PrintMore
set_option linter.unusedVariables false
set_option linter.unusedSimpArgs false
open Go.Proofs.Ytgnbemgeiloegaa.PTypesGoods (S40 S42 S47 k40 k42 k47 rd_T40 rd_T42 rd_T47 at_T40 at_T42 at_T47)
theorem sameT_refl (t : List S40) (a : Int) : sameT t a a = true := by
 unfold sameT
 rw [sameF, sameX, if_pos rfl]
theorem sameT_sym (t : List S40) (a b : Int) : sameT t b a = sameT t a b := by
 have h := sameF_sym t (t.length * t.length + 1) [] a b
 have h2 : sameF t (t.length * t.length + 1) [] b a = ((sameF t (t.length * t.length + 1) [] a b).1, swp (sameF t (t.length * t.length + 1) [] a b).2) := h
 unfold sameT
 rw [h2]
section
variable {t u : List S40}
theorem closed_app (g : GoodR t) : Closed (t ++ u) t (fun a b => InT t a ∧ InT t b) := by
 have hI := gd_inner g
 refine ⟨fun a b h => rd_app h.1, fun a b h => rd_app h.2, fun a b h e7 e => ⟨hI.elem a h.1 e7, hI.elem b h.2 (e ▸ e7)⟩, fun a b h e11 e => ⟨fun v hv w hw => ⟨(hI.par a h.1 e11).1 v hv, (hI.par b h.2 (e ▸ e11)).1 w hw⟩, (hI.par a h.1 e11).2, (hI.par b h.2 (e ▸ e11)).2⟩⟩
theorem sameT_app (g : GoodR t) {a b : Int} (ha : InT t a) (hb : InT t b) : sameT (t ++ u) a b = sameT t a b := by
 unfold sameT
 have e1 := (sameF_sim (R := fun p q => p = q) (closed_app (u := u) g) (fun p q a b e _ => by rw [e]) (fun p q a b e _ => by rw [e]) ((t ++ u).length * (t ++ u).length + 1) [] [] a b rfl ⟨ha, hb⟩).1
 rw [e1]
 have hl : t.length * t.length ≤ (t ++ u).length * (t ++ u).length := Nat.mul_le_mul (by simp) (by simp)
 rw [sameF_fuel (gd_inner g) ((t ++ u).length * (t ++ u).length + 1) (t.length * t.length + 1) [] a b (Pok.nil t) ha hb (by rw [List.length_nil]; omega) (by simp)]
theorem gd_twin (g : GoodR t) {a b : Int} (ha : InT t a) (hb : InT t b) (h : Twin (rd_T40 t a) (rd_T40 t b)) : a = b := by
 have a7 := (gd_rec g ha h.1).1
 have b7 := (gd_rec g hb h.2.1).1
 obtain ⟨e1, e2, e3, e4, e5⟩ := h
 rcases Int.lt_trichotomy a b with hlt | heq | hgt
 · exact absurd ⟨e2, e1, e3.symm, e4.symm, fun e => e5 (e4.trans e)⟩ (g.twin b a a7 hlt hb.2)
 · exact heq
 · exact absurd ⟨e1, e2, e3, e4, e5⟩ (g.twin a b b7 hgt ha.2)
theorem same_rec (g : GoodR t) {a b : Int} (ha : InT t a) (hb : InT t b) (h9 : (rd_T40 t a).f0 = 9) (h : sameT t a b = true) : a = b := by
 by_cases e : a = b
 · exact e
 unfold sameT at h
 rw [sameF, sameX, if_neg e, if_pos (.inl h9)] at h
 unfold sameRec at h
 simp only [Bool.and_eq_true, decide_eq_true_eq, beq_iff_eq] at h
 obtain ⟨⟨⟨h1, h2⟩, h3⟩, h4⟩ := h
 exact gd_twin g ha hb ⟨h9, by rw [← h1]; exact h9, bytes_eq h2, h3, h4⟩
theorem ptr_chain (g : GoodR t) {a : Int} (ha : InT t a) (h : (rd_T40 t a).f0 = 10) : InT t (rd_T40 t a).f4 ∧ (rd_T40 t (rd_T40 t a).f4).f0 = 9 ∧ BaseCh t 6 (rd_T40 t a).f4 := by
 obtain ⟨h1, h2⟩ := gd_ptr g ha h
 rw [form_in h1] at h2
 exact ⟨h1, h2, gd_chain g h1 h2⟩
theorem extF_app (g : GoodR t) {b : Int} (hb : InT t b) : ∀ (n : Nat) (a : Int), BaseCh t n a → extF (t ++ u) n a b = extF t n a b
 | 0, a, h => h.elim
 | n + 1, a, h => by
  rw [extF, extF, rd_app h.1, sameT_app g h.1 hb]
  rcases h.2.2 with h5 | h5
  · rw [decide_eq_false (fun e => e h5), Bool.false_and, Bool.false_and]
  · rw [extF_app g hb n _ h5]
theorem extT_app (g : GoodR t) {a b : Int} (ha : InT t a) (hb : InT t b) : extT (t ++ u) a b = extT t a b := by
 unfold extT
 rw [rd_app ha, rd_app hb]
 by_cases h1 : (rd_T40 t a).f0 ≠ (rd_T40 t b).f0
 · rw [if_pos h1, if_pos h1]
 rw [if_neg h1, if_neg h1]
 have h1' : (rd_T40 t a).f0 = (rd_T40 t b).f0 := Classical.not_not.1 h1
 by_cases h2 : (rd_T40 t a).f0 = 10
 ·
  rw [if_pos h2, if_pos h2]
  exact extF_app g (ptr_chain g hb (h1' ▸ h2)).1 6 _ (ptr_chain g ha h2).2.2
 rw [if_neg h2, if_neg h2]
 by_cases h3 : (rd_T40 t a).f0 = 9
 ·
  rw [if_pos h3, if_pos h3]
  exact extF_app g hb 6 _ (gd_chain g ha h3)
 rw [if_neg h3, if_neg h3]
theorem ext_self (t : List S40) (n : Nat) (a : Int) : extF t (n + 1) a a = true := ext_hit' t n a
where ext_hit' (t : List S40) (n : Nat) (a : Int) : extF t (n + 1) a a = true := by rw [extF, sameT_refl]; rfl
theorem ext_deep (g : GoodR t) {b : Int} (hb : InT t b) (h9 : (rd_T40 t b).f0 = 9) : ∀ (n : Nat) (a : Int), BaseCh t n a → extF t n a b = true →
 ∃ m, m ≤ n ∧ BaseCh t m b ∧ deep t m b ≤ deep t n a ∧ (deep t m b = deep t n a → a = b)
 | 0, a, h, _ => h.elim
 | n + 1, a, h, he => by
  rw [extF, Bool.or_eq_true, Bool.and_eq_true, decide_eq_true_eq] at he
  rcases he with he | ⟨h0, he⟩
  ·
   have e := same_rec g h.1 hb h.2.1 he
   subst e
   exact ⟨n + 1, Nat.le_refl _, h, Nat.le_refl _, fun _ => rfl⟩
  ·
   rcases h.2.2 with h5 | h5
   · exact absurd h5 h0
   ·
    obtain ⟨m, m1, m2, m3, m4⟩ := ext_deep g hb h9 n _ h5 he
    have e : deep t (n + 1) a = 1 + deep t n (rd_T40 t a).f5 := by rw [deep, if_neg h0]
    exact ⟨m, by omega, m2, by omega, fun e' => by omega⟩
theorem ext_base (g : GoodR t) {b : Int} (hb : InT t b) (h9 : (rd_T40 t b).f0 = 9) (h0 : (rd_T40 t b).f5 ≠ 0) : ∀ (n : Nat) (a : Int), BaseCh t n a → extF t n a b = true → extF t n a (rd_T40 t b).f5 = true
 | 0, a, h, _ => h.elim
 | n + 1, a, h, he => by
  rw [extF, Bool.or_eq_true, Bool.and_eq_true, decide_eq_true_eq] at he
  rw [extF, Bool.or_eq_true, Bool.and_eq_true, decide_eq_true_eq]
  right
  rcases he with he | ⟨h1, he⟩
  ·
   have e := same_rec g h.1 hb h.2.1 he
   subst e
   refine ⟨h0, ?_⟩
   rcases h.2.2 with h5 | h5
   · exact absurd h5 h0
   ·
    cases n with
    | zero => exact h5.elim
    | succ n => exact ext_self t n _
  ·
   rcases h.2.2 with h5 | h5
   · exact absurd h5 h1
   · exact ⟨h1, ext_base g hb h9 h0 n _ h5 he⟩
theorem asgT_app (g : GoodR t) {a b : Int} (ha : InT t a) (hb : InT t b) : asgT (t ++ u) a b = asgT t a b := by
 have hI := gd_inner g
 unfold asgT asgX
 rw [rd_app ha, rd_app hb, sameT_app g ha hb, extT_app g ha hb]
 split
 · rfl
 split
 · rfl
 split
 · rfl
 split
 ·
  by_cases h7 : (rd_T40 t b).f0 = 7
  · rw [rd_app (hI.elem b hb (.inl h7))]
  · rw [decide_eq_false h7, Bool.false_and, Bool.false_and]
 split
 ·
  rename_i h8
  by_cases h7 : (rd_T40 t b).f0 = 7
  · rw [sameT_app g (hI.elem a ha (.inr (.inl h8))) (hI.elem b hb (.inl h7))]
  · rw [decide_eq_false h7, Bool.false_and, Bool.false_and]
 · rfl
theorem asg_ext {a b : Int} (h : extT t a b = true) : asgT t a b = true := by
 have hf : (rd_T40 t b).f0 = 10 ∨ (rd_T40 t b).f0 = 9 := by
  unfold extT at h
  by_cases h1 : (rd_T40 t a).f0 ≠ (rd_T40 t b).f0
  · rw [if_pos h1] at h; cases h
  rw [if_neg h1] at h
  have h1' : (rd_T40 t a).f0 = (rd_T40 t b).f0 := Classical.not_not.1 h1
  by_cases h2 : (rd_T40 t a).f0 = 10
  · exact .inl (h1' ▸ h2)
  rw [if_neg h2] at h
  by_cases h3 : (rd_T40 t a).f0 = 9
  · exact .inr (h1' ▸ h3)
  rw [if_neg h3] at h; cases h
 unfold asgT asgX
 rw [if_neg (by omega), h, Bool.or_true, if_pos rfl]
theorem opn_elem (hI : Inner t) {b : Int} (hb : InT t b) (h8 : (rd_T40 t b).f0 = 8) : InT t (rd_T40 t b).f4 := hI.elem b hb (.inr (.inl h8))
theorem opnF_app (g : GoodR t) (v : Bool) : ∀ (n : Nat) (a b : Int), InT t a → InT t b → (rd_T40 t b).f0 = 8 → opnF (t ++ u) v n a b = opnF t v n a b
 | 0, a, b, _, _, _ => rfl
 | n + 1, a, b, ha, hb, h8 => by
  have hI := gd_inner g
  have hb4 := opn_elem hI hb h8
  rw [opnF, opnF, rd_app ha, rd_app hb]
  unfold opnX
  rw [rd_app hb4]
  split
  ·
   rename_i h7
   have ha4 : InT t (rd_T40 t a).f4 := hI.elem a ha (by omega)
   rw [sameT_app g ha4 hb4]
   by_cases h : (rd_T40 t (rd_T40 t b).f4).f0 = 8
   · rw [opnF_app g v n _ _ ha4 hb4 h]
   · rw [decide_eq_false h, Bool.false_and, Bool.false_and]
  · rfl
theorem opnF_fuel (hI : Inner t) (v : Bool) : ∀ (n m : Nat) (a b : Int), InT t a → InT t b → (rd_T40 t b).f0 = 8 → Deep (insP t) n b → Deep (insP t) m b → opnF t v n a b = opnF t v m a b
 | 0, m, a, b, _, _, _, h, _ => h.elim
 | n + 1, 0, a, b, _, _, _, _, h => h.elim
 | n + 1, m + 1, a, b, ha, hb, h8, hn, hm => by
  have hb4 := opn_elem hI hb h8
  have hin : (rd_T40 t b).f4 ∈ insP t b := by unfold insP; rw [if_pos (.inr h8)]; simp
  rw [opnF, opnF]
  unfold opnX
  split
  ·
   rename_i h7
   have ha4 : InT t (rd_T40 t a).f4 := hI.elem a ha (by omega)
   by_cases h : (rd_T40 t (rd_T40 t b).f4).f0 = 8
   · rw [opnF_fuel hI v n m _ _ ha4 hb4 h (hn _ hin) (hm _ hin)]
   · rw [decide_eq_false h, Bool.false_and, Bool.false_and]
  · rfl
theorem fitT_fuel (g : GoodR t) {n m : Nat} {a b : Int} (v : Bool) (ha : InT t a) (hb : InT t b) (hn : Deep (insP t) n b) (hm : Deep (insP t) m b) : fitT t n a b v = fitT t m a b v := by
 unfold fitT fitX
 by_cases h : (rd_T40 t b).f0 = 8
 · rw [opnF_fuel (gd_inner g) v n m a b ha hb h hn hm]
 · rw [decide_eq_false h, Bool.false_and, Bool.false_and]
theorem fitT_app (g : GoodR t) {n : Nat} {a b : Int} (v : Bool) (ha : InT t a) (hb : InT t b) : fitT (t ++ u) n a b v = fitT t n a b v := by
 unfold fitT fitX
 rw [rd_app ha, rd_app hb, sameT_app g ha hb, extT_app g ha hb, asgT_app g ha hb]
 by_cases h : (rd_T40 t b).f0 = 8
 · rw [opnF_app g v n a b ha hb h]
 · rw [decide_eq_false h, Bool.false_and, Bool.false_and]
end
end Go.Proofs.Ytgnbemgeiloegaa.Tg
