import Derived.Test.YtgnbemgeiloegaaMTgLz
import Derived.Test.YtgnbemgeiloegaaMTgPor
namespace Go.Proofs.Ytgnbemgeiloegaa.Tg
open Go.RowKit
open Go.Proofs.YtgnbemgeiloegaaW.PrintWords Go.Proofs.YtgnbemgeiloegaaW.PrintLast Go.Proofs.YtgnbemgeiloegaaW.PrintMore
set_option linter.unusedVariables false
set_option linter.unusedSimpArgs false
open Go.Proofs.Ytgnbemgeiloegaa.PTypesGoods
section
variable {t : List S40}
def lvl (t : List S40) (a : Int) : Int := if (rd_T40 t a).f0 = 10 then (deep t 6 (rd_T40 t a).f4 : Int) - 1 else if (rd_T40 t a).f0 = 9 then (deep t 6 a : Int) - 1 else 0
theorem level_run : ∀ (n : Nat) (a acc : Int), BaseCh t n a → 0 ≤ acc → acc + n ≤ 1000 → Ev (fun k => tables_Level.l0 k t a acc) (acc + (deep t n a : Int) - 1)
 | 0, a, acc, h, _, _ => h.elim
 | n + 1, a, acc, h, h0, h1 => by
  by_cases h5 : (rd_T40 t a).f5 = 0
  ·
   have e : deep t (n + 1) a = 1 := by rw [deep, if_pos h5]
   rw [e]
   refine Ev.one fun k => ?_
   rw [tables_Level.l0, if_pos h.1.1, if_pos h.1.2, if_pos h.2.1, if_pos h5]
   congr 1; omega
  ·
   have e : deep t (n + 1) a = 1 + deep t n (rd_T40 t a).f5 := by rw [deep, if_neg h5]
   have hw : wrap64 (acc + 1) = acc + 1 := wr64 (by omega)
   have hb : BaseCh t n (rd_T40 t a).f5 := h.2.2.resolve_left h5
   have ih := level_run n (rd_T40 t a).f5 (acc + 1) hb (by omega) (by omega)
   have e2 : acc + 1 + (deep t n (rd_T40 t a).f5 : Int) - 1 = acc + (deep t (n + 1) a : Int) - 1 := by rw [e]; omega
   rw [e2] at ih
   refine Ev.step (fun k => ?_) ih
   rw [tables_Level.l0, if_pos h.1.1, if_pos h.1.2, if_pos h.2.1, if_neg h5, hw]
theorem level_in (g : GoodR t) {a : Int} (ha : InT t a) : Ev (fun k => tables_Level.f k t a) (lvl t a) := by
 have hj : ∀ x r, Ev (fun k => tables_Level.l0 k t x 0) r → Ev (fun k => tables_Level.j0 k t x) r := fun x r h => Ev.step (fun k => by rw [tables_Level.j0]) h
 unfold lvl
 by_cases h10 : (rd_T40 t a).f0 = 10
 ·
  rw [if_pos h10]
  have := level_run 6 _ 0 (ptr_chain g ha h10).2.2 (by omega) (by omega)
  rw [Int.zero_add] at this
  refine Ev.congr (fun k => ?_) (hj _ _ this)
  rw [tables_Level.f, if_pos ha.1, if_pos ha.2, if_pos h10]
 ·
  rw [if_neg h10]
  have e : ∀ k, tables_Level.f k t a = tables_Level.j0 k t a := fun k => by rw [tables_Level.f, if_pos ha.1, if_pos ha.2, if_neg h10]
  refine Ev.congr e (hj _ _ ?_)
  by_cases h9 : (rd_T40 t a).f0 = 9
  ·
   rw [if_pos h9]
   have := level_run 6 _ 0 (gd_chain g ha h9) (by omega) (by omega)
   rwa [Int.zero_add] at this
  ·
   rw [if_neg h9]
   refine Ev.one fun k => ?_
   rw [tables_Level.l0, if_pos ha.1, if_pos ha.2, if_neg h9]
theorem lvl_in (h : Fine t) (g : GoodR t) {a : Int} (ha : InT t a) : Ev (fun k => types_Level.f k t a) (lvl t a) := by
 unfold types_Level.f
 have hp := places1 h a
 rw [inb_yes ha, good_true g] at hp
 refine Ev.bind hp ?_
 simp only [Bool.and_self, eq_self, if_true]
 exact Ev.bind (level_in g ha) (Ev.eq rfl)
theorem ord_facts (g : GoodR t) {a b : Int} (ha : InT t a) (hb : InT t b) (h : extT t a b = true) :
 ((rd_T40 t a).f0 = 9 → extT t b a = sameT t a b) ∧ lvl t b ≤ lvl t a ∧ ((rd_T40 t b).f0 = 9 → (rd_T40 t b).f5 ≠ 0 → InT t (rd_T40 t b).f5 ∧ extT t a (rd_T40 t b).f5 = true) := by
 unfold extT at h
 by_cases h1 : (rd_T40 t a).f0 ≠ (rd_T40 t b).f0
 · rw [if_pos h1] at h; cases h
 rw [if_neg h1] at h
 have h1' : (rd_T40 t a).f0 = (rd_T40 t b).f0 := Classical.not_not.1 h1
 by_cases h2 : (rd_T40 t a).f0 = 10
 ·
  rw [if_pos h2] at h
  obtain ⟨a1, a2, a3⟩ := ptr_chain g ha h2
  obtain ⟨b1, b2, b3⟩ := ptr_chain g hb (h1' ▸ h2)
  refine ⟨fun h9 => by omega, ?_, fun h9 => by omega⟩
  obtain ⟨m, m1, m2, m3, _⟩ := ext_deep g b1 b2 6 _ a3 h
  have := deep_eq m 6 _ m2 m1
  unfold lvl
  rw [if_pos h2, if_pos (h1' ▸ h2)]
  omega
 rw [if_neg h2] at h
 by_cases h3 : (rd_T40 t a).f0 = 9
 ·
  rw [if_pos h3] at h
  have hb9 : (rd_T40 t b).f0 = 9 := h1' ▸ h3
  have ca := gd_chain g ha h3
  have cb := gd_chain g hb hb9
  obtain ⟨m, m1, m2, m3, m4⟩ := ext_deep g hb hb9 6 _ ca h
  have ed := deep_eq m 6 _ m2 m1
  refine ⟨fun _ => ?_, ?_, fun _ h5 => ?_⟩
  ·
   unfold extT
   rw [if_neg (fun e => e h1'.symm), if_neg (by omega), if_pos hb9]
   cases he : extF t 6 b a with
   | true =>
    obtain ⟨m', k1, k2, k3, k4⟩ := ext_deep g ha h3 6 _ cb he
    have ed' := deep_eq m' 6 _ k2 k1
    have e : a = b := m4 (by omega)
    rw [e, sameT_refl]
   | false =>
    cases hs : sameT t a b with
    | false => rfl
    | true =>
     have e := same_rec g ha hb h3 hs
     rw [e, ext_self] at he
     cases he
  ·
   unfold lvl
   rw [if_neg h2, if_pos h3, if_neg (by omega), if_pos hb9]
   omega
  ·
   have c5 : BaseCh t 5 (rd_T40 t b).f5 := cb.2.2.resolve_left h5
   refine ⟨c5.1, ?_⟩
   unfold extT
   rw [if_neg (fun e => e (h3.trans c5.2.1.symm)), if_neg h2, if_pos h3]
   exact ext_base g hb hb9 h5 6 _ ca h
 · rw [if_neg h3] at h; cases h
end
theorem j0_wakes (t : List S40) (a b : Int) : Ev (fun k => spinetlaw13_TypesOrder.j0 k t a b true) true :=
 Ev.step (f := fun k => (spinetlaw13_wakes.f k).bind fun t => some t) (fun k => by rw [spinetlaw13_TypesOrder.j0, if_pos rfl]) (Ev.bind wakes_is (Ev.eq rfl))
theorem order_main {t : List S40} (h : Fine t) (g : GoodR t) {a b : Int} (ha : InT t a) (hb : InT t b) : Ev (fun k => spinetlaw13_TypesOrder.j0 k t a b false) true := by
 have hlen : t.length ≤ 4000 := Nat.le_trans g.hi (by decide)
 have hj2 : extT t a b = true → Ev (fun k => spinetlaw13_TypesOrder.j2 k t a b t false) true := fun he => by
  obtain ⟨_, _, f3⟩ := ord_facts g ha hb he
  by_cases h9 : (rd_T40 t b).f0 = 9
  ·
   by_cases h5 : (rd_T40 t b).f5 = 0
   ·
    refine Ev.step (fun k => ?_) wake_end
    rw [spinetlaw13_TypesOrder.j2, if_neg (by decide), if_pos hb.1, if_pos hb.2, if_pos h9, if_pos h5]
   ·
    obtain ⟨i5, e5⟩ := f3 h9 h5
    refine Ev.step (f := fun k => (types_Extends.f k t a ((rd_T40 t b).f5)).bind fun t254 => (if t254 = true then ((spinetlaw13_wakes.f k).bind fun t255 => (some t255)) else (some false))) (fun k => ?_) ?_
    · rw [spinetlaw13_TypesOrder.j2, if_neg (by decide), if_pos hb.1, if_pos hb.2, if_pos h9, if_neg h5]
    ·
     refine Ev.bind (ext_in h g ha i5) ?_
     rw [e5]
     simp only [eq_self, if_true]
     exact wake_end
  ·
   refine Ev.step (fun k => ?_) wake_end
   rw [spinetlaw13_TypesOrder.j2, if_neg (by decide), if_pos hb.1, if_pos hb.2, if_neg h9]
 have hj1 : Ev (fun k => spinetlaw13_TypesOrder.j1 k t a b t false) true := by
  refine Ev.step (f := fun k => (types_Extends.f k t a b).bind fun t241 => (if t241 = true then ((types_Assign.f k t a b).bind fun t242 => (if t242 = true then ((types_Extends.f k t b a).bind fun t243 => ((types_Same.f k t a b).bind fun t244 => (if (t243 != t244) = true then (if 0 ≤ a then (if a < (t.length : Int) then (if ((rd_T40 t a).f0) = 9 then (spinetlaw13_TypesOrder.j2 k t a b t true) else ((types_Level.f k t a).bind fun t246 => ((types_Level.f k t b).bind fun t247 => (spinetlaw13_TypesOrder.j2 k t a b t (decide (t246 < t247)))))) else (none)) else (none)) else ((types_Level.f k t a).bind fun t248 => ((types_Level.f k t b).bind fun t249 => (spinetlaw13_TypesOrder.j2 k t a b t (decide (t248 < t249)))))))) else (spinetlaw13_TypesOrder.j2 k t a b t true))) else ((spinetlaw13_wakes.f k).bind fun t257 => (some t257)))) (fun k => ?_) ?_
  · rw [spinetlaw13_TypesOrder.j1, if_neg (by decide)]
  refine Ev.bind (ext_in h g ha hb) ?_
  cases he : extT t a b with
  | false =>
   simp only [Bool.false_eq_true, if_false]
   exact wake_end
  | true =>
   obtain ⟨f1, f2, _⟩ := ord_facts g ha hb he
   simp only [eq_self, if_true]
   refine Ev.bind (asg_in h g ha hb) ?_
   rw [asg_ext he]
   simp only [eq_self, if_true]
   refine Ev.bind (ext_in h g hb ha) ?_
   refine Ev.bind (same_in h g ha hb) ?_
   have hlv : Ev (fun k => (types_Level.f k t a).bind fun t248 => ((types_Level.f k t b).bind fun t249 => (spinetlaw13_TypesOrder.j2 k t a b t (decide (t248 < t249))))) true := by
    refine Ev.bind (lvl_in h g ha) ?_
    refine Ev.bind (lvl_in h g hb) ?_
    rw [decide_eq_false (by omega)]
    exact hj2 he
   by_cases h9 : (rd_T40 t a).f0 = 9
   ·
    rw [f1 h9]
    simp only [bne_self_eq_false, Bool.false_eq_true, if_false]
    exact hlv
   ·
    have e1 : (0 ≤ a) = True := eq_true ha.1
    have e2 : (a < (t.length : Int)) = True := eq_true ha.2
    have e3 : ((rd_T40 t a).f0 = 9) = False := eq_false h9
    simp only [e1, e2, e3, if_true, if_false, ite_self]
    exact hlv
 refine Ev.step (f := fun k => (spinetref13_Copy.f t).bind fun t235 => ((types_Same.f k t235 a b).bind fun t238 => ((types_Same.f k t235 b a).bind fun t239 => (if (t238 != t239) = true then (spinetlaw13_TypesOrder.j1 k t a b t235 true) else ((types_Same.f k t235 a a).bind fun t240 => (spinetlaw13_TypesOrder.j1 k t a b t235 (!t240))))))) (fun k => ?_) ?_
 · rw [spinetlaw13_TypesOrder.j0, if_neg (by decide)]
 refine Ev.bind (Ev.eq (copy_is h.parms hlen)) ?_
 refine Ev.bind (same_in h g ha hb) ?_
 refine Ev.bind (same_in h g hb ha) ?_
 rw [sameT_sym t a b]
 simp only [bne_self_eq_false, Bool.false_eq_true, if_false]
 refine Ev.bind (same_in h g ha ha) ?_
 rw [sameT_refl]
 exact hj1
theorem order_is {t : List S40} (hL : Lim t) (a b : Int) : Ev (fun k => spinetlaw13_TypesOrder.f k t a b) true := by
 obtain ⟨r, hr, hp⟩ := large_is hL
 unfold spinetlaw13_TypesOrder.f
 refine Ev.bind hr ?_
 cases r with
 | true =>
  simp only [eq_self, if_true]
  exact j0_wakes t a b
 | false =>
  obtain ⟨h3, hp⟩ := hp rfl
  have hF : Fine t := ⟨lim_sized hL, hp⟩
  simp only [Bool.false_eq_true, if_false]
  refine Ev.bind (Ev.eq (fine_ref hF)) ?_
  cases hg : goodR t with
  | false =>
   simp only [Bool.false_eq_true, if_false]
   exact j0_wakes t a b
  | true =>
   have g := good_of hg
   simp only [eq_self, if_true]
   by_cases h1 : a < 0
   · simp only [eq_true h1, if_true]; exact j0_wakes t a b
   by_cases h2 : b < 0
   · simp only [eq_false h1, eq_true h2, if_true, if_false]; exact j0_wakes t a b
   by_cases h4 : a ≥ (t.length : Int)
   · simp only [eq_false h1, eq_false h2, eq_true h4, if_true, if_false]; exact j0_wakes t a b
   by_cases h5 : b ≥ (t.length : Int)
   · simp only [eq_false h1, eq_false h2, eq_false h4, eq_true h5, if_true, if_false, decide_true]; exact j0_wakes t a b
   ·
    simp only [eq_false h1, eq_false h2, eq_false h4, eq_false h5, if_false, decide_false]
    exact order_main hF g ⟨by omega, by omega⟩ ⟨by omega, by omega⟩
theorem order_calls {w : World} {A : Option Addr} {c : Nat} {t : List S40} (hC : Kd.C k40 w A t.length t) (hc : t.length ≤ c) (hL : Lim t) (a b : Int) :
 Calls Try.prog 9 #[.slice A t.length c, .int .i64 a, .int .i64 b] w fun e w' => e = .returned (.bool true) ∧ Below w.heap.size w w' := by
 obtain ⟨k, hk⟩ := (order_is hL a b).rounds
 exact spinetlaw13_TypesOrder.calls k A c t a b true ⟨rfl⟩ w hC hc hk
end Go.Proofs.Ytgnbemgeiloegaa.Tg
