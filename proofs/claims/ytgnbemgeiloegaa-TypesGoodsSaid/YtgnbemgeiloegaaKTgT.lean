import Derived.Test.YtgnbemgeiloegaaKTgSm
import Derived.Test.YtgnbemgeiloegaaKTgG
namespace Go.Proofs.Ytgnbemgeiloegaa.Tg
open Go.RowKit Go.Maps Go.WideMaps
open Go.Proofs.YtgnbemgeiloegaaW.PrintWords Go.Proofs.YtgnbemgeiloegaaW.PrintLast Go.Proofs.YtgnbemgeiloegaaW.PrintMore
set_option linter.unusedVariables false
set_option linter.unusedSimpArgs false
open Go.Proofs.Ytgnbemgeiloegaa.PTypesGoods (S40 S42 S47 k40 k42 k47 rd_T40 rd_T42 rd_T47 at_T40 at_T42 at_T47)
theorem same_at {t : List S40} {w0 : World} {A : Option Addr} {c g : Nat} (hI : Inner t) (hC : Kd.C k40 w0 A t.length t) (hc : t.length ≤ c) (hpm : Parms t) (hgw : w0.heap.size ≤ g) : ∀ n, SameAt t w0 A c g n
  | 0 => fun p a b w hp ha hb hf hw => absurd hp.len (by omega)
  | n + 1 => same_succ hI hC hc hpm hgw (same_at hI hC hc hpm hgw n)
/-- the program's tables.Same -/
def sameT (t : List S40) (a b : Int) : Bool := (sameF t (t.length * t.length + 1) [] a b).1
set_option maxHeartbeats 4000000 in
theorem Same_calls {w : World} {A : Option Addr} {c : Nat} {t : List S40} (hC : Kd.C k40 w A t.length t) (hc : t.length ≤ c) (hpm : Parms t) (hI : Inner t) (a b : Int) (ha : InT t a) (hb : InT t b) :
    Calls Try.prog 47 #[.slice A t.length c, .int .i64 a, .int .i64 b] w fun e w' => e = .returned (.bool (sameT t a b)) ∧ Below w.heap.size w w' := by
  have hW : WP w w.heap.size [] (w.alloc (.map #[] 0)) := ⟨by rw [metP_nil]; exact MapG.made 83 w, below_alloc (Below.refl _ _) _⟩
  have hS := Aside0.mk (same_at hI hC hc hpm (Nat.le_refl w.heap.size) (t.length * t.length + 1) [] a b _ (Pok.nil t) ha hb (by simp) hW)
  clear hC hpm hI hW
  have hmm := @run_makeMap Try.prog
  go_enter Try.func47, Try.ntmps47
  go_wp2_with (go_at_call 65; refine hS.out.mono ?_; rintro e w4 ⟨rfl, hW4, hK4⟩)
  go_ret
  exact ⟨rfl, hW4.below⟩
/-! GOOD TABLES -/
theorem gd_case {t : List S40} (g : GoodR t) {a : Int} (ha : InT t a) : (rd_T40 t a = bas a ∧ a < 7) ∨ (7 ≤ a ∧ caseP t a (rd_T40 t a) = true ∧ ((rd_T40 t a).f0 = 7 ∨ (rd_T40 t a).f0 = 8 ∨ (rd_T40 t a).f0 = 9 ∨ (rd_T40 t a).f0 = 10 ∨ (rd_T40 t a).f0 = 11)) := by
  by_cases h7 : a < 7
  · exact .inl ⟨g.bas a ha.1 h7, h7⟩
  · have ho := g.one a (by omega) ha.2
    exact .inr ⟨by omega, (one_parts ho).2.2.2, one_form ho⟩
theorem gd_zero {t : List S40} (g : GoodR t) : InT t 0 := ⟨Int.le_refl 0, by have := g.lo; omega⟩
theorem par_at {t : List S40} {i : Int} (h : parP t i = true) : InT t i := by
  unfold parP at h
  simp only [Bool.or_eq_true, Bool.and_eq_true] at h
  rcases h with h | h
  · exact holds_at h
  · exact place_at h.1
theorem gd_arr {t : List S40} (g : GoodR t) {a : Int} (ha : InT t a) (h : (rd_T40 t a).f0 = 7) : holdsP t (rd_T40 t a).f4 = true ∧ 1 ≤ (rd_T40 t a).f3 ∧ (rd_T40 t a).f3 ≤ 4096 := by
  rcases gd_case g ha with ⟨e, e7⟩ | ⟨_, hc, _⟩
  · rw [e] at h
    have : a = 7 := h
    omega
  · unfold caseP at hc
    rw [if_pos h] at hc
    simp only [Bool.and_eq_true, decide_eq_true_eq] at hc
    exact ⟨hc.2, hc.1.1, hc.1.2⟩
theorem gd_opn {t : List S40} (g : GoodR t) {a : Int} (ha : InT t a) (h : (rd_T40 t a).f0 = 8) : holdsP t (rd_T40 t a).f4 = true ∨ placeP t (rd_T40 t a).f4 = true ∧ form t (rd_T40 t a).f4 = 8 := by
  rcases gd_case g ha with ⟨e, e7⟩ | ⟨_, hc, _⟩
  · rw [e] at h
    have : a = 8 := h
    omega
  · unfold caseP at hc
    rw [if_neg (by omega), if_pos h] at hc
    simpa using hc
theorem gd_ptr {t : List S40} (g : GoodR t) {a : Int} (ha : InT t a) (h : (rd_T40 t a).f0 = 10) : InT t (rd_T40 t a).f4 ∧ form t (rd_T40 t a).f4 = 9 := by
  rcases gd_case g ha with ⟨e, e7⟩ | ⟨_, hc, _⟩
  · rw [e] at h
    have : a = 10 := h
    omega
  · unfold caseP at hc
    rw [if_neg (by omega), if_neg (by omega), if_pos h] at hc
    simp only [Bool.and_eq_true, decide_eq_true_eq] at hc
    exact ⟨place_at hc.1, hc.2⟩
theorem gd_rec {t : List S40} (g : GoodR t) {a : Int} (ha : InT t a) (h : (rd_T40 t a).f0 = 9) : 7 ≤ a ∧ recordP t a = true := by
  rcases gd_case g ha with ⟨e, e7⟩ | ⟨h7, _, _⟩
  · rw [e] at h
    have : a = 9 := h
    omega
  · exact ⟨h7, one_record (g.one a h7 ha.2) h⟩
theorem gd_prc {t : List S40} (g : GoodR t) {a : Int} (ha : InT t a) (h : (rd_T40 t a).f0 = 11) : (∀ v ∈ (rd_T40 t a).f7, parP t v.f1 = true) ∧ (rd_T40 t a).f7.length ≤ 64 ∧ resP t (rd_T40 t a).f8 = true := by
  rcases gd_case g ha with ⟨e, e7⟩ | ⟨_, hc, _⟩
  · rw [e] at h
    have : a = 11 := h
    omega
  · unfold caseP at hc
    rw [if_neg (by omega), if_neg (by omega), if_neg (by omega), if_neg (by omega), if_pos h] at hc
    simp only [Bool.and_eq_true, decide_eq_true_eq] at hc
    refine ⟨fun v hv => ?_, hc.1.2, hc.2⟩
    have := hc.1.1
    unfold parsP at this
    exact List.all_eq_true.1 this v hv
theorem gd_inner {t : List S40} (g : GoodR t) : Inner t := by
  refine ⟨fun a ha h => ?_, fun a ha h => ?_, g.lo, g.hi⟩
  · rcases h with h | h | h
    · exact holds_at (gd_arr g ha h).1
    · rcases gd_opn g ha h with h | h
      · exact holds_at h
      · exact place_at h.1
    · exact (gd_ptr g ha h).1
  · obtain ⟨h1, h2, h3⟩ := gd_prc g ha h
    refine ⟨fun v hv => par_at (h1 v hv), ?_⟩
    unfold resP at h3
    simp only [Bool.or_eq_true, decide_eq_true_eq, Bool.and_eq_true] at h3
    rcases h3 with h3 | h3
    · rw [h3]; exact gd_zero g
    · exact holds_at h3.1.1
end Go.Proofs.Ytgnbemgeiloegaa.Tg
