import Derived.Test.YtgnbemgeiloegaaMTgPu
import Derived.Test.YtgnbemgeiloegaaMTgLc
import Derived.Test.YtgnbemgeiloegaaMTgLq
import Derived.Test.YtgnbemgeiloegaaMTgPf
namespace Go.Proofs.Ytgnbemgeiloegaa.Tg
open Go.RowKit
open Go.Proofs.YtgnbemgeiloegaaW.PrintWords Go.Proofs.YtgnbemgeiloegaaW.PrintLast Go.Proofs.YtgnbemgeiloegaaW.PrintMore
set_option linter.unusedVariables false
set_option linter.unusedSimpArgs false
open Go.Proofs.Ytgnbemgeiloegaa.PTypesGoods
section
variable {t : List S40}
theorem t_same (h : Fine t) (g : GoodR t) (a b : Int) : Ev (fun k => types_Same.f k t a b) (inb t a && inb t b && sameT t a b) := by
 unfold types_Same.f
 refine Ev.bind (places2 h a b) ?_
 rw [good_true g, Bool.and_true]
 by_cases ha : InT t a ∧ InT t b
 ·
  rw [inb_yes ha.1, inb_yes ha.2]
  refine Ev.eq ?_
  have e : tables_Same.f t a b = some (sameT t a b) := by unfold tables_Same.f; exact if_pos ⟨h.parms, g, ha.1, ha.2⟩
  simp only [Bool.and_self, eq_self, if_true, Bool.true_and, e]; rfl
 ·
  have : (inb t a && inb t b) = false := by
   by_cases h1 : InT t a
   · rw [inb_no (fun h2 => ha ⟨h1, h2⟩), Bool.and_false]
   · rw [inb_no h1, Bool.false_and]
  rw [this]
  exact Ev.eq rfl
theorem same_in (h : Fine t) (g : GoodR t) {a b : Int} (ha : InT t a) (hb : InT t b) : Ev (fun k => types_Same.f k t a b) (sameT t a b) := by
 have := t_same h g a b
 rwa [inb_yes ha, inb_yes hb] at this
theorem ext_in (h : Fine t) (g : GoodR t) {a b : Int} (ha : InT t a) (hb : InT t b) : Ev (fun k => types_Extends.f k t a b) (extT t a b) := by
 have := t_ext h g a b
 rwa [inb_yes ha, inb_yes hb] at this
theorem asg_in (h : Fine t) (g : GoodR t) {a b : Int} (ha : InT t a) (hb : InT t b) : Ev (fun k => types_Assign.f k t a b) (asgT t a b) := by
 have := t_asg h g a b
 rwa [inb_yes ha, inb_yes hb] at this
end
theorem wake_end : Ev (fun k => (spinetlaw13_wakes.f k).bind fun t => some t) true := Ev.bind wakes_is (Ev.eq rfl)
theorem fit_in {t : List S40} (h : Fine t) (g : GoodR t) {a b : Int} (v : Bool) (ha : InT t a) (hb : InT t b) {n : Nat} (hn : Deep (insP t) n b) : Ev (fun k => types_Fits.f k t a v b) (fitT t n a b v) := by
 unfold types_Fits.f
 have hp := places2 h a b
 rw [inb_yes ha, inb_yes hb, good_true g] at hp
 refine Ev.bind hp ?_
 simp only [Bool.and_self, eq_self, if_true]
 exact Ev.eq (by rw [tables_Fits.is v h.parms g ha hb hn]; rfl)
theorem fine_app {t u : List S40} (h : Fine t) (hu : Fine u) : Fine (t ++ u) :=
 ⟨fun x hx => (List.mem_append.1 hx).elim (h.sized x) (hu.sized x), fun x hx => (List.mem_append.1 hx).elim (h.parms x) (hu.parms x)⟩
theorem fine_arr (n e : Int) : Fine [arrE n e] := ⟨fun x hx => by rw [List.mem_singleton] at hx; subst hx; exact ⟨Nat.zero_le _, Nat.zero_le _, fun f hf => by cases hf⟩, fun x hx => by rw [List.mem_singleton] at hx; subst hx; exact ⟨Nat.zero_le _, Nat.zero_le _⟩⟩
theorem fine_opn (e : Int) : Fine [opE e] := ⟨fun x hx => by rw [List.mem_singleton] at hx; subst hx; exact ⟨Nat.zero_le _, Nat.zero_le _, fun f hf => by cases hf⟩, fun x hx => by rw [List.mem_singleton] at hx; subst hx; exact ⟨Nat.zero_le _, Nat.zero_le _⟩⟩
end Go.Proofs.Ytgnbemgeiloegaa.Tg
