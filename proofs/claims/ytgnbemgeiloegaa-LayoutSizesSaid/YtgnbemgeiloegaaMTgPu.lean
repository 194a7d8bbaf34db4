import Derived.Test.YtgnbemgeiloegaaMTgPr
import Derived.Test.YtgnbemgeiloegaaMTgOpn
namespace Go.Proofs.Ytgnbemgeiloegaa.Tg
open Go.RowKit
open Go.Proofs.YtgnbemgeiloegaaW.PrintWords Go.Proofs.YtgnbemgeiloegaaW.PrintLast Go.Proofs.YtgnbemgeiloegaaW.PrintMore
set_option linter.unusedVariables false
set_option linter.unusedSimpArgs false
open Go.Proofs.Ytgnbemgeiloegaa.PTypesGoods
theorem Ev.eq {α : Type} {x : Option α} {r : α} (h : x = some r) : Ev (fun _ => x) r := ⟨0, fun _ _ => h⟩
theorem Ev.one {α : Type} {g : Nat → Option α} {r : α} (h : ∀ k, g (k + 1) = some r) : Ev g r := ⟨1, fun k hk => by obtain ⟨k, rfl⟩ : ∃ j, k = j + 1 := ⟨k - 1, by omega⟩; exact h k⟩
structure Fine (t : List S40) : Prop where
 sized : Sized t
 parms : Parms t
theorem fine_good {t : List S40} (h : Fine t) : types_Good.f t = some (goodR t) := by
 unfold types_Good.f tables_Good.f
 rw [if_pos ⟨h.sized, h.parms⟩, good_is]; rfl
theorem fine_ref {t : List S40} (h : Fine t) : spinetref13_Good.f t = some (goodR t) := by
 unfold spinetref13_Good.f
 rw [if_pos ⟨h.sized, h.parms⟩]
theorem fine_tab {t : List S40} (h : Fine t) : tables_Good.f t = some (goodR t) := by
 unfold tables_Good.f
 rw [if_pos ⟨h.sized, h.parms⟩, good_is]
theorem good_true {t : List S40} (g : GoodR t) : goodR t = true := by unfold goodR; exact @decide_eq_true _ (Classical.propDecidable _) g
theorem good_of {t : List S40} (h : goodR t = true) : GoodR t := by unfold goodR at h; exact @of_decide_eq_true _ (Classical.propDecidable _) h
open Classical in
noncomputable def inb (t : List S40) (a : Int) : Bool := decide (InT t a)
theorem inb_yes {t : List S40} {a : Int} (h : InT t a) : inb t a = true := by unfold inb; exact @decide_eq_true _ (Classical.propDecidable _) h
theorem inb_no {t : List S40} {a : Int} (h : ¬ InT t a) : inb t a = false := by unfold inb; exact @decide_eq_false _ (Classical.propDecidable _) h
theorem places_more (k : Nat) (t : List S40) (l : List Int) (n i : Int) (h1 : i < n) (h0 : 0 ≤ i) (h2 : i < (l.length : Int)) :
 types_places.l0 (k + 1) t l n i = if rd l i < 0 then some false else (if rd l i ≥ (t.length : Int) then some false else types_places.l0 k t l n (wrap64 (i + 1))) := by
 rw [types_places.l0, if_pos h1, if_pos h0, if_pos h2]
theorem places_stop (k : Nat) {t : List S40} (h : Fine t) (l : List Int) (n i : Int) (h1 : ¬ i < n) : types_places.l0 (k + 1) t l n i = some (goodR t) := by
 rw [types_places.l0, if_neg h1, fine_tab h]; rfl
theorem places_no (k : Nat) {t : List S40} (l : List Int) (n i : Int) (h1 : i < n) (h0 : 0 ≤ i) (h2 : i < (l.length : Int)) (hn : ¬ InT t (rd l i)) : types_places.l0 (k + 1) t l n i = some false := by
 rw [places_more k t l n i h1 h0 h2]
 by_cases h3 : rd l i < 0
 · rw [if_pos h3]
 ·
  rw [if_neg h3]
  by_cases h4 : rd l i ≥ (t.length : Int)
  · rw [if_pos h4]
  · exact absurd ⟨by omega, by omega⟩ hn
theorem places_yes (k : Nat) {t : List S40} (l : List Int) (n i : Int) (h1 : i < n) (h0 : 0 ≤ i) (h2 : i < (l.length : Int)) (hn : InT t (rd l i)) : types_places.l0 (k + 1) t l n i = types_places.l0 k t l n (wrap64 (i + 1)) := by
 rw [places_more k t l n i h1 h0 h2]
 have a1 := hn.1
 have a2 := hn.2
 rw [if_neg (by omega), if_neg (by omega)]
theorem w01 : wrap64 (0 + 1) = 1 := by kernel_rfl
theorem w11 : wrap64 (1 + 1) = 2 := by kernel_rfl
theorem places1 {t : List S40} (h : Fine t) (a : Int) : Ev (fun k => types_places.f k t [a]) (inb t a && goodR t) := by
 refine Ev.congr (f := fun k => types_places.l0 k t [a] 1 0) (fun k => rfl) ?_
 by_cases ha : InT t a
 ·
  rw [inb_yes ha, Bool.true_and]
  refine Ev.step (f := fun k => types_places.l0 k t [a] 1 1) (fun k => ?_) ?_
  · rw [places_yes k [a] 1 0 (by decide) (by decide) (by simp) ha, w01]
  · exact Ev.one fun k => places_stop k h [a] 1 1 (by decide)
 ·
  rw [inb_no ha, Bool.false_and]
  exact Ev.one fun k => places_no k [a] 1 0 (by decide) (by decide) (by simp) ha
theorem places2 {t : List S40} (h : Fine t) (a b : Int) : Ev (fun k => types_places.f k t [a, b]) (inb t a && inb t b && goodR t) := by
 refine Ev.congr (f := fun k => types_places.l0 k t [a, b] 2 0) (fun k => rfl) ?_
 by_cases ha : InT t a
 ·
  rw [inb_yes ha, Bool.true_and]
  refine Ev.step (f := fun k => types_places.l0 k t [a, b] 2 1) (fun k => ?_) ?_
  · rw [places_yes k [a, b] 2 0 (by decide) (by decide) (by simp) ha, w01]
  by_cases hb : InT t b
  ·
   rw [inb_yes hb, Bool.true_and]
   refine Ev.step (f := fun k => types_places.l0 k t [a, b] 2 2) (fun k => ?_) ?_
   · rw [places_yes k [a, b] 2 1 (by decide) (by decide) (by simp) hb, w11]
   · exact Ev.one fun k => places_stop k h [a, b] 2 2 (by decide)
  ·
   rw [inb_no hb, Bool.false_and]
   exact Ev.one fun k => places_no k [a, b] 2 1 (by decide) (by decide) (by simp) hb
 ·
  rw [inb_no ha, Bool.false_and, Bool.false_and]
  exact Ev.one fun k => places_no k [a, b] 2 0 (by decide) (by decide) (by simp) ha
section
variable {t : List S40}
theorem t_ext (h : Fine t) (g : GoodR t) (a b : Int) : Ev (fun k => types_Extends.f k t a b) (inb t a && inb t b && extT t a b) := by
 unfold types_Extends.f
 refine Ev.bind (places2 h a b) ?_
 rw [good_true g, Bool.and_true]
 by_cases ha : InT t a ∧ InT t b
 ·
  rw [inb_yes ha.1, inb_yes ha.2]
  refine Ev.eq ?_
  have e : tables_Extends.f t a b = some (extT t a b) := by unfold tables_Extends.f; exact if_pos ⟨h.parms, g, ha.1, ha.2⟩
  simp only [Bool.and_self, eq_self, if_true, Bool.true_and, e]; rfl
 ·
  have : (inb t a && inb t b) = false := by
   by_cases h1 : InT t a
   · rw [inb_no (fun h2 => ha ⟨h1, h2⟩), Bool.and_false]
   · rw [inb_no h1, Bool.false_and]
  rw [this]
  exact Ev.eq rfl
theorem t_asg (h : Fine t) (g : GoodR t) (a b : Int) : Ev (fun k => types_Assign.f k t a b) (inb t a && inb t b && asgT t a b) := by
 unfold types_Assign.f
 refine Ev.bind (places2 h a b) ?_
 rw [good_true g, Bool.and_true]
 by_cases ha : InT t a ∧ InT t b
 ·
  rw [inb_yes ha.1, inb_yes ha.2]
  refine Ev.eq ?_
  have e : tables_Assign.f t a b = some (asgT t a b) := by unfold tables_Assign.f; exact if_pos ⟨h.parms, g, ha.1, ha.2⟩
  simp only [Bool.and_self, eq_self, if_true, Bool.true_and, e]; rfl
 ·
  have : (inb t a && inb t b) = false := by
   by_cases h1 : InT t a
   · rw [inb_no (fun h2 => ha ⟨h1, h2⟩), Bool.and_false]
   · rw [inb_no h1, Bool.false_and]
  rw [this]
  exact Ev.eq rfl
end
def wakX : List S40 := [⟨9, ⟨#[65]⟩, ⟨#[82]⟩, 0, 0, 0, [], [], 0, 0⟩, ⟨9, ⟨#[65]⟩, ⟨#[]⟩, 0, 0, 7, [], [], 0, 1⟩, ⟨10, ⟨#[]⟩, ⟨#[]⟩, 0, 7, 0, [], [], 0, 0⟩, ⟨10, ⟨#[]⟩, ⟨#[]⟩, 0, 8, 0, [], [], 0, 0⟩]
def wak : List S40 := basics ++ wakX
theorem wak_good : GoodR wak := by
 refine ⟨by decide, by decide, fun i h0 h7 => ?_, fun i h7 hl => ?_, by kernel_rfl, fun i k h7 hk hi => ?_⟩
 ·
  have : i = 0 ∨ i = 1 ∨ i = 2 ∨ i = 3 ∨ i = 4 ∨ i = 5 ∨ i = 6 := by omega
  rcases this with h | h | h | h | h | h | h <;> subst h <;> rfl
 ·
  have hl' : i < 11 := hl
  have : i = 7 ∨ i = 8 ∨ i = 9 ∨ i = 10 := by omega
  have o7 : oneP wak 7 = true := by kernel_rfl
  have o8 : oneP wak 8 = true := by kernel_rfl
  have o9 : oneP wak 9 = true := by kernel_rfl
  have o10 : oneP wak 10 = true := by kernel_rfl
  rcases this with h | h | h | h <;> subst h <;> assumption
 ·
  have hl' : i < 11 := hi
  rintro ⟨e1, e2, e3, e4, e5⟩
  have h1 : i = 7 ∨ i = 8 ∨ i = 9 ∨ i = 10 := by omega
  rcases h1 with h | h | h | h <;> subst h
  · omega
  ·
   have : k = 7 := by omega
   subst this
   have e : (1 : Int) = 0 := e4
   omega
  ·
   have e : (10 : Int) = 9 := e1
   omega
  ·
   have e : (10 : Int) = 9 := e1
   omega
theorem wak_fine : Fine wak := by
 refine ⟨fun x hx => ?_, fun x hx => ?_⟩
 ·
  have : ∀ x ∈ wak, x.f1.size ≤ 1 ∧ x.f2.size ≤ 1 ∧ x.f6 = [] := by
   intro x hx
   simp only [wak, basics, wakX, List.cons_append, List.nil_append, List.mem_cons, List.not_mem_nil, or_false] at hx
   rcases hx with h | h | h | h | h | h | h | h | h | h | h <;> subst h <;> exact ⟨by decide, by decide, rfl⟩
  obtain ⟨h1, h2, h3⟩ := this x hx
  exact ⟨Nat.le_trans h1 (by decide), Nat.le_trans h2 (by decide), fun f hf => by rw [h3] at hf; cases hf⟩
 ·
  simp only [wak, basics, wakX, List.cons_append, List.nil_append, List.mem_cons, List.not_mem_nil, or_false] at hx
  rcases hx with h | h | h | h | h | h | h | h | h | h | h <;> subst h <;> exact ⟨by decide, by decide⟩
theorem wak_10 : InT wak 10 := ⟨by decide, by decide⟩
theorem wak_9 : InT wak 9 := ⟨by decide, by decide⟩
theorem wak_5 : InT wak 5 := ⟨by decide, by decide⟩
theorem basicP_is : Ev (fun k => types_Basic.f k) basics := Ev.of (fun k => types_Basic.mono k) (k := 9) (by kernel_rfl)
theorem wak_level : Ev (fun k => tables_Level.f k wak 10) 1 := Ev.of (fun k => tables_Level.mono wak 10 k) (k := 9) (by kernel_rfl)
theorem wakes_is : Ev (fun k => spinetlaw13_wakes.f k) true := by
 unfold spinetlaw13_wakes.f
 refine Ev.bind basicP_is ?_
 refine Ev.bind (Ev.eq rfl) ?_
 refine Ev.congr (f := fun k => (some wak).bind fun y203 => (if (y203.length : Int) = 11 then ((types_Good.f y203).bind fun t206 => (if t206 = true then ((types_Extends.f k y203 10 9).bind fun t207 => (if t207 = true then ((types_Extends.f k y203 9 10).bind fun t208 => (if t208 = true then (some false) else ((types_Assign.f k y203 5 9).bind fun t209 => (if t209 = true then ((types_Level.f k y203 10).bind fun t210 => (some (t210 == 1))) else (some false))))) else (some false))) else (some false))) else (some false))) (fun k => rfl) ?_
 refine Ev.bind (Ev.eq rfl) ?_
 refine Ev.congr (f := fun k => (types_Good.f wak).bind fun t206 => (if t206 = true then ((types_Extends.f k wak 10 9).bind fun t207 => (if t207 = true then ((types_Extends.f k wak 9 10).bind fun t208 => (if t208 = true then (some false) else ((types_Assign.f k wak 5 9).bind fun t209 => (if t209 = true then ((types_Level.f k wak 10).bind fun t210 => (some (t210 == 1))) else (some false))))) else (some false))) else (some false))) (fun k => rfl) ?_
 have g := wak_good
 have h := wak_fine
 refine Ev.bind (Ev.eq ((fine_good h).trans (congrArg some (good_true g)))) ?_
 refine Ev.bind (f := fun k t207 => if t207 = true then ((types_Extends.f k wak 9 10).bind fun t208 => (if t208 = true then (some false) else ((types_Assign.f k wak 5 9).bind fun t209 => (if t209 = true then ((types_Level.f k wak 10).bind fun t210 => (some (t210 == 1))) else (some false))))) else (some false)) (a := true) ?_ ?_
 ·
  have := t_ext h g 10 9
  rwa [inb_yes wak_10, inb_yes wak_9, show extT wak 10 9 = true by kernel_rfl] at this
 refine Ev.bind (f := fun k t208 => if t208 = true then (some false) else ((types_Assign.f k wak 5 9).bind fun t209 => (if t209 = true then ((types_Level.f k wak 10).bind fun t210 => (some (t210 == 1))) else (some false)))) (a := false) ?_ ?_
 ·
  have := t_ext h g 9 10
  rwa [inb_yes wak_10, inb_yes wak_9, show extT wak 9 10 = false by kernel_rfl] at this
 refine Ev.bind (f := fun k t209 => if t209 = true then ((types_Level.f k wak 10).bind fun t210 => (some (t210 == 1))) else (some false)) (a := true) ?_ ?_
 ·
  have := t_asg h g 5 9
  rwa [inb_yes wak_5, inb_yes wak_9, show asgT wak 5 9 = true by kernel_rfl] at this
 refine Ev.bind (f := fun k t210 => some (t210 == 1)) (a := 1) ?_ (Ev.eq rfl)
 unfold types_Level.f
 refine Ev.bind (f := fun k t195 => if t195 = true then ((tables_Level.f k wak 10).bind fun t196 => (some t196)) else (some 0)) (a := true) ?_ ?_
 ·
  have := places1 h 10
  rwa [inb_yes wak_10, good_true g] at this
 exact Ev.bind (f := fun k t196 => some t196) wak_level (Ev.eq rfl)
end Go.Proofs.Ytgnbemgeiloegaa.Tg
namespace Go.Proofs.Ytgnbemgeiloegaa.Tg
open Go.RowKit
open Go.Proofs.YtgnbemgeiloegaaW.PrintWords Go.Proofs.YtgnbemgeiloegaaW.PrintLast Go.Proofs.YtgnbemgeiloegaaW.PrintMore
set_option linter.unusedVariables false
set_option linter.unusedSimpArgs false
open Go.Proofs.Ytgnbemgeiloegaa.PTypesGoods
theorem lim_sized {t : List S40} (h : Lim t) : Sized t := fun x hx => ⟨Nat.le_trans (h.f1 x hx) (by decide), Nat.le_trans (h.f2 x hx) (by decide), fun f hf => Nat.le_trans (h.n6 x hx f hf) (by decide)⟩
theorem copy_is {t : List S40} (hp : Parms t) (h : t.length ≤ 4000) : spinetref13_Copy.f t = some t := by
 unfold spinetref13_Copy.f
 rw [if_pos ⟨hp, h⟩]
end Go.Proofs.Ytgnbemgeiloegaa.Tg
