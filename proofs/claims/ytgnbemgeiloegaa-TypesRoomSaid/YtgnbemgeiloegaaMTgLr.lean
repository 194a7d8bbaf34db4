import Derived.Test.YtgnbemgeiloegaaMTgLz
import Derived.Test.YtgnbemgeiloegaaMTgLq
import Derived.Test.YtgnbemgeiloegaaMTgPm
namespace Go.Proofs.Ytgnbemgeiloegaa.Tg
open Go.RowKit
open Go.Proofs.YtgnbemgeiloegaaW.PrintWords Go.Proofs.YtgnbemgeiloegaaW.PrintLast Go.Proofs.YtgnbemgeiloegaaW.PrintMore
set_option linter.unusedVariables false
set_option linter.unusedSimpArgs false
open Go.Proofs.Ytgnbemgeiloegaa.PTypesGoods
def rm (t : List S40) : List S40 := t ++ [arrE 2 1, opE 3]
theorem room_out {t : List S40} (h : Fine t) (g : GoodR t) {a b : Int} (ho : ¬ (InT t a ∧ InT t b)) (y : List S40) : Ev (fun k => spinetlaw13_TypesRoom.j1 k a b y t true) true := by
 have hn : (inb t a && inb t b) = false := by
  by_cases h1 : InT t a
  · rw [inb_no (fun h2 => ho ⟨h1, h2⟩), Bool.and_false]
  · rw [inb_no h1, Bool.false_and]
 have s1 := t_same h g a b
 have s2 := t_ext h g a b
 have s3 := t_asg h g a b
 rw [hn, Bool.false_and] at s1 s2 s3
 refine Ev.step (f := fun k => (types_Same.f k t a b).bind fun t308 => (if t308 = true then (some false) else ((types_Extends.f k t a b).bind fun t309 => (if t309 = true then (some false) else ((types_Assign.f k t a b).bind fun t310 => (if t310 = true then (some false) else ((spinetlaw13_wakes.f k).bind fun t311 => (some t311)))))))) (fun k => ?_) ?_
 · rw [spinetlaw13_TypesRoom.j1, if_pos rfl]
 refine Ev.bind s1 ?_
 simp only [Bool.false_eq_true, if_false]
 refine Ev.bind s2 ?_
 simp only [Bool.false_eq_true, if_false]
 refine Ev.bind s3 ?_
 simp only [Bool.false_eq_true, if_false]
 exact wake_end
theorem room_in {t : List S40} (h : Fine t) (g : GoodR t) (hl : t.length ≤ 250) {a b : Int} (ha : InT t a) (hb : InT t b) : Ev (fun k => spinetlaw13_TypesRoom.j1 k a b (rm t) t false) true := by
 have h2 : Fine (rm t) := fine_app h (fine_app (t := [arrE 2 1]) (fine_arr 2 1) (fine_opn 3))
 have g2 : GoodR (rm t) := good_room g hl
 have ia : InT (rm t) a := in_app ha
 have ib : InT (rm t) b := in_app hb
 obtain ⟨N, hN⟩ := gd_deep g
 obtain ⟨M, hM⟩ := gd_deep g2
 have e1 : sameT (rm t) a b = sameT t a b := sameT_app g ha hb
 have e2 : extT (rm t) a b = extT t a b := extT_app g ha hb
 have e3 : asgT (rm t) a b = asgT t a b := asgT_app g ha hb
 have e4 : fitT (rm t) (max N M) a b ((Int.tmod a 2) == 0) = fitT t (max N M) a b ((Int.tmod a 2) == 0) := fitT_app g _ ha hb
 refine Ev.step (f := fun k => (types_Good.f (rm t)).bind fun t313 => (if t313 = true then ((types_Same.f k (rm t) a b).bind fun t314 => ((types_Same.f k t a b).bind fun t315 => (if (t314 == t315) = true then ((types_Extends.f k (rm t) a b).bind fun t316 => ((types_Extends.f k t a b).bind fun t317 => (if (t316 == t317) = true then ((types_Assign.f k (rm t) a b).bind fun t318 => ((types_Assign.f k t a b).bind fun t319 => (if (t318 == t319) = true then ((types_Fits.f k (rm t) a ((Int.tmod a 2) == 0) b).bind fun t320 => ((types_Fits.f k t a ((Int.tmod a 2) == 0) b).bind fun t321 => (if (t320 == t321) = true then ((spinetlaw13_wakes.f k).bind fun t322 => (some t322)) else (some false)))) else (some false)))) else (some false)))) else (some false)))) else (some false))) (fun k => ?_) ?_
 · rw [spinetlaw13_TypesRoom.j1, if_neg (by decide)]
 refine Ev.bind (Ev.eq (fine_good h2)) ?_
 rw [good_true g2]
 simp only [eq_self, if_true]
 refine Ev.bind (same_in h2 g2 ia ib) ?_
 refine Ev.bind (same_in h g ha hb) ?_
 rw [e1]
 simp only [beq_self_eq_true, eq_self, if_true]
 refine Ev.bind (ext_in h2 g2 ia ib) ?_
 refine Ev.bind (ext_in h g ha hb) ?_
 rw [e2]
 simp only [beq_self_eq_true, eq_self, if_true]
 refine Ev.bind (asg_in h2 g2 ia ib) ?_
 refine Ev.bind (asg_in h g ha hb) ?_
 rw [e3]
 simp only [beq_self_eq_true, eq_self, if_true]
 refine Ev.bind (fit_in h2 g2 _ ia ib ((hM b ib).mono (Nat.le_max_right N M))) ?_
 refine Ev.bind (fit_in h g _ ha hb ((hN b hb).mono (Nat.le_max_left N M))) ?_
 rw [e4]
 simp only [beq_self_eq_true, eq_self, if_true]
 exact wake_end
theorem room_wakes (t : List S40) (a b : Int) : Ev (fun k => spinetlaw13_TypesRoom.j0 k t a b true) true :=
 Ev.step (f := fun k => (spinetlaw13_wakes.f k).bind fun t => some t) (fun k => by rw [spinetlaw13_TypesRoom.j0, if_pos rfl]) wake_end
theorem room_main {t : List S40} (h : Fine t) (g : GoodR t) (hl : t.length ≤ 250) (a b : Int) : Ev (fun k => spinetlaw13_TypesRoom.j0 k t a b false) true := by
 have hc : spinetref13_Copy.f t = some t := copy_is h.parms (by omega)
 have hlen : t.length + 2 < 1099511627776 := by omega
 refine Ev.step (f := fun k => if a < 0 then (spinetlaw13_TypesRoom.j1 k a b (rm t) t true) else (if b < 0 then (spinetlaw13_TypesRoom.j1 k a b (rm t) t true) else (if a ≥ (t.length : Int) then (spinetlaw13_TypesRoom.j1 k a b (rm t) t true) else (spinetlaw13_TypesRoom.j1 k a b (rm t) t (decide (b ≥ (t.length : Int))))))) (fun k => ?_) ?_
 ·
  rw [spinetlaw13_TypesRoom.j0, if_neg (by decide), hc]
  show (if t.length + 2 < 1099511627776 then _ else _) = _
  rw [if_pos hlen]
  rfl
 by_cases h1 : a < 0
 · simp only [eq_true h1, if_true]; exact room_out h g (fun hh => by have := hh.1.1; omega) _
 by_cases h2 : b < 0
 · simp only [eq_false h1, eq_true h2, if_true, if_false]; exact room_out h g (fun hh => by have := hh.2.1; omega) _
 by_cases h4 : a ≥ (t.length : Int)
 · simp only [eq_false h1, eq_false h2, eq_true h4, if_true, if_false]; exact room_out h g (fun hh => by have := hh.1.2; omega) _
 by_cases h5 : b ≥ (t.length : Int)
 · simp only [eq_false h1, eq_false h2, eq_false h4, eq_true h5, if_true, if_false, decide_true]; exact room_out h g (fun hh => by have := hh.2.2; omega) _
 ·
  simp only [eq_false h1, eq_false h2, eq_false h4, eq_false h5, if_false, decide_false]
  exact room_in h g hl ⟨by omega, by omega⟩ ⟨by omega, by omega⟩
theorem room_is {t : List S40} (hL : Lim t) (a b : Int) : Ev (fun k => spinetlaw13_TypesRoom.f k t a b) true := by
 obtain ⟨r, hr, hp⟩ := large_is hL
 unfold spinetlaw13_TypesRoom.f
 refine Ev.bind hr ?_
 cases r with
 | true =>
  simp only [eq_self, if_true]
  exact room_wakes t a b
 | false =>
  obtain ⟨h3, hp⟩ := hp rfl
  have hF : Fine t := ⟨lim_sized hL, hp⟩
  simp only [Bool.false_eq_true, if_false]
  refine Ev.bind (Ev.eq (fine_ref hF)) ?_
  cases hg : goodR t with
  | false =>
   simp only [Bool.false_eq_true, if_false]
   exact room_wakes t a b
  | true =>
   have g := good_of hg
   simp only [eq_self, if_true]
   by_cases h1 : (t.length : Int) > 250
   · rw [decide_eq_true h1]; exact room_wakes t a b
   · rw [decide_eq_false h1]; exact room_main hF g (by omega) a b
theorem room_calls {w : World} {A : Option Addr} {c : Nat} {t : List S40} (hC : Kd.C k40 w A t.length t) (hc : t.length ≤ c) (hL : Lim t) (a b : Int) :
 Calls Try.prog 11 #[.slice A t.length c, .int .i64 a, .int .i64 b] w fun e w' => e = .returned (.bool true) ∧ Below w.heap.size w w' := by
 obtain ⟨k, hk⟩ := (room_is hL a b).rounds
 exact spinetlaw13_TypesRoom.calls k A c t a b true ⟨rfl⟩ w hC hc hk
end Go.Proofs.Ytgnbemgeiloegaa.Tg
