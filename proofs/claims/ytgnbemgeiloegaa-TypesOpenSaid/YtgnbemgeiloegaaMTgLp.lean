import Derived.Test.YtgnbemgeiloegaaMTgLz
import Derived.Test.YtgnbemgeiloegaaMTgLq
import Derived.Test.YtgnbemgeiloegaaMTgPo
namespace Go.Proofs.Ytgnbemgeiloegaa.Tg
open Go.RowKit
open Go.Proofs.YtgnbemgeiloegaaW.PrintWords Go.Proofs.YtgnbemgeiloegaaW.PrintLast Go.Proofs.YtgnbemgeiloegaaW.PrintMore
set_option linter.unusedVariables false
set_option linter.unusedSimpArgs false
open Go.Proofs.Ytgnbemgeiloegaa.PTypesGoods
theorem open_len (n : Int) : 1 ≤ wrap64 (1 + wrap64 (Int.tmod (IntKind.u64.wrap n) 4096)) ∧ wrap64 (1 + wrap64 (Int.tmod (IntKind.u64.wrap n) 4096)) ≤ 4096 := by
 have h0 : 0 ≤ IntKind.u64.wrap n := by
  simp only [IntKind.wrap, IntKind.signed, IntKind.bits, Bool.false_and, Bool.false_eq_true, if_false]
  exact Int.emod_nonneg _ (by decide)
 have h1 : 0 ≤ Int.tmod (IntKind.u64.wrap n) 4096 := Int.tmod_nonneg _ h0
 have h2 : Int.tmod (IntKind.u64.wrap n) 4096 < 4096 := Int.tmod_lt_of_pos _ (by decide)
 generalize Int.tmod (IntKind.u64.wrap n) 4096 = m at h1 h2
 rw [wr64 (x := m) (by omega), wr64 (by omega)]
 omega
section
variable {t : List S40} {n e : Int} {N : Nat}
theorem open_loop (hT : Fine (opens3 t n e)) (hG : GoodR (opens3 t n e)) (g : GoodR t) (ie : InT t e) (h8 : (rd_T40 t e).f0 ≠ 8) (hN : ∀ a, InT (opens3 t n e) a → Deep (insP (opens3 t n e)) (N + 1) a) :
 ∀ (d i : Nat), i + d = 40 ∨ 40 ≤ i ∧ d = 0 → Ev (fun k => spinetlaw13_TypesOpen.l0 k (rd_T40 t e).f0 (opens3 t n e) (i : Int) true ((t.length : Int) + 1) false ((t.length : Int) + 1)) true := by
 have i6 : InT (opens3 t n e) 6 := in_app (form_basic g (i := 6) (by decide) (by decide)).1
 have k1 : InT (opens3 t n e) ((t.length : Int) + 1) := o_k1
 obtain ⟨s1, s2⟩ := o_six (n := n) g ie h8 N
 have hend : ∀ i : Int, Ev (fun k => spinetlaw13_TypesOpen.j4 k (rd_T40 t e).f0 (opens3 t n e) i false true ((t.length : Int) + 1) false ((t.length : Int) + 1)) true := fun i => by
  refine Ev.step (f := fun k => (types_Fits.f k (opens3 t n e) 6 false ((t.length : Int) + 1)).bind fun t288 => (if (t288 == ((rd_T40 t e).f0 == 3)) = true then ((types_Fits.f k (opens3 t n e) 6 true ((t.length : Int) + 1)).bind fun t289 => (if t289 = true then (some false) else ((spinetlaw13_wakes.f k).bind fun t290 => (some t290)))) else (some false))) (fun k => ?_) ?_
  · rw [spinetlaw13_TypesOpen.j4, if_neg (by decide)]
  refine Ev.bind (fit_in hT hG false i6 k1 (hN _ k1)) ?_
  rw [s1]
  have e3 : ((rd_T40 t e).f0 == 3) = decide ((rd_T40 t e).f0 = 3) := rfl
  rw [e3]
  simp only [beq_self_eq_true, eq_self, if_true]
  refine Ev.bind (fit_in hT hG true i6 k1 (hN _ k1)) ?_
  rw [s2]
  simp only [Bool.false_eq_true, if_false]
  exact wake_end
 have hstop : ∀ i : Nat, 40 ≤ i → Ev (fun k => spinetlaw13_TypesOpen.l0 k (rd_T40 t e).f0 (opens3 t n e) (i : Int) true ((t.length : Int) + 1) false ((t.length : Int) + 1)) true := fun i h40 => by
  refine Ev.step (fun k => ?_) (hend i)
  rw [spinetlaw13_TypesOpen.l0]
  have : decide ((i : Int) < 40) = false := decide_eq_false (by omega)
  rw [this, ite_self]
 intro d
 induction d with
 | zero => exact fun i h => hstop i (by omega)
 | succ d ih =>
  intro i h
  have h40 : i < 40 := by omega
  by_cases hl : (i : Int) < ((opens3 t n e).length : Int)
  ·
   have hi : InT (opens3 t n e) (i : Int) := ⟨by omega, hl⟩
   have hw : wrap64 ((i : Int) + 1) = ((i + 1 : Nat) : Int) := wrap_succ (by omega)
   have nxt := ih (i + 1) (by omega)
   refine Ev.step (f := fun k => spinetlaw13_TypesOpen.j4 k (rd_T40 t e).f0 (opens3 t n e) (i : Int) true true ((t.length : Int) + 1) false ((t.length : Int) + 1)) (fun k => ?_) ?_
   · rw [spinetlaw13_TypesOpen.l0, if_pos hl, decide_eq_true (by omega)]
   refine Ev.step (f := fun k => (types_Fits.f k (opens3 t n e) (i : Int) true ((t.length : Int) + 1)).bind fun t291 => (if t291 = true then ((types_Fits.f k (opens3 t n e) (i : Int) false ((t.length : Int) + 1)).bind fun t292 => (if t292 = true then (spinetlaw13_TypesOpen.l0 k (rd_T40 t e).f0 (opens3 t n e) ((i + 1 : Nat) : Int) true ((t.length : Int) + 1) false ((t.length : Int) + 1)) else (some false))) else (spinetlaw13_TypesOpen.l0 k (rd_T40 t e).f0 (opens3 t n e) ((i + 1 : Nat) : Int) true ((t.length : Int) + 1) false ((t.length : Int) + 1)))) (fun k => ?_) ?_
   · rw [spinetlaw13_TypesOpen.j4, if_pos rfl, hw]
   refine Ev.bind (fit_in hT hG true hi k1 (hN _ k1)) ?_
   cases hf : fitT (opens3 t n e) (N + 1) (i : Int) ((t.length : Int) + 1) true with
   | false =>
    simp only [Bool.false_eq_true, if_false]
    exact nxt
   | true =>
    simp only [eq_self, if_true]
    refine Ev.bind (fit_in hT hG false hi k1 (hN _ k1)) ?_
    rw [o_var g hG ie h8 N hi hf]
    simp only [eq_self, if_true]
    exact nxt
  ·
   refine Ev.step (fun k => ?_) (hend i)
   rw [spinetlaw13_TypesOpen.l0, if_neg hl]
theorem open_wakes (x1 : List S40) (a b : Int) : Ev (fun k => spinetlaw13_TypesOpen.j0 k x1 a b true) true :=
 Ev.step (f := fun k => (spinetlaw13_wakes.f k).bind fun t => some t) (fun k => by rw [spinetlaw13_TypesOpen.j0, if_pos rfl]) wake_end
theorem open_wakes1 (x1 : List S40) (a b c : Int) : Ev (fun k => spinetlaw13_TypesOpen.j1 k x1 a b c true) true :=
 Ev.step (f := fun k => (spinetlaw13_wakes.f k).bind fun t => some t) (fun k => by rw [spinetlaw13_TypesOpen.j1, if_pos rfl]) wake_end
theorem open_main (h : Fine t) (g : GoodR t) (hl : t.length ≤ 250) (e n0 : Int) (ie : InT t e) (h0 : (rd_T40 t e).f0 ≠ 0) (h5 : (rd_T40 t e).f0 ≠ 5) (h6 : (rd_T40 t e).f0 ≠ 6) (h8 : (rd_T40 t e).f0 ≠ 8) :
 Ev (fun k => spinetlaw13_TypesOpen.j1 k t e n0 (rd_T40 t e).f0 false) true := by
 obtain ⟨n1, n2⟩ := open_len n0
 obtain ⟨nn, hn⟩ : ∃ nn, nn = wrap64 (1 + (wrap64 (Int.tmod (IntKind.u64.wrap (n0)) 4096))) := ⟨_, rfl⟩
 rw [← hn] at n1 n2
 have hw : wrap64 ((t.length : Int) + 1) = (t.length : Int) + 1 := wr64 (by omega)
 obtain ⟨hG, N0, hN0⟩ := good_opens (n := nn) g hl n1 n2 (holds_of ie h0 h5 h6 h8)
 obtain ⟨N, hN⟩ : ∃ N, ∀ a, InT (opens3 t nn e) a → Deep (insP (opens3 t nn e)) (N + 1) a := ⟨N0, fun a ha => (hN0 a ha).mono (by omega)⟩
 have hT : Fine (opens3 t nn e) := fine_app h (fine_app (t := [arrE nn e]) (fine_arr nn e) (fine_app (t := [opE e]) (fine_opn e) (fine_opn _)))
 have hc : spinetref13_Copy.f t = some t := copy_is h.parms (by omega)
 have hc2 : spinetref13_Copy.f (opens3 t nn e) = some (opens3 t nn e) := copy_is hT.parms (by rw [o3_len]; omega)
 have hlen : t.length + 3 < 1099511627776 := by omega
 have k0 : InT (opens3 t nn e) (t.length : Int) := o_k
 have k1 : InT (opens3 t nn e) ((t.length : Int) + 1) := o_k1
 refine Ev.step (f := fun k => (types_Fits.f k (opens3 t nn e) (t.length : Int) true ((t.length : Int) + 1)).bind fun t284 => (if t284 = true then ((types_Fits.f k (opens3 t nn e) (t.length : Int) false ((t.length : Int) + 1)).bind fun t285 => (if t285 = true then ((types_Assign.f k (opens3 t nn e) (t.length : Int) ((t.length : Int) + 1)).bind fun t286 => (if t286 = true then (spinetlaw13_TypesOpen.j2 k (rd_T40 t e).f0 (opens3 t nn e) true true ((t.length : Int) + 1) false ((t.length : Int) + 1)) else ((types_Assign.f k (opens3 t nn e) ((t.length : Int) + 1) (t.length : Int)).bind fun t287 => (spinetlaw13_TypesOpen.j2 k (rd_T40 t e).f0 (opens3 t nn e) (!t287) true ((t.length : Int) + 1) false ((t.length : Int) + 1))))) else (spinetlaw13_TypesOpen.j2 k (rd_T40 t e).f0 (opens3 t nn e) true true ((t.length : Int) + 1) false ((t.length : Int) + 1)))) else (spinetlaw13_TypesOpen.j2 k (rd_T40 t e).f0 (opens3 t nn e) true true ((t.length : Int) + 1) false ((t.length : Int) + 1)))) (fun k => ?_) ?_
 ·
  rw [spinetlaw13_TypesOpen.j1, if_neg (by decide), hc, hw, ← hn]
  show (if t.length + 3 < 1099511627776 then ((some (opens3 t nn e)).bind fun y275 => _) else _) = _
  rw [if_pos hlen]
  show ((spinetref13_Copy.f (opens3 t nn e)).bind fun t280 => _) = _
  rw [hc2]
  show ((types_Good.f (opens3 t nn e)).bind fun t283 => _) = _
  rw [fine_good hT, good_true hG]
  rfl
 refine Ev.bind (fit_in hT hG true k0 k1 (hN _ k1)) ?_
 rw [o_fit]
 simp only [eq_self, if_true]
 refine Ev.bind (fit_in hT hG false k0 k1 (hN _ k1)) ?_
 rw [o_fit]
 simp only [eq_self, if_true]
 refine Ev.bind (asg_in hT hG k0 k1) ?_
 rw [o_asg1]
 simp only [Bool.false_eq_true, if_false]
 refine Ev.bind (asg_in hT hG k1 k0) ?_
 rw [o_asg2]
 refine Ev.step (fun k => ?_) (open_loop hT hG g ie h8 hN 40 0 (.inl rfl))
 rw [spinetlaw13_TypesOpen.j2, if_neg (by decide)]
 rfl
theorem open_mid (h : Fine t) (g : GoodR t) (hl : t.length ≤ 250) (e n0 : Int) (ie : InT t e) : Ev (fun k => spinetlaw13_TypesOpen.j0 k t e n0 false) true := by
 refine Ev.step (f := fun k => if ((rd_T40 t e).f0) = 0 then (spinetlaw13_TypesOpen.j1 k t e n0 ((rd_T40 t e).f0) true) else (if ((rd_T40 t e).f0) = 5 then (spinetlaw13_TypesOpen.j1 k t e n0 ((rd_T40 t e).f0) true) else (if ((rd_T40 t e).f0) = 6 then (spinetlaw13_TypesOpen.j1 k t e n0 ((rd_T40 t e).f0) true) else (spinetlaw13_TypesOpen.j1 k t e n0 ((rd_T40 t e).f0) (((rd_T40 t e).f0) == 8))))) (fun k => ?_) ?_
 · rw [spinetlaw13_TypesOpen.j0, if_neg (by decide), if_pos ie.1, if_pos ie.2]
 by_cases h0 : (rd_T40 t e).f0 = 0
 · simp only [eq_true h0, if_true]; exact open_wakes1 _ _ _ _
 by_cases h5 : (rd_T40 t e).f0 = 5
 · simp only [eq_false h0, eq_true h5, if_true, if_false]; exact open_wakes1 _ _ _ _
 by_cases h6 : (rd_T40 t e).f0 = 6
 · simp only [eq_false h0, eq_false h5, eq_true h6, if_true, if_false]; exact open_wakes1 _ _ _ _
 simp only [eq_false h0, eq_false h5, eq_false h6, if_false]
 by_cases h8 : (rd_T40 t e).f0 = 8
 · rw [beq_iff_eq.2 h8]; exact open_wakes1 _ _ _ _
 · rw [beq_eq_false_iff_ne.2 h8]; exact open_main h g hl e n0 ie h0 h5 h6 h8
theorem open_is (hL : Lim t) (a b : Int) : Ev (fun k => spinetlaw13_TypesOpen.f k t a b) true := by
 obtain ⟨r, hr, hp⟩ := large_is hL
 unfold spinetlaw13_TypesOpen.f
 refine Ev.bind hr ?_
 cases r with
 | true =>
  simp only [eq_self, if_true]
  exact open_wakes t a b
 | false =>
  obtain ⟨h3, hp⟩ := hp rfl
  have hF : Fine t := ⟨lim_sized hL, hp⟩
  simp only [Bool.false_eq_true, if_false]
  refine Ev.bind (Ev.eq (fine_ref hF)) ?_
  cases hg : goodR t with
  | false =>
   simp only [Bool.false_eq_true, if_false]
   exact open_wakes t a b
  | true =>
   have g := good_of hg
   simp only [eq_self, if_true]
   by_cases h1 : (t.length : Int) > 250
   · simp only [eq_true h1, if_true]; exact open_wakes t a b
   by_cases h2 : a < 0
   · simp only [eq_false h1, eq_true h2, if_true, if_false]; exact open_wakes t a b
   simp only [eq_false h1, eq_false h2, if_false]
   by_cases h4 : a ≥ (t.length : Int)
   · rw [decide_eq_true h4]; exact open_wakes t a b
   ·
    rw [decide_eq_false h4]
    exact open_mid hF g (by omega) a b ⟨by omega, by omega⟩
theorem open_calls {w : World} {A : Option Addr} {c : Nat} (hC : Kd.C k40 w A t.length t) (hc : t.length ≤ c) (hL : Lim t) (a b : Int) :
 Calls Try.prog 10 #[.slice A t.length c, .int .i64 a, .int .i64 b] w fun e w' => e = .returned (.bool true) ∧ Below w.heap.size w w' := by
 obtain ⟨k, hk⟩ := (open_is hL a b).rounds
 exact spinetlaw13_TypesOpen.calls k A c t a b true ⟨rfl⟩ w hC hc hk
end
end Go.Proofs.Ytgnbemgeiloegaa.Tg
