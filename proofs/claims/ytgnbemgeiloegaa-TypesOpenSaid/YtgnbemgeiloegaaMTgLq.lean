import Derived.Test.YtgnbemgeiloegaaMTgLc
namespace Go.Proofs.Ytgnbemgeiloegaa.Tg
open Go.RowKit
open Go.Proofs.YtgnbemgeiloegaaW.PrintWords Go.Proofs.YtgnbemgeiloegaaW.PrintLast Go.Proofs.YtgnbemgeiloegaaW.PrintMore
set_option linter.unusedVariables false
set_option linter.unusedSimpArgs false
open Go.Proofs.Ytgnbemgeiloegaa.PTypesGoods (S40 S42 S47 k40 k42 k47 rd_T40 rd_T42 rd_T47 at_T40 at_T42 at_T47)
def arrE (n e : Int) : S40 := ⟨7, (⟨#[]⟩ : ByteArray), (⟨#[]⟩ : ByteArray), n, e, 0, ([] : List S42), ([] : List S47), 0, 0⟩
def opE (e : Int) : S40 := ⟨8, (⟨#[]⟩ : ByteArray), (⟨#[]⟩ : ByteArray), 0, e, 0, ([] : List S42), ([] : List S47), 0, 0⟩
theorem nul_none : nul (⟨#[]⟩ : ByteArray) = true := by kernel_rfl
theorem one_arr {T : List S40} {i n e : Int} (hr : rd_T40 T i = arrE n e) (h1 : 1 ≤ n) (h2 : n ≤ 4096) (hh : holdsP T e = true) : oneP T i = true := by
 unfold oneP
 rw [hr]
 unfold oneX
 have b2 : bad2 (arrE n e) = false := by simp [bad2, arrE, nul_none]
 have b4 : bad4 (arrE n e) = false := by simp [bad4, arrE, nul_none]
 have b6 : bad6 (arrE n e) = false := by simp [bad6, arrE]
 have cc : caseP T i (arrE n e) = true := by simp [caseP, arrE, h1, h2, hh]
 rw [b2, b4, b6, cc]; rfl
theorem one_opn {T : List S40} {i e : Int} (hr : rd_T40 T i = opE e) (hh : holdsP T e = true ∨ (placeP T e && decide (form T e = 8)) = true) : oneP T i = true := by
 unfold oneP
 rw [hr]
 unfold oneX
 have b2 : bad2 (opE e) = false := by simp [bad2, opE, nul_none]
 have b4 : bad4 (opE e) = false := by simp [bad4, opE, nul_none]
 have b6 : bad6 (opE e) = false := by simp [bad6, opE]
 have cc : caseP T i (opE e) = true := by
  have : caseP T i (opE e) = (holdsP T e || (placeP T e && decide (form T e = 8))) := by
   have n7 : ¬ (opE e).f0 = 7 := show ¬ (8 : Int) = 7 by decide
   have n8 : (opE e).f0 = 8 := rfl
   unfold caseP
   rw [if_neg n7, if_pos n8]; rfl
  rw [this, Bool.or_eq_true]; exact hh
 rw [b2, b4, b6, cc]; rfl
theorem deep_arr {T : List S40} {i n e : Int} {N : Nat} (hr : rd_T40 T i = arrE n e) (h : Deep (insP T) N e) : Deep (insP T) (N + 1) i := fun b hb => by
 have e1 : insP T i = [e] := by unfold insP; rw [hr]; simp [arrE]
 rw [e1, List.mem_singleton] at hb
 subst hb; exact h
theorem deep_opn {T : List S40} {i e : Int} {N : Nat} (hr : rd_T40 T i = opE e) (h : Deep (insP T) N e) : Deep (insP T) (N + 1) i := fun b hb => by
 have e1 : insP T i = [e] := by unfold insP; rw [hr]; simp [opE]
 rw [e1, List.mem_singleton] at hb
 subst hb; exact h
theorem form_basic {t : List S40} (g : GoodR t) {i : Int} (h0 : 0 ≤ i) (h7 : i < 7) : InT t i ∧ (rd_T40 t i).f0 = i := by
 have := g.lo
 exact ⟨⟨h0, by omega⟩, by rw [g.bas i h0 h7]; rfl⟩
theorem holds_of {t : List S40} {i : Int} (h : InT t i) (h0 : (rd_T40 t i).f0 ≠ 0) (h5 : (rd_T40 t i).f0 ≠ 5) (h6 : (rd_T40 t i).f0 ≠ 6) (h8 : (rd_T40 t i).f0 ≠ 8) : holdsP t i = true := by
 unfold holdsP
 rw [placeP_in.2 h, form_in h, decide_eq_true h0, decide_eq_true h5, decide_eq_true h6, decide_eq_true h8]; rfl
theorem rd_two {t : List S40} {x y : S40} : rd_T40 (t ++ [x, y]) (t.length : Int) = x ∧ rd_T40 (t ++ [x, y]) ((t.length : Int) + 1) = y := by
 have h0 := rd_new (t := t) (u := [x, y]) (j := 0) (by simp)
 have h1 := rd_new (t := t) (u := [x, y]) (j := 1) (by simp)
 exact ⟨h0, h1⟩
theorem rd_three {t : List S40} {x y z : S40} : rd_T40 (t ++ [x, y, z]) (t.length : Int) = x ∧ rd_T40 (t ++ [x, y, z]) ((t.length : Int) + 1) = y ∧ rd_T40 (t ++ [x, y, z]) ((t.length : Int) + 2) = z := by
 have h0 := rd_new (t := t) (u := [x, y, z]) (j := 0) (by simp)
 have h1 := rd_new (t := t) (u := [x, y, z]) (j := 1) (by simp)
 have h2 := rd_new (t := t) (u := [x, y, z]) (j := 2) (by simp)
 exact ⟨h0, h1, h2⟩
theorem good_room {t : List S40} (g : GoodR t) (hl : t.length ≤ 250) : GoodR (t ++ [arrE 2 1, opE 3]) := by
 obtain ⟨r0, r1⟩ := rd_two (t := t) (x := arrE 2 1) (y := opE 3)
 obtain ⟨i1, f1⟩ := form_basic g (i := 1) (by decide) (by decide)
 obtain ⟨i3, f3⟩ := form_basic g (i := 3) (by decide) (by decide)
 have h1 : holdsP (t ++ [arrE 2 1, opE 3]) 1 = true := holds_app (holds_of i1 (by omega) (by omega) (by omega) (by omega))
 have h3 : holdsP (t ++ [arrE 2 1, opE 3]) 3 = true := holds_app (holds_of i3 (by omega) (by omega) (by omega) (by omega))
 obtain ⟨N, hN⟩ := gd_deep g
 have hw := (gd_ones g).within
 have hlen : (t ++ [arrE 2 1, opE 3]).length = t.length + 2 := by simp
 refine good_app g (by simp; omega) (fun i a b => ?_) (fun i a b h9 => ?_) (fun i a b => ?_)
 ·
  rcases (by omega : i = t.length ∨ i = (t.length : Int) + 1) with rfl | rfl
  · exact one_arr r0 (by decide) (by decide) h1
  · exact one_opn r1 (.inl h3)
 ·
  exfalso
  rcases (by omega : i = t.length ∨ i = (t.length : Int) + 1) with rfl | rfl
  ·
   rw [r0] at h9
   have : (7 : Int) = 9 := h9
   omega
  ·
   rw [r1] at h9
   have : (8 : Int) = 9 := h9
   omega
 ·
  rcases (by omega : i = t.length ∨ i = (t.length : Int) + 1) with rfl | rfl
  · exact ⟨_, deep_arr r0 (deep_app hw N 1 i1 (hN 1 i1))⟩
  · exact ⟨_, deep_opn r1 (deep_app hw N 3 i3 (hN 3 i3))⟩
def opens3 (t : List S40) (n e : Int) : List S40 := t ++ [arrE n e, opE e, opE ((t.length : Int) + 1)]
section
variable {t : List S40} {n e : Int}
theorem o3_rd : rd_T40 (opens3 t n e) (t.length : Int) = arrE n e ∧ rd_T40 (opens3 t n e) ((t.length : Int) + 1) = opE e ∧ rd_T40 (opens3 t n e) ((t.length : Int) + 2) = opE ((t.length : Int) + 1) := rd_three
theorem o3_len : (opens3 t n e).length = t.length + 3 := by simp [opens3]
theorem good_opens (g : GoodR t) (hl : t.length ≤ 250) (h1 : 1 ≤ n) (h2 : n ≤ 4096) (hh : holdsP t e = true) : GoodR (opens3 t n e) ∧ ∃ N, ∀ a, InT (opens3 t n e) a → Deep (insP (opens3 t n e)) N a := by
 have hG : GoodR (opens3 t n e) := by
  obtain ⟨r0, r1, r2⟩ := o3_rd (t := t) (n := n) (e := e)
  have ie : InT t e := holds_at hh
  have he : holdsP (opens3 t n e) e = true := holds_app hh
  obtain ⟨N, hN⟩ := gd_deep g
  have hw := (gd_ones g).within
  have hlen := o3_len (t := t) (n := n) (e := e)
  have hd : Deep (insP (opens3 t n e)) N e := deep_app hw N e ie (hN e ie)
  have i1 : InT (opens3 t n e) ((t.length : Int) + 1) := ⟨by omega, by omega⟩
  refine good_app (u := [arrE n e, opE e, opE ((t.length : Int) + 1)]) g (by simp; omega) (fun i a b => ?_) (fun i a b h9 => ?_) (fun i a b => ?_)
  ·
   change i < (opens3 t n e).length at b
   rcases (by omega : i = t.length ∨ i = (t.length : Int) + 1 ∨ i = (t.length : Int) + 2) with rfl | rfl | rfl
   · exact one_arr r0 h1 h2 he
   · exact one_opn r1 (.inl he)
   ·
    refine one_opn r2 (.inr ?_)
    show (placeP (opens3 t n e) _ && decide (form (opens3 t n e) _ = 8)) = true
    rw [placeP_in.2 i1, form_in i1, r1]; rfl
  ·
   exfalso
   change i < (opens3 t n e).length at b
   change (rd_T40 (opens3 t n e) i).f0 = 9 at h9
   rcases (by omega : i = t.length ∨ i = (t.length : Int) + 1 ∨ i = (t.length : Int) + 2) with rfl | rfl | rfl
   ·
    rw [r0] at h9
    have : (7 : Int) = 9 := h9
    omega
   ·
    rw [r1] at h9
    have : (8 : Int) = 9 := h9
    omega
   ·
    rw [r2] at h9
    have : (8 : Int) = 9 := h9
    omega
  ·
   change i < (opens3 t n e).length at b
   rcases (by omega : i = t.length ∨ i = (t.length : Int) + 1 ∨ i = (t.length : Int) + 2) with rfl | rfl | rfl
   · exact ⟨_, deep_arr r0 hd⟩
   · exact ⟨_, deep_opn r1 hd⟩
   · exact ⟨_, deep_opn r2 (deep_opn r1 hd)⟩
 exact ⟨hG, gd_deep hG⟩
theorem same_drop (g : GoodR t) {u : List S40} (hG : GoodR (t ++ u)) {q : Int × Int} (hq : ¬ InT t q.2) (n : Nat) (p : Prs) (a b : Int) (ha : InT (t ++ u) a) (hb : InT t b) :
 (sameF (t ++ u) n (p ++ [q]) a b).1 = (sameF (t ++ u) n p a b).1 := by
 have hI := gd_inner hG
 have hI0 := gd_inner g
 have hD : Closed (t ++ u) (t ++ u) (fun a b => InT (t ++ u) a ∧ InT t b) := by
  refine ⟨fun _ _ _ => rfl, fun _ _ _ => rfl, fun a b h e7 e => ⟨hI.elem a h.1 e7, ?_⟩, fun a b h e11 e => ?_⟩
  ·
   rw [rd_app h.2] at e ⊢
   exact hI0.elem b h.2 (e ▸ e7)
  ·
   rw [rd_app h.2] at e ⊢
   exact ⟨fun v hv w hw => ⟨(hI.par a h.1 e11).1 v hv, (hI0.par b h.2 (e ▸ e11)).1 w hw⟩, (hI.par a h.1 e11).2, (hI0.par b h.2 (e ▸ e11)).2⟩
 refine (sameF_sim (R := fun p p' => p = p' ++ [q]) hD (fun p p' a b e hd => ?_) (fun p p' a b e _ => by rw [e]; rfl) n (p ++ [q]) p a b rfl ⟨ha, hb⟩).1
 rw [e, List.mem_append, List.mem_singleton]
 constructor
 ·
  rintro (h | h)
  · exact h
  · exact absurd (h ▸ hd.2) hq
 · exact fun h => .inl h
end
end Go.Proofs.Ytgnbemgeiloegaa.Tg
namespace Go.Proofs.Ytgnbemgeiloegaa.Tg
open Go.RowKit
open Go.Proofs.YtgnbemgeiloegaaW.PrintWords Go.Proofs.YtgnbemgeiloegaaW.PrintLast Go.Proofs.YtgnbemgeiloegaaW.PrintMore
set_option linter.unusedVariables false
set_option linter.unusedSimpArgs false
open Go.Proofs.Ytgnbemgeiloegaa.PTypesGoods (S40 S42 S47 k40 k42 k47 rd_T40 rd_T42 rd_T47 at_T40 at_T42 at_T47)
section
variable {t : List S40} {n e : Int}
theorem o_in (h0 : InT t e) : InT (opens3 t n e) e := in_app h0
theorem o_k : InT (opens3 t n e) (t.length : Int) := ⟨by omega, by rw [o3_len]; omega⟩
theorem o_k1 : InT (opens3 t n e) ((t.length : Int) + 1) := ⟨by omega, by rw [o3_len]; omega⟩
theorem o_fit (v : Bool) (N : Nat) : fitT (opens3 t n e) (N + 1) (t.length : Int) ((t.length : Int) + 1) v = true := by
 obtain ⟨r0, r1, _⟩ := o3_rd (t := t) (n := n) (e := e)
 unfold fitT fitX
 rw [opnF, r0, r1]
 have : opnX (opens3 t n e) (opnF (opens3 t n e) v N) (arrE n e) (opE e) v = true := by
  unfold opnX
  have n7 : (arrE n e).f0 = 7 ∨ (arrE n e).f0 = 8 := .inl rfl
  rw [if_pos n7]
  show (sameT (opens3 t n e) e e || _) = true
  rw [sameT_refl]; rfl
 have n8 : (opE e).f0 = 8 := rfl
 rw [this, decide_eq_true n8, if_pos (by rfl)]
theorem o_asg1 : asgT (opens3 t n e) (t.length : Int) ((t.length : Int) + 1) = false := by
 obtain ⟨r0, r1, _⟩ := o3_rd (t := t) (n := n) (e := e)
 unfold asgT asgX
 rw [r1]
 have n8 : (opE e).f0 = 0 ∨ (opE e).f0 = 5 ∨ (opE e).f0 = 6 ∨ (opE e).f0 = 8 := .inr (.inr (.inr rfl))
 rw [if_pos n8]
theorem o_asg2 : asgT (opens3 t n e) ((t.length : Int) + 1) (t.length : Int) = true := by
 obtain ⟨r0, r1, _⟩ := o3_rd (t := t) (n := n) (e := e)
 unfold asgT asgX
 rw [r0, r1]
 have n7 : ¬ ((arrE n e).f0 = 0 ∨ (arrE n e).f0 = 5 ∨ (arrE n e).f0 = 6 ∨ (arrE n e).f0 = 8) := show ¬ ((7 : Int) = 0 ∨ (7 : Int) = 5 ∨ (7 : Int) = 6 ∨ (7 : Int) = 8) by omega
 have m5 : ¬ (opE e).f0 = 5 := show ¬ (8 : Int) = 5 by omega
 have m6 : ¬ (opE e).f0 = 6 := show ¬ (8 : Int) = 6 by omega
 have m8 : (opE e).f0 = 8 := rfl
 have k7 : (arrE n e).f0 = 7 := rfl
 rw [if_neg n7, if_neg m5, if_neg m6, if_pos m8, decide_eq_true k7]
 show (if _ then true else (true && sameT (opens3 t n e) e e)) = true
 rw [sameT_refl]
 split <;> rfl
theorem o_same (g : GoodR t) (hG : GoodR (opens3 t n e)) (ie : InT t e) {i : Int} (hi : InT (opens3 t n e) i) (hk : i ≠ (t.length : Int) + 1) (h : sameT (opens3 t n e) i ((t.length : Int) + 1) = true) :
 (rd_T40 (opens3 t n e) i).f0 = 8 ∧ sameT (opens3 t n e) (rd_T40 (opens3 t n e) i).f4 e = true := by
 obtain ⟨r0, r1, _⟩ := o3_rd (t := t) (n := n) (e := e)
 have hI := gd_inner hG
 have hel := hI.elem i hi
 have hq : ¬ InT t ((i, (t.length : Int) + 1) : Int × Int).2 := fun hh => by have := hh.2; simp only at this; omega
 have hpk : Pok (opens3 t n e) [(i, (t.length : Int) + 1)] := (Pok.nil _).cons hi o_k1 (by simp)
 unfold sameT at h
 rw [sameF, r1] at h
 have key : (rd_T40 (opens3 t n e) i).f0 = 8 → (sameF (opens3 t n e) ((opens3 t n e).length * (opens3 t n e).length) [(i, (t.length : Int) + 1)] (rd_T40 (opens3 t n e) i).f4 e).1 = true → sameT (opens3 t n e) (rd_T40 (opens3 t n e) i).f4 e = true := by
  intro h8 hs
  have i4 := hel (by omega)
  have e1 := sameF_fuel hI ((opens3 t n e).length * (opens3 t n e).length) ((opens3 t n e).length * (opens3 t n e).length + 1) [(i, (t.length : Int) + 1)] (rd_T40 (opens3 t n e) i).f4 e hpk i4 (o_in ie) (by simp) (by simp; omega)
  rw [e1] at hs
  have e2 := same_drop g (u := [arrE n e, opE e, opE ((t.length : Int) + 1)]) hG hq ((opens3 t n e).length * (opens3 t n e).length + 1) [] (rd_T40 (opens3 t n e) i).f4 e i4 ie
  unfold sameT
  exact e2.symm.trans hs
 clear hpk hq hel hI
 generalize rd_T40 (opens3 t n e) i = x at h key ⊢
 unfold sameX at h
 have y9 : ¬ (opE e).f0 = 9 := show ¬ (8 : Int) = 9 by omega
 have y8 : (opE e).f0 = 8 := rfl
 have y2 : nul (opE e).f2 = true := nul_none
 rw [if_neg hk] at h
 by_cases h9 : x.f0 = 9
 ·
  rw [if_pos (.inl h9)] at h
  exfalso
  have h' : sameRec x (opE e) = true := h
  unfold sameRec at h'
  simp only [Bool.and_eq_true, decide_eq_true_eq] at h'
  have := h'.1.1.1
  rw [h9, y8] at this
  omega
 rw [if_neg (fun hh => hh.elim h9 y9)] at h
 by_cases hn : sameName x (opE e) = true
 ·
  exfalso
  unfold sameName at hn
  simp only [Bool.and_eq_true, beq_iff_eq, Bool.not_eq_true'] at hn
  obtain ⟨⟨⟨⟨h1, h2⟩, _⟩, _⟩, _⟩ := hn
  unfold nul at h1 y2
  rw [h2, y2] at h1
  cases h1
 rw [if_neg hn] at h
 by_cases h8 : x.f0 ≠ (opE e).f0
 ·
  rw [if_pos h8] at h
  cases h
 rw [if_neg h8, if_neg (by simp)] at h
 have x8 : x.f0 = 8 := (Classical.not_not.1 h8).trans y8
 rw [if_pos (.inr (.inl x8))] at h
 by_cases hl : sameLen x (opE e) = true
 ·
  rw [if_pos hl] at h
  exact ⟨x8, key x8 h⟩
 ·
  rw [if_neg hl] at h
  cases h
theorem o_opn (g : GoodR t) (ie : InT t e) (h8 : (rd_T40 t e).f0 ≠ 8) (v : Bool) (N : Nat) (i : Int) :
 opnF (opens3 t n e) v (N + 1) i ((t.length : Int) + 1) = if (rd_T40 (opens3 t n e) i).f0 = 7 ∨ (rd_T40 (opens3 t n e) i).f0 = 8 then sameT (opens3 t n e) (rd_T40 (opens3 t n e) i).f4 e else if (rd_T40 (opens3 t n e) i).f0 = 6 then !v && decide ((rd_T40 t e).f0 = 3) else false := by
 obtain ⟨r0, r1, _⟩ := o3_rd (t := t) (n := n) (e := e)
 have re : rd_T40 (opens3 t n e) e = rd_T40 t e := rd_app ie
 rw [opnF, r1]
 unfold opnX
 have h4 : (opE e).f4 = e := rfl
 rw [h4, re, decide_eq_false h8, Bool.false_and, Bool.or_false]
theorem o_var (g : GoodR t) (hG : GoodR (opens3 t n e)) (ie : InT t e) (h8 : (rd_T40 t e).f0 ≠ 8) (N : Nat) {i : Int} (hi : InT (opens3 t n e) i) (h : fitT (opens3 t n e) (N + 1) i ((t.length : Int) + 1) true = true) :
 fitT (opens3 t n e) (N + 1) i ((t.length : Int) + 1) false = true := by
 obtain ⟨r0, r1, _⟩ := o3_rd (t := t) (n := n) (e := e)
 have y8 : (opE e).f0 = 8 := rfl
 unfold fitT fitX at h ⊢
 rw [r1, decide_eq_true y8, Bool.true_and, o_opn g ie h8] at h ⊢
 have hs := o_same g hG ie hi
 have hr : i = (t.length : Int) + 1 → (rd_T40 (opens3 t n e) i) = opE e := fun hh => by rw [hh, r1]
 have hx : extT (opens3 t n e) i ((t.length : Int) + 1) = true → (rd_T40 (opens3 t n e) i).f0 = 8 := by
  intro hh
  unfold extT at hh
  rw [r1] at hh
  by_cases e8 : (rd_T40 (opens3 t n e) i).f0 = (opE e).f0
  · exact e8.trans y8
  · rw [if_pos e8] at hh; cases hh
 generalize rd_T40 (opens3 t n e) i = x at h hs hr hx ⊢
 by_cases h78 : x.f0 = 7 ∨ x.f0 = 8
 ·
  rw [if_pos h78] at h ⊢
  by_cases hs4 : sameT (opens3 t n e) x.f4 e = true
  · rw [if_pos hs4]
  ·
   exfalso
   rw [if_neg hs4, if_pos rfl] at h
   simp only [Bool.and_eq_true, Bool.or_eq_true, decide_eq_true_eq] at h
   rcases h.2.2.2 with hh | ⟨h9, _⟩
   ·
    by_cases hk : i = (t.length : Int) + 1
    ·
     have := hr hk
     rw [this] at hs4
     exact hs4 (sameT_refl _ e)
    · exact hs4 (hs hk hh).2
   · omega
 ·
  rw [if_neg h78] at h ⊢
  by_cases h6 : x.f0 = 6
  ·
   rw [if_pos h6] at h
   simp only [Bool.not_true, Bool.false_and, Bool.false_eq_true, if_false, if_true, Bool.and_eq_true, decide_eq_true_eq] at h
   exact absurd h6 h.2.2.1
  ·
   exfalso
   rw [if_neg h6, if_neg (by simp), if_pos rfl] at h
   simp only [Bool.and_eq_true, Bool.or_eq_true, decide_eq_true_eq] at h
   rcases h.2.2.2 with hh | ⟨h9, hh⟩
   ·
    by_cases hk : i = (t.length : Int) + 1
    ·
     have := hr hk
     rw [this] at h78
     exact h78 (.inr rfl)
    · exact h78 (.inr (hs hk hh).1)
   · exact h78 (.inr (hx hh))
theorem o_six (g : GoodR t) (ie : InT t e) (h8 : (rd_T40 t e).f0 ≠ 8) (N : Nat) : fitT (opens3 t n e) (N + 1) 6 ((t.length : Int) + 1) false = decide ((rd_T40 t e).f0 = 3) ∧ fitT (opens3 t n e) (N + 1) 6 ((t.length : Int) + 1) true = false := by
 obtain ⟨r0, r1, _⟩ := o3_rd (t := t) (n := n) (e := e)
 obtain ⟨i6, f6⟩ := form_basic g (i := 6) (by decide) (by decide)
 have r6 : (rd_T40 (opens3 t n e) 6).f0 = 6 := by
  have : rd_T40 (opens3 t n e) 6 = rd_T40 t 6 := rd_app i6
  rw [this, f6]
 have y8 : (opE e).f0 = 8 := rfl
 have n78 : ¬ ((6 : Int) = 7 ∨ (6 : Int) = 8) := by omega
 unfold fitT fitX
 rw [r1, decide_eq_true y8, Bool.true_and, Bool.true_and, o_opn g ie h8, o_opn g ie h8, r6, if_neg n78, if_neg n78, if_pos rfl, if_pos rfl]
 constructor
 ·
  by_cases h3 : (rd_T40 t e).f0 = 3
  · rw [decide_eq_true h3]; rfl
  · rw [decide_eq_false h3]; rfl
 · rfl
end
end Go.Proofs.Ytgnbemgeiloegaa.Tg
