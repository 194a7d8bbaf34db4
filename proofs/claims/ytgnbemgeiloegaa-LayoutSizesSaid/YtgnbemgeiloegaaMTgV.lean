import Derived.Test.YtgnbemgeiloegaaMTgU
import Derived.Test.YtgnbemgeiloegaaMTgM
import Derived.Deep.RegionHeld3
namespace Go.Proofs.Ytgnbemgeiloegaa.Tg
open Go.RowKit Go.Maps Go.WideMaps
open Go.Proofs.YtgnbemgeiloegaaW.PrintWords Go.Proofs.YtgnbemgeiloegaaW.PrintLast Go.Proofs.YtgnbemgeiloegaaW.PrintMore
set_option linter.unusedVariables false
set_option linter.unusedSimpArgs false
open Go.Proofs.Ytgnbemgeiloegaa.PTypesGoods (S40 S42 S47 k40 k42 k47 rd_T40 rd_T42 rd_T47 at_T40 at_T42 at_T47)
open Classical
structure BX (w wr : World) (sl : Value) : Prop where
 s : wr.cell? ⟨w.heap.size, 0, none⟩ = some sl
 lt : w.heap.size < wr.heap.size
 below : Below w.heap.size w wr
theorem BX.on {w wr w2 : World} {sl : Value} (h : BX w wr sl) (hb : Below wr.heap.size wr w2) : BX w w2 sl :=
 ⟨(hb.cell (p := ⟨w.heap.size, 0, none⟩) h.lt).trans h.s, Nat.lt_of_lt_of_le h.lt hb.size, h.below.trans (hb.mono h.below.size)⟩
theorem BX.grown {w wr w2 : World} {sl : Value} (h : BX w wr sl) {b : Nat} (hg : wr.grownBy w2 (some b)) (hb : w.heap.size < b) : BX w w2 sl :=
 ⟨(hg.cell_far _ h.lt (fun e => by have := Option.some.inj e; simp at this; omega)).trans h.s, Nat.lt_of_lt_of_le h.lt hg.size, h.below.grown hg h.below.size (fun k e => by have := Option.some.inj e; omega)⟩
theorem BX.made (w : World) (sl : Value) : BX w (w.alloc (.cells #[sl] 22)) sl := ⟨by go_simp, by simp, below_alloc (Below.refl _ _) _⟩
def isRec (x : S40) : Bool := decide (x.f0 = 9) && decide (x.f9 ≥ 0)
noncomputable def recM (t : List S40) (i : Nat) : Value → Option Int := fun u => if ∃ j : Nat, j < i ∧ isRec (rd_T40 t j) = true ∧ u = keyR (rd_T40 t j).f1 (rd_T40 t j).f9 then some 1 else none
theorem recM_zero (t : List S40) : recM t 0 = fun _ => none := by
 funext u
 unfold recM
 rw [if_neg (fun ⟨j, h, _⟩ => by omega)]
theorem recM_rec (t : List S40) (i : Nat) (h : isRec (rd_T40 t i) = true) : putG (recM t i) (keyR (rd_T40 t i).f1 (rd_T40 t i).f9) (some 1) = recM t (i + 1) := by
 funext u
 unfold putG recM
 by_cases e : u = keyR (rd_T40 t i).f1 (rd_T40 t i).f9
 · rw [if_pos e, if_pos ⟨i, by omega, h, e⟩]
 ·
  rw [if_neg e]
  congr 1
  rw [eq_iff_iff]
  constructor
  · rintro ⟨j, h1, h2, h3⟩; exact ⟨j, by omega, h2, h3⟩
  ·
   rintro ⟨j, h1, h2, h3⟩
   refine ⟨j, ?_, h2, h3⟩
   by_cases e' : j = i
   · subst e'; exact absurd h3 e
   · omega
theorem recM_no (t : List S40) (i : Nat) (h : isRec (rd_T40 t i) = false) : recM t i = recM t (i + 1) := by
 funext u
 unfold recM
 congr 1
 rw [eq_iff_iff]
 constructor
 · rintro ⟨j, h1, h2, h3⟩; exact ⟨j, by omega, h2, h3⟩
 ·
  rintro ⟨j, h1, h2, h3⟩
  refine ⟨j, ?_, h2, h3⟩
  by_cases e' : j = i
  · subst e'; rw [h] at h2; cases h2
  · omega
theorem recM_le (t : List S40) (i : Nat) (u : Value) : (recM t i u).getD 0 = 0 ∨ (recM t i u).getD 0 = 1 := by
 unfold recM
 split
 · exact .inr rfl
 · exact .inl rfl
theorem keyR_inj {s s' : ByteArray} {d d' : Int} (h : keyR s d = keyR s' d') : s = s' ∧ d = d' := by
 unfold keyR at h
 simp at h
 exact h
theorem recM_one {t : List S40} {i : Nat} (hr : isRec (rd_T40 t i) = true) (h : (recM t i (keyR (rd_T40 t i).f1 (rd_T40 t i).f9)).getD 0 = 1) : ∃ k : Int, 0 ≤ k ∧ k < i ∧ TwinP (rd_T40 t i) (rd_T40 t k) := by
 unfold recM at h
 by_cases e : ∃ j : Nat, j < i ∧ isRec (rd_T40 t j) = true ∧ keyR (rd_T40 t i).f1 (rd_T40 t i).f9 = keyR (rd_T40 t j).f1 (rd_T40 t j).f9
 ·
  obtain ⟨j, h1, h2, h3⟩ := e
  obtain ⟨e1, e2⟩ := keyR_inj h3
  unfold isRec at hr h2
  simp only [Bool.and_eq_true, decide_eq_true_eq] at hr h2
  exact ⟨j, by omega, by omega, hr.1, h2.1, e1, e2, hr.2⟩
 ·
  rw [if_neg e] at h
  simp at h
theorem recM_two {t : List S40} {i : Nat} (h : (recM t i (keyR (rd_T40 t i).f1 (rd_T40 t i).f9)).getD 0 = 0) : ∀ k : Int, 0 ≤ k → k < i → ¬ TwinP (rd_T40 t i) (rd_T40 t k) := fun k h0 h1 ht => by
 unfold recM at h
 obtain ⟨a, b, c, d, e⟩ := ht
 have ek : ((k.toNat : Nat) : Int) = k := by omega
 have hex : ∃ j : Nat, j < i ∧ isRec (rd_T40 t j) = true ∧ keyR (rd_T40 t i).f1 (rd_T40 t i).f9 = keyR (rd_T40 t j).f1 (rd_T40 t j).f9 := by
  refine ⟨k.toNat, by omega, ?_, ?_⟩
  ·
   rw [ek]
   unfold isRec
   simp only [Bool.and_eq_true, decide_eq_true_eq]
   exact ⟨b, by omega⟩
  · rw [ek, c, d]
 rw [if_pos hex] at h
 simp at h
set_option maxHeartbeats 16000000 in
set_option maxRecDepth 100000 in
theorem pgood_calls {w : World} {A : Option Addr} {c : Nat} {t : List S40} (hC : Kd.C k40 w A t.length t) (hc : t.length ≤ c) (hz : Sized t) (hpm : Parms t) :
 Calls Try.prog 45 #[.slice A t.length c] w fun e w' => e = .returned (.bool (goodP t)) ∧ Below w.heap.size w w' := by
 by_cases h7 : t.length ≤ 6
 ·
  have R : Aside0 (goodP t = false) := ⟨decide_eq_false fun h => by have := h.formed.lo; omega⟩
  have h7b : decide ((t.length : Int) ≤ 6) = true := decide_eq_true (by omega)
  go_enter Try.func45, Try.ntmps45
  go_wp2
  go_ret
  exact ⟨ret_bool R.out.symm, below_alloc (Below.refl _ _) _⟩
 have h7b : decide ((t.length : Int) ≤ 6) = false := decide_eq_false (by omega)
 by_cases h256 : t.length > 256
 ·
  have R : Aside0 (goodP t = false) := ⟨decide_eq_false fun h => by have := h.hi; omega⟩
  have h256b : decide ((t.length : Int) > 256) = true := decide_eq_true (by omega)
  go_enter Try.func45, Try.ntmps45
  go_wp2
  go_ret
  exact ⟨ret_bool R.out.symm, below_alloc (Below.refl _ _) _⟩
 have h256b : decide ((t.length : Int) > 256) = false := decide_eq_false (by omega)
 have hCx := Aside0.mk hC
 clear hC
 have HB0 := Aside0.mk (BX.made w (.slice A t.length c))
 have hmm := @run_makeMap Try.prog
 go_enter Try.func45, Try.ntmps45
 go_upto_region 3 with fail
 go_wp2
 go_loopw [19] (fun i wr => ∃ i0 : Nat, i0 ≤ t.length ∧ i = .int .i64 i0 ∧ Aside0 (∀ j : Int, 0 ≤ j → j < i0 → (j < 7 → rd_T40 t j = bas j) ∧ (7 ≤ j → formedP t (rd_T40 t j) = true)) ∧ Aside0 (BX w wr (.slice A t.length c))) (fun i _ => t.length - (intOf i).toNat)
 case atStart => exact ⟨0, Nat.zero_le _, rfl, ⟨fun j h0 h1 => by omega⟩, HB0⟩
 case round =>
  clear HB0
  obtain ⟨wo, rfl⟩ : ∃ wo : World, wo = wr := ⟨_, rfl⟩
  obtain ⟨i0, hi0, rfl, hS, HB⟩ := hrel
  by_cases hlt : i0 < t.length
  ·
   have hx : decide ((i0 : Int) < (t.length : Int)) = true := decide_eq_true (by omega)
   have hin := size_in hlt
   obtain ⟨ad, A6, c6, A7, c7, hA, p0, p1, p2, p3, p4, p5, p6, p7, p8, p9, l6, C6, l7, C7⟩ := at_T40 (Kd.C_below hCx.out HB.out.below) (i0 : Int) (by omega) (by omega)
   subst hA
   have hk00 : ((i0 : Nat) : Int).toNat = i0 := by omega
   rw [hk00] at p0 p1 p2 p3 p4 p5 p6 p7 p8 p9
   obtain ⟨hp7, hp6⟩ := hpm _ (rd_in (t := t) (a := (i0 : Int)) (by omega) (by omega))
   have hc6 := Aside0.mk C6
   have hc7 := Aside0.mk C7
   clear C6 C7 hk00
   obtain ⟨x, hx'⟩ : ∃ x, rd_T40 t (i0 : Int) = x := ⟨_, rfl⟩
   rw [hx'] at p0 p1 p2 p3 p4 p5 p6 p7 p8 p9 l6 l7 hc6 hc7 hp7 hp6
   replace hx' := Aside0.mk hx'
   have hba : Aside0 (Below wo.heap.size wo (wo.alloc (.cells #[.int .i64 x.f0, .string x.f1, .string x.f2, .int .i64 x.f3, .int .i64 x.f4, .int .i64 x.f5, .slice A6 x.f6.length c6, .slice A7 x.f7.length c7, .int .i64 x.f8, .int .i64 x.f9] 40))) := ⟨below_alloc (Below.refl _ _) _⟩
   have HBa := Aside0.mk (HB.out.on hba.out)
   have s0 := HB.out.s
   have hsl := HB.out.lt
   by_cases h7 : i0 < 7
   ·
    have g7 : decide ((i0 : Int) ≤ 6) = true := decide_eq_true (by omega)
    go_wp2_with fail
    refine (bare_calls x (i0 : Int) (Kd.C_below hc6.out hba.out) l6 (Kd.C_below hc7.out hba.out) l7).mono ?_
    rintro e w4 ⟨rfl, hb4⟩
    have HB4 := Aside0.mk (HBa.out.on hb4)
    generalize hb : decide (x = bas (i0 : Int)) = b
    replace hb := Aside0.mk hb
    clear p0 p1 p2 p3 p4 p5 p6 p7 p8 p9 s0 hsl hba HBa hb4 HB
    cases b with
    | false =>
     have R : Aside0 (goodP t = false) := ⟨decide_eq_false fun h => of_decide_eq_false hb.out (by rw [← hx'.out]; exact h.formed.bas _ (by omega) (by omega))⟩
     go_wp2
     go_ret
     exact ⟨ret_bool R.out.symm, HB4.out.below⟩
    | true =>
     have hS2 : Aside0 (∀ j : Int, 0 ≤ j → j < ((i0 + 1 : Nat) : Int) → (j < 7 → rd_T40 t j = bas j) ∧ (7 ≤ j → formedP t (rd_T40 t j) = true)) := ⟨fun j h0 h1 => by
      by_cases e : j = i0
      ·
       subst e
       exact ⟨fun _ => by rw [hx'.out]; exact of_decide_eq_true hb.out, fun h => by omega⟩
      · exact hS.out j h0 (by omega)⟩
     clear hS
     have g6 : decide ((i0 : Int) > 6) = false := decide_eq_false (by omega)
     go_wp2
     go_roundw
     case rel => exact ⟨i0 + 1, by omega, by go_num, hS2, HB4⟩
     case measure => simp [intOf]; omega
   ·
    have g7 : decide ((i0 : Int) ≤ 6) = false := decide_eq_false (by omega)
    have g6 : decide ((i0 : Int) > 6) = true := decide_eq_true (by omega)
    go_wp2_with fail
    refine (formed_calls (Kd.C_below hCx.out HBa.out.below) hc x (Kd.C_below hc6.out hba.out) l6 (Kd.C_below hc7.out hba.out) l7 hp6 hp7).mono ?_
    rintro e w4 ⟨rfl, hb4⟩
    have HB4 := Aside0.mk (HBa.out.on hb4)
    generalize hb : formedP t x = b
    replace hb := Aside0.mk hb
    clear p0 p1 p2 p3 p4 p5 p6 p7 p8 p9 s0 hsl hba HBa hb4 HB
    cases b with
    | false =>
     have R : Aside0 (goodP t = false) := ⟨decide_eq_false fun h => by have := h.formed.frm i0 (by omega) (by omega); rw [hx'.out, hb.out] at this; cases this⟩
     go_wp2
     go_ret
     exact ⟨ret_bool R.out.symm, HB4.out.below⟩
    | true =>
     have hS2 : Aside0 (∀ j : Int, 0 ≤ j → j < ((i0 + 1 : Nat) : Int) → (j < 7 → rd_T40 t j = bas j) ∧ (7 ≤ j → formedP t (rd_T40 t j) = true)) := ⟨fun j h0 h1 => by
      by_cases e : j = i0
      ·
       subst e
       exact ⟨fun h => by omega, fun _ => by rw [hx'.out]; exact hb.out⟩
      · exact hS.out j h0 (by omega)⟩
     clear hS
     go_wp2
     go_roundw
     case rel => exact ⟨i0 + 1, by omega, by go_num, hS2, HB4⟩
     case measure => simp [intOf]; omega
  ·
   have hx : decide ((i0 : Int) < (t.length : Int)) = false := decide_eq_false (by omega)
   have hFm : Aside0 (Formed t) := ⟨⟨by omega, fun j h0 h1 => (hS.out j h0 (by omega)).1 h1, fun j h0 h1 => (hS.out j (by omega) (by omega)).2 h0⟩⟩
   clear hS
   have s0 := HB.out.s
   have hsl := HB.out.lt
   have h0l : decide ((t.length : Int).toNat ≤ 35184372088832) = true := decide_eq_true (by omega)
   have h0m : decide (0 ≤ (t.length : Int)) = true := decide_eq_true (by omega)
   go_wp2_with (first | ((with_reducible refine gate_dst (N := 45) rfl ?_); (try (refine gate_guard (by rfl) ?_; dsimp only)); refine Kd.R_make (Kd.int .i64) _ 3 rfl (N := 45) rfl 32 _ _ rfl (t.length : Int) rfl rfl Try.underlying32 (.int .i64 0) 8 PTypesGoods.info3 rfl (by decide) (by omega) 0 (ok := fun _ => True) (okp := fun _ => True) rfl (fun _ hk => hk) trivial (of_decide_eq_true h0m) (Nat.le_trans (Nat.mul_le_mul_right _ (of_decide_eq_true h0l : (t.length : Int).toNat ≤ 35184372088832)) (by omega)) (Below.refl _ _) (Nat.le_refl _) ?_; intro v w1 ho hb hg_ hnew_; clear hg_ hnew_; have HB1 := Aside0.mk (HB.out.on hb); have HO1 := Aside0.mk ho; clear ho hb s0; have s0 := HB1.out.s; have hsl1 := HB1.out.lt))
   have hn0 : (t.length : Int).toNat = t.length := by omega
   rw [hn0] at HO1
   have hW : Aside0 (Within t) := ⟨hFm.out.within⟩
   have hvb : Aside0 (∀ k, v.ownBlock = some k → w.heap.size < k) := ⟨fun k e => Nat.lt_of_lt_of_le hsl (Kd.R_base HO1.out k e)⟩
   have hvm : Aside0 (∀ k, v.ownBlock = some k → k ≠ w1.heap.size) := ⟨fun k e => by have := Kd.R_lt HO1.out k e; omega⟩
   have HBm := Aside0.mk (HB1.out.on (below_alloc (Below.refl _ _) (.map #[] 0)))
   have HOm := Aside0.mk (Kd.R_lower (Kd.R_alloc HO1.out (.map #[] 0)) (Nat.le_of_lt hsl))
   have HMm : Aside0 (MapG 72 (w1.alloc (.map #[] 0)) (.map (some w1.heap.size)) 0 (recM t 0)) := ⟨by rw [recM_zero]; exact MapG.made 72 w1⟩
   have hsl2 : w.heap.size < w1.heap.size := hsl1
   clear HB1 HO1 HB hn0 h0l h0m hx s0 hsl hsl1 hmm
   have hsl1 : w.heap.size < w1.heap.size := hsl2
   clear hsl2
   go_loopw [49] (fun i wr => ∃ (i0 N : Nat) (st : List Int), i0 ≤ t.length ∧ i = .int .i64 i0 ∧ N ≤ i0 ∧ Aside0 (visits (visit (insP t) (t.length + 1)) (from_ 0 i0) (List.replicate t.length 0) = (true, st)) ∧ Aside0 (∀ j k : Int, 0 ≤ k → k < j → j < i0 → ¬ TwinP (rd_T40 t j) (rd_T40 t k)) ∧ Aside0 (MapG 72 wr (.map (some w1.heap.size)) N (recM t i0)) ∧ Aside0 (Kd.R (Kd.int .i64) 3 wr w.heap.size (fun _ => True) v st) ∧ Aside0 (BX w wr (.slice A t.length c))) (fun i _ => t.length - (intOf i).toNat)
   case atStart => exact ⟨0, 0, _, by omega, rfl, by omega, ⟨rfl⟩, ⟨fun j k h0 h1 h2 => by omega⟩, HMm, HOm, HBm⟩
   case round =>
    clear HMm HOm HBm
    obtain ⟨wo, rfl⟩ : ∃ wo : World, wo = wr := ⟨_, rfl⟩
    obtain ⟨i0, N, st, hi0, rfl, hN, hV, hT, HM, HO, HB⟩ := hrel
    obtain ⟨ad, rfl⟩ : ∃ ad, A = some ad := by
     obtain ⟨ad, _, _, _, _, hA, _⟩ := at_T40 hCx.out 0 (by omega) (by omega)
     exact ⟨ad, hA⟩
    by_cases hlt : i0 < t.length
    ·
     skip
     have hx : decide ((i0 : Int) < (t.length : Int)) = true := decide_eq_true (by omega)
     have hin := size_in hlt
     obtain ⟨ad0, A6, c6, A7, c7, hA, p0, p1, p2, p3, p4, p5, p6, p7, p8, p9, l6, C6, l7, C7⟩ := at_T40 (Kd.C_below hCx.out HB.out.below) (i0 : Int) (by omega) (by omega)
     obtain rfl := Option.some.inj hA
     have hk00 : ((i0 : Nat) : Int).toNat = i0 := by omega
     rw [hk00] at p0 p1 p2 p3 p4 p5 p6 p7 p8 p9
     clear C6 C7 hk00 hA l6 l7
     have hf9 := Formed.f9 hFm.out (i0 : Int) (by omega) (by omega)
     have hsz := (hz _ (rd_in (t := t) (a := (i0 : Int)) (by omega) (by omega))).1
     have hkp : Aside0 (Keeps (List.replicate t.length 0) st) := ⟨by
      have := visits_keeps (visit_keeps (insP t) (t.length + 1)) (from_ 0 i0) (List.replicate t.length 0)
      rw [hV.out] at this
      exact this⟩
     obtain ⟨kr, hkr⟩ := (ends_is hW.out (t.length + 1) (i0 : Int) st ⟨by omega, by omega⟩ (by rw [hkp.out.len]; simp) (hkp.out.val (val_zeros _)) (Nat.lt_of_le_of_lt hkp.out.zer (zeros_start _))).rounds
     obtain ⟨r1, st2, hvs⟩ : ∃ r1 st2, visit (insP t) (t.length + 1) (i0 : Int) st = (r1, st2) := ⟨_, _, rfl⟩
     have hkr2 := Aside0.mk hkr
     rw [hvs] at hkr2
     clear hkr
     have hvs2 := Aside0.mk hvs
     clear hvs hkp
     have hpre : Aside0 (from_ 0 t.length = from_ 0 i0 ++ (i0 : Int) :: from_ (i0 + 1) (t.length - (i0 + 1))) := ⟨by
      have e := from_add 0 i0 (t.length - i0)
      have e2 := from_succ i0 (t.length - (i0 + 1))
      rw [show i0 + (t.length - i0) = t.length by omega, Nat.zero_add] at e
      rw [show t.length - (i0 + 1) + 1 = t.length - i0 by omega] at e2
      rw [e, e2]⟩
     have m1 : Aside0 (isRec (rd_T40 t (i0 : Int)) = true → (recM t i0 (keyR (rd_T40 t (i0 : Int)).f1 (rd_T40 t (i0 : Int)).f9)).getD 0 = 1 → goodP t = false) := ⟨fun h1 h2 => decide_eq_false fun g => by
      obtain ⟨j, j0, j1, j2⟩ := recM_one h1 h2
      exact g.twin i0 j j0 j1 (by omega) j2⟩
     have m2 : Aside0 ((∀ j : Int, 0 ≤ j → j < i0 → ¬ TwinP (rd_T40 t i0) (rd_T40 t j)) → ∀ j k : Int, 0 ≤ k → k < j → j < ((i0 + 1 : Nat) : Int) → ¬ TwinP (rd_T40 t j) (rd_T40 t k)) := ⟨fun h j k h0 h1 h2 => by
      by_cases e : j = i0
      · subst e; exact h k h0 (by omega)
      · exact hT.out j k h0 h1 (by omega)⟩
     have m3 : Aside0 ((recM t i0 (keyR (rd_T40 t (i0 : Int)).f1 (rd_T40 t (i0 : Int)).f9)).getD 0 = 0 → ∀ j : Int, 0 ≤ j → j < i0 → ¬ TwinP (rd_T40 t i0) (rd_T40 t j)) := ⟨recM_two⟩
     have m4 : Aside0 (isRec (rd_T40 t (i0 : Int)) = true → putG (recM t i0) (keyR (rd_T40 t (i0 : Int)).f1 (rd_T40 t (i0 : Int)).f9) (some 1) = recM t (i0 + 1)) := ⟨recM_rec t i0⟩
     have m5 : Aside0 (isRec (rd_T40 t (i0 : Int)) = false → recM t i0 = recM t (i0 + 1) ∧ ∀ j : Int, 0 ≤ j → j < i0 → ¬ TwinP (rd_T40 t i0) (rd_T40 t j)) := ⟨fun h => ⟨recM_no t i0 h, fun j j0 j1 ht => by
      obtain ⟨a, b, c, d, e⟩ := ht
      unfold isRec at h
      rw [decide_eq_true a, decide_eq_true (p := (rd_T40 t (i0 : Int)).f9 ≥ 0) (by omega)] at h
      cases h⟩⟩
     clear hT
     generalize rd_T40 t (i0 : Int) = x at p0 p1 p2 p3 p4 p5 p6 p7 p8 p9 hf9 hsz m1 m2 m3 m4 m5
     have hwf : (Lit.int .i64 x.f9).wf = true := WalkArith.wf_i64 (by omega)
     obtain ⟨kl, hkl⟩ := key72 hwf hsz
     have hkk := Aside0.mk hkl
     clear hkl hwf hf9 hsz
     have hba : Aside0 (Below wo.heap.size wo (wo.alloc (.cells #[.int .i64 x.f0, .string x.f1, .string x.f2, .int .i64 x.f3, .int .i64 x.f4, .int .i64 x.f5, .slice A6 x.f6.length c6, .slice A7 x.f7.length c7, .int .i64 x.f8, .int .i64 x.f9] 40))) := ⟨below_alloc (Below.refl _ _) _⟩
     have HBa := Aside0.mk (HB.out.on hba.out)
     have HMa := Aside0.mk (HM.out.kept (hba.out.block _ HM.out.lt))
     have HOa := Aside0.mk (Kd.R_below HO.out hba.out)
     have s0 := HB.out.s
     have hsl := HB.out.lt
     have hmlt := HM.out.lt
     have hwm : w.heap.size < w1.heap.size := hsl1
     clear HB HM HO
     have hcc := recM_le t i0 (keyR x.f1 x.f9)
     have law72 := Keyed.of_law klaw72
     cases hr : isRec x with
     | true =>
      have hr' : x.f0 = 9 ∧ 0 ≤ x.f9 := by unfold isRec at hr; simpa using hr
      have hr2 := Aside0.mk hr
      obtain ⟨r9, r0⟩ := hr'
      have r9b : (x.f0 == 9) = true := by simpa using r9
      have r0b : decide (x.f9 ≥ 0) = true := decide_eq_true r0
      replace r9 := Aside0.mk r9
      clear hr
      have HMd : MapG 72 (wo.alloc (.cells #[.int .i64 x.f0, .string x.f1, .string x.f2, .int .i64 x.f3, .int .i64 x.f4, .int .i64 x.f5, .slice A6 x.f6.length c6, .slice A7 x.f7.length c7, .int .i64 x.f8, .int .i64 x.f9] 40)).drew (.map (some w1.heap.size)) N (recM t i0) := HMa.out.kept rfl
      have hl1 := HMd.look law72 Try.underlying70 hkk.out
      rcases hcc with hcc | hcc
      ·
       rw [hcc] at hl1
       obtain ⟨v0, sst, wm, w6, hent, hsto, HM6', hg6, hwm6⟩ := HMd.entry klaw72 Try.underlying70 (by unfold maxLen; omega) (x := 1) hkk.out (by decide)
       have hl1m := HMd.entry_wm klaw72 Try.underlying70 (by unfold maxLen; omega) hkk.out hent
       rw [hcc] at hl1m
       have hl6 := HM6'.look law72 Try.underlying70 hkk.out
       rw [show (putG (recM t i0) (keyR x.f1 x.f9) (some 1) (keyR x.f1 x.f9)).getD 0 = 1 by simp [putG]] at hl6
       have HB6 := Aside0.mk (BX.grown (w := w) (sl := .slice (some ad) t.length c) (HBa.out.on (below_drew (Below.refl _ _))) hg6 hwm)
       have q0 : (w6).cell? ⟨wo.heap.size, 0, none⟩ = some (.int .i64 x.f0) := (hg6.cell_far _ (by simp) (fun e => by have := Option.some.inj e; simp at this; omega)).trans (by go_simp)
       have q1 : (w6).cell? ⟨wo.heap.size, 1, none⟩ = some (.string x.f1) := (hg6.cell_far _ (by simp) (fun e => by have := Option.some.inj e; simp at this; omega)).trans (by go_simp)
       have q9 : (w6).cell? ⟨wo.heap.size, 9, none⟩ = some (.int .i64 x.f9) := (hg6.cell_far _ (by simp) (fun e => by have := Option.some.inj e; simp at this; omega)).trans (by go_simp)
       have z1 : wm.cell? ⟨wo.heap.size, 1, none⟩ = some (.string x.f1) := (hwm6 ⟨wo.heap.size, 1, none⟩ (by simp; omega)).trans (by go_simp)
       have z9 : wm.cell? ⟨wo.heap.size, 9, none⟩ = some (.int .i64 x.f9) := (hwm6 ⟨wo.heap.size, 9, none⟩ (by simp; omega)).trans (by go_simp)
       clear hwm6
       have u1 : IntKind.i64.wrap (0 + 1) = 1 := by decide
       have u2 : IntKind.i64.wrap 1 = 1 := by decide
       have HM : Aside0 (MapG 72 w6 (.map (some w1.heap.size)) (N + 1) (recM t (i0 + 1))) := ⟨by rw [← m4.out hr2.out]; exact HM6'⟩
       have HO := Aside0.mk (Kd.R_mono (ok' := fun _ => True) (Kd.R_grown (Kd.R_drew (Kd.R_tight rfl HOa.out)) hg6 (fun k hk e => hvm.out _ hk.symm (Option.some.inj e))) (fun _ _ => trivial))
       have hT3 := Aside0.mk (m2.out (m3.out hcc))
       replace hcc := Aside0.mk hcc
       have HBX := HB6
       have s6 := HB6.out.s
       clear m1 m2 m3 m4 m5 HBa HMa HOa HMd HB6 hg6 HM6' hba
       unfold keyR at hl1 hent hl6 hl1m
       unfold goInt at hent hsto
       go_upto_region 15 with fail
       go_region_held3 (fun w' => w'.cell? ⟨wo.heap.size, 1, none⟩ = some (.string x.f1) ∧ w'.cell? ⟨wo.heap.size, 9, none⟩ = some (.int .i64 x.f9)) (first | go_keep | exact ⟨z1, z9⟩ | exact ⟨q1, q9⟩) (fail)
       all_goals
        clear hl1 hl1m hent hsto z1 z9 u1 u2
        go_wp2_with fail
        refine (TgEnds.tables_ends.calls kr _ _ t (i0 : Int) (fun k_ => some k_ = v.ownBlock) v st r1 st2 w _ HBX.out.below (Kd.C_kept_came k40_heap hCx.out HBX.out.below (fun k hk => Kd.R_base HO.out k hk.symm)) hc hCx.out (Kd.R_tight rfl HO.out) hkr2.out).mono ?_
        rintro e w3 ⟨rfl, ho3, hb3, hk3⟩
        have HO3 := Aside0.mk (Kd.R_mono (ok' := fun _ => True) ho3 (fun _ _ => trivial))
        have HB3 : Aside0 (BX w w3 (.slice (some ad) t.length c)) := ⟨⟨cell_kept HBX.out.s hk3 (fun h => by have := hvb.out _ h.symm; simp at this), Nat.lt_of_lt_of_le HBX.out.lt hk3.1, hb3⟩⟩
        have HM3 := Aside0.mk (HM.out.kept (hk3.2 _ HM.out.lt (fun h => hvm.out _ h.symm rfl)))
        clear ho3 hb3 hk3 HO HBX HM hkr2
        cases r1 with
        | false =>
         have R : Aside0 (goodP t = false) := ⟨decide_eq_false fun h => by
          have := h.sea
          unfold searchP at this
          rw [hpre.out, visits_app, hV.out] at this
          simp only [if_true, visits, hvs2.out] at this
          simp at this⟩
         go_wp2
         go_ret
         exact ⟨ret_bool R.out.symm, HB3.out.below⟩
        | true =>
         have hV3 : Aside0 (visits (visit (insP t) (t.length + 1)) (from_ 0 (i0 + 1)) (List.replicate t.length 0) = (true, st2)) := ⟨by
          have e := from_snoc 0 i0
          rw [Nat.zero_add] at e
          rw [e, visits_app, hV.out]
          simp only [if_true, visits, hvs2.out]⟩
         clear hV hvs2 hpre
         go_wp2
         go_roundw
         case rel => exact ⟨i0 + 1, N + 1, st2, by omega, by go_num, by omega, hV3, hT3, HM3, HO3, HB3⟩
         case measure => simp [intOf]; omega
      ·
       rw [hcc] at hl1
       obtain ⟨v0, sst, wm, w6, hent, hsto, HM6', hg6, hwm6⟩ := HMd.entry klaw72 Try.underlying70 (by unfold maxLen; omega) (x := 2) hkk.out (by decide)
       have hl1m := HMd.entry_wm klaw72 Try.underlying70 (by unfold maxLen; omega) hkk.out hent
       rw [hcc] at hl1m
       have hl6 := HM6'.look law72 Try.underlying70 hkk.out
       rw [show (putG (recM t i0) (keyR x.f1 x.f9) (some 2) (keyR x.f1 x.f9)).getD 0 = 2 by simp [putG]] at hl6
       have HB6 := Aside0.mk (BX.grown (w := w) (sl := .slice (some ad) t.length c) (HBa.out.on (below_drew (Below.refl _ _))) hg6 hwm)
       have q0 : (w6).cell? ⟨wo.heap.size, 0, none⟩ = some (.int .i64 x.f0) := (hg6.cell_far _ (by simp) (fun e => by have := Option.some.inj e; simp at this; omega)).trans (by go_simp)
       have q1 : (w6).cell? ⟨wo.heap.size, 1, none⟩ = some (.string x.f1) := (hg6.cell_far _ (by simp) (fun e => by have := Option.some.inj e; simp at this; omega)).trans (by go_simp)
       have q9 : (w6).cell? ⟨wo.heap.size, 9, none⟩ = some (.int .i64 x.f9) := (hg6.cell_far _ (by simp) (fun e => by have := Option.some.inj e; simp at this; omega)).trans (by go_simp)
       have z1 : wm.cell? ⟨wo.heap.size, 1, none⟩ = some (.string x.f1) := (hwm6 ⟨wo.heap.size, 1, none⟩ (by simp; omega)).trans (by go_simp)
       have z9 : wm.cell? ⟨wo.heap.size, 9, none⟩ = some (.int .i64 x.f9) := (hwm6 ⟨wo.heap.size, 9, none⟩ (by simp; omega)).trans (by go_simp)
       clear hwm6
       have u1 : IntKind.i64.wrap (1 + 1) = 2 := by decide
       have u2 : IntKind.i64.wrap 2 = 2 := by decide
       have R := Aside0.mk (m1.out hr2.out hcc)
       replace hcc := Aside0.mk hcc
       have HBX := HB6
       have s6 := HB6.out.s
       clear m1 m2 m3 m4 m5 HBa HMa HOa HMd HB6 hg6 HM6' hba
       unfold keyR at hl1 hent hl6 hl1m
       unfold goInt at hent hsto
       go_upto_region 15 with fail
       go_region_held3 (fun w' => w'.cell? ⟨wo.heap.size, 1, none⟩ = some (.string x.f1) ∧ w'.cell? ⟨wo.heap.size, 9, none⟩ = some (.int .i64 x.f9)) (first | go_keep | exact ⟨z1, z9⟩ | exact ⟨q1, q9⟩) (fail)
       all_goals
        clear hl1 hl1m hent hsto z1 z9 u1 u2
        go_wp2
        go_ret
        exact ⟨ret_bool R.out.symm, HBX.out.below⟩
     | false =>
      have hT3 := Aside0.mk (m2.out (m5.out hr).2)
      have HM : Aside0 (MapG 72 (wo.alloc (.cells #[.int .i64 x.f0, .string x.f1, .string x.f2, .int .i64 x.f3, .int .i64 x.f4, .int .i64 x.f5, .slice A6 x.f6.length c6, .slice A7 x.f7.length c7, .int .i64 x.f8, .int .i64 x.f9] 40)) (.map (some w1.heap.size)) (N + 1) (recM t (i0 + 1))) := ⟨by rw [← (m5.out hr).1]; exact HMa.out.more⟩
      have hl1 := HMa.out.look law72 Try.underlying70 hkk.out
      have HO := HOa
      have HBX := HBa
      have hr' : x.f0 = 9 → x.f9 < 0 := by unfold isRec at hr; simpa using hr
      clear m1 m2 m3 m4 m5 HBa HMa HOa hr hba
      have hgt : decide ((recM t i0 (keyR x.f1 x.f9)).getD 0 > 1) = false := decide_eq_false (by omega)
      generalize (recM t i0 (keyR x.f1 x.f9)).getD 0 = cc at hl1 hgt
      replace hcc := Aside0.mk True.intro
      unfold keyR at hl1
      by_cases r9 : x.f0 = 9
      ·
       have r9b : (x.f0 == 9) = true := by simpa using r9
       have r0b : decide (x.f9 ≥ 0) = false := decide_eq_false (by have := hr' r9; omega)
       replace r9 := Aside0.mk r9
       clear hr'
       go_wp2_with fail
       refine (TgEnds.tables_ends.calls kr _ _ t (i0 : Int) (fun k_ => some k_ = v.ownBlock) v st r1 st2 w _ HBX.out.below (Kd.C_kept_came k40_heap hCx.out HBX.out.below (fun k hk => Kd.R_base HO.out k hk.symm)) hc hCx.out (Kd.R_tight rfl HO.out) hkr2.out).mono ?_
       rintro e w3 ⟨rfl, ho3, hb3, hk3⟩
       have HO3 := Aside0.mk (Kd.R_mono (ok' := fun _ => True) ho3 (fun _ _ => trivial))
       have HB3 : Aside0 (BX w w3 (.slice (some ad) t.length c)) := ⟨⟨cell_kept HBX.out.s hk3 (fun h => by have := hvb.out _ h.symm; simp at this), Nat.lt_of_lt_of_le HBX.out.lt hk3.1, hb3⟩⟩
       have HM3 := Aside0.mk (HM.out.kept (hk3.2 _ HM.out.lt (fun h => hvm.out _ h.symm rfl)))
       clear ho3 hb3 hk3 HO HBX HM hkr2
       cases r1 with
       | false =>
        have R : Aside0 (goodP t = false) := ⟨decide_eq_false fun h => by
         have := h.sea
         unfold searchP at this
         rw [hpre.out, visits_app, hV.out] at this
         simp only [if_true, visits, hvs2.out] at this
         simp at this⟩
        go_wp2
        go_ret
        exact ⟨ret_bool R.out.symm, HB3.out.below⟩
       | true =>
        have hV3 : Aside0 (visits (visit (insP t) (t.length + 1)) (from_ 0 (i0 + 1)) (List.replicate t.length 0) = (true, st2)) := ⟨by
         have e := from_snoc 0 i0
         rw [Nat.zero_add] at e
         rw [e, visits_app, hV.out]
         simp only [if_true, visits, hvs2.out]⟩
        clear hV hvs2 hpre
        go_wp2
        go_roundw
        case rel => exact ⟨i0 + 1, N + 1, st2, by omega, by go_num, by omega, hV3, hT3, HM3, HO3, HB3⟩
        case measure => simp [intOf]; omega
      ·
       have r9b : (x.f0 == 9) = false := by simpa using r9
       replace r9 := Aside0.mk r9
       clear hr'
       go_wp2_with fail
       refine (TgEnds.tables_ends.calls kr _ _ t (i0 : Int) (fun k_ => some k_ = v.ownBlock) v st r1 st2 w _ HBX.out.below (Kd.C_kept_came k40_heap hCx.out HBX.out.below (fun k hk => Kd.R_base HO.out k hk.symm)) hc hCx.out (Kd.R_tight rfl HO.out) hkr2.out).mono ?_
       rintro e w3 ⟨rfl, ho3, hb3, hk3⟩
       have HO3 := Aside0.mk (Kd.R_mono (ok' := fun _ => True) ho3 (fun _ _ => trivial))
       have HB3 : Aside0 (BX w w3 (.slice (some ad) t.length c)) := ⟨⟨cell_kept HBX.out.s hk3 (fun h => by have := hvb.out _ h.symm; simp at this), Nat.lt_of_lt_of_le HBX.out.lt hk3.1, hb3⟩⟩
       have HM3 := Aside0.mk (HM.out.kept (hk3.2 _ HM.out.lt (fun h => hvm.out _ h.symm rfl)))
       clear ho3 hb3 hk3 HO HBX HM hkr2
       cases r1 with
       | false =>
        have R : Aside0 (goodP t = false) := ⟨decide_eq_false fun h => by
         have := h.sea
         unfold searchP at this
         rw [hpre.out, visits_app, hV.out] at this
         simp only [if_true, visits, hvs2.out] at this
         simp at this⟩
        go_wp2
        go_ret
        exact ⟨ret_bool R.out.symm, HB3.out.below⟩
       | true =>
        have hV3 : Aside0 (visits (visit (insP t) (t.length + 1)) (from_ 0 (i0 + 1)) (List.replicate t.length 0) = (true, st2)) := ⟨by
         have e := from_snoc 0 i0
         rw [Nat.zero_add] at e
         rw [e, visits_app, hV.out]
         simp only [if_true, visits, hvs2.out]⟩
        clear hV hvs2 hpre
        go_wp2
        go_roundw
        case rel => exact ⟨i0 + 1, N + 1, st2, by omega, by go_num, by omega, hV3, hT3, HM3, HO3, HB3⟩
        case measure => simp [intOf]; omega
    ·
     have hx : decide ((i0 : Int) < (t.length : Int)) = false := decide_eq_false (by omega)
     obtain rfl : i0 = t.length := by omega
     have s0 := HB.out.s
     have hch := hFm.out.chain
     have HCH := Aside0.mk hch
     clear hch
     have R : Aside0 (goodP t = !t.any (badF t)) := ⟨by
      cases hb : t.any (badF t) with
      | true => exact decide_eq_false fun h => by have := h.fld; rw [hb] at this; cases this
      | false => exact decide_eq_true ⟨by omega, hFm.out, by unfold searchP; rw [hV.out], fun j k h0 h1 h2 => hT.out j k h0 h1 (by omega), hb⟩⟩
     go_wp2_with fail
     refine (contains2_calls (Kd.C_below hCx.out HB.out.below) hc hz hpm (by omega) HCH.out ⟨w.heap.size, 0, none⟩ HB.out.s).mono ?_
     rintro e w3 ⟨rfl, hb3⟩
     have HB3 := Aside0.mk (HB.out.on hb3)
     go_wp2
     go_ret
     exact ⟨ret_bool R.out.symm, HB3.out.below⟩
end Go.Proofs.Ytgnbemgeiloegaa.Tg
