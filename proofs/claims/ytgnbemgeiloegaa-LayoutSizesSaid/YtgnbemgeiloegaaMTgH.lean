import Derived.Test.YtgnbemgeiloegaaMTgF
import Derived.Test.YtgnbemgeiloegaaMTgG
import Derived.Deep.QuietTactic
import Derived.BigQuiet
namespace Go.Proofs.Ytgnbemgeiloegaa.Tg
open Go.RowKit Go.Maps Go.WideMaps
open Go.Proofs.YtgnbemgeiloegaaW.PrintWords Go.Proofs.YtgnbemgeiloegaaW.PrintLast Go.Proofs.YtgnbemgeiloegaaW.PrintMore
set_option linter.unusedVariables false
set_option linter.unusedSimpArgs false
open Go.Proofs.Ytgnbemgeiloegaa.PTypesGoods (S40 S42 S47 k40 k42 k47 rd_T40 rd_T42 rd_T47 at_T40 at_T42 at_T47)
open Classical
theorem C_below2 {w w1 w2 : World} {A : Option Addr} {n : Nat} {t : List S40} (h : Kd.C k40 w A n t) (hb : Below w.heap.size w w1) (hb2 : Below w1.heap.size w1 w2) : Kd.C k40 w2 A n t := Kd.C_below (Kd.C_below h hb) hb2
theorem keepc {w w1 : World} {a : Addr} {v : Value} (hb : Below w.drew.heap.size w.drew w1) (h : w.cell? a = some v) : w1.cell? a = some v := (hb.cell (p := a) (World.block_lt_of_cell? w.drew _ h)).trans h
set_option maxHeartbeats 16000000 in
set_option maxRecDepth 100000 in
theorem good_calls {w : World} {A : Option Addr} {c : Nat} {t : List S40} (hC : Kd.C k40 w A t.length t) (hc : t.length ≤ c) (hz : Sized t) (hpm : Parms t) :
 Calls Try.prog 23 #[.slice A t.length c] w fun e w' => e = .returned (.bool (goodR t)) ∧ Below w.heap.size w w' := by
 by_cases h7 : t.length < 7
 ·
  have R : Aside0 (goodR t = false) := ⟨decide_eq_false fun h => by have := h.lo; omega⟩
  have h7b : decide ((t.length : Int) < 7) = true := decide_eq_true (by omega)
  go_enter Try.func23, Try.ntmps23
  go_wp2
  go_ret
  exact ⟨by rw [R.out]; rfl, Below.refl _ _⟩
 have h7b : decide ((t.length : Int) < 7) = false := decide_eq_false (by omega)
 by_cases h256 : t.length > 256
 ·
  have R : Aside0 (goodR t = false) := ⟨decide_eq_false fun h => by have := h.hi; omega⟩
  have h256b : decide ((t.length : Int) > 256) = true := decide_eq_true (by omega)
  go_enter Try.func23, Try.ntmps23
  go_wp2
  go_ret
  exact ⟨by rw [R.out]; rfl, Below.refl _ _⟩
 have h256b : decide ((t.length : Int) > 256) = false := decide_eq_false (by omega)
 have hCx := Aside0.mk hC
 clear hC
 go_enter Try.func23, Try.ntmps23
 go_wp2_with fail
 refine (PTypesGoods.spinetref13_Basic.calls 9 basics _ basic_is).mono ?_
 rintro e w1 ⟨v0, rfl, hS, hB1⟩
 obtain ⟨Ab, cb, rfl, hcb, hCb0⟩ := Kd.R_reads (Kd.S_R hS)
 clear hS
 have hCb := Aside0.mk hCb0
 have hl7 : basics.length = 7 := rfl
 clear hCb0
 go_wp2
 go_loopw [4] (fun i wr => ∃ i0 : Nat, i0 ≤ 7 ∧ i = .int .i64 i0 ∧ Aside0 (∀ j : Int, 0 ≤ j → j < i0 → rd_T40 t j = bas j) ∧ Aside0 (Below w1.heap.size w1 wr)) (fun i _ => 7 - (intOf i).toNat)
 case atStart => exact ⟨0, by omega, rfl, ⟨fun j h0 h1 => by omega⟩, ⟨Below.refl _ _⟩⟩
 case round =>
  obtain ⟨i0, hi0, rfl, hS, HB⟩ := hrel
  by_cases hlt : i0 < 7
  ·
   have hx : decide ((i0 : Int) < 7) = true := decide_eq_true (by omega)
   have hin := size_in (n := t.length) (j := i0) (by omega)
   have hin2 := size_in (n := 7) (j := i0) (by omega)
   have hi1 : (0 : Int) ≤ (i0 : Int) := by omega
   have hi2 : (i0 : Int) < (t.length : Int) := by omega
   have hi3 : (i0 : Int) < (7 : Int) := by omega
   obtain ⟨ad, A6, c6, A7, c7, hA, p0, p1, p2, p3, p4, p5, p6, p7, p8, p9, l6, C6, l7, C7⟩ := at_T40 (C_below2 hCx.out hB1 HB.out) (i0 : Int) (by omega) (by omega)
   subst hA
   obtain ⟨bd, B6, d6, B7, d7, hA2, q0, q1, q2, q3, q4, q5, q6, q7, q8, q9, m6, D6, m7, D7⟩ := at_T40 (Kd.C_below hCb.out HB.out) (i0 : Int) (by omega) (by rw [hl7]; omega)
   subst hA2
   have hk00 : ((i0 : Nat) : Int).toNat = i0 := by omega
   have hpx := hpm _ (rd_in (t := t) (a := (i0 : Int)) (by omega) (by omega))
   have hbs : rd_T40 basics (i0 : Int) = bas i0 := rd_basics _ (by omega) (by omega)
   rw [hk00] at p0 p1 p2 p3 p4 p5 p6 p7 p8 p9 q0 q1 q2 q3 q4 q5 q6 q7 q8 q9
   obtain ⟨y, hy⟩ : ∃ y, rd_T40 basics (i0 : Int) = y := ⟨_, rfl⟩
   obtain ⟨x, hx'⟩ : ∃ x, rd_T40 t (i0 : Int) = x := ⟨_, rfl⟩
   rw [hy] at q0 q1 q2 q3 q4 q5 q6 q7 q8 q9 m6 D6 m7 D7 hbs
   rw [hx'] at p0 p1 p2 p3 p4 p5 p6 p7 p8 p9 l6 C6 l7 C7 hpx
   replace hx' := Aside0.mk hx'
   replace hbs := Aside0.mk hbs
   clear hy
   go_wp2
   go_region_held3 (fun w' => w'.cell? (ad.add (i0 * 10)) = some (.int .i64 x.f0) ∧ w'.cell? ⟨(ad.add (i0 * 10)).block, (ad.add (i0 * 10)).off + 1, none⟩ = some (.string x.f1) ∧ w'.cell? ⟨(ad.add (i0 * 10)).block, (ad.add (i0 * 10)).off + 2, none⟩ = some (.string x.f2) ∧ w'.cell? ⟨(ad.add (i0 * 10)).block, (ad.add (i0 * 10)).off + 3, none⟩ = some (.int .i64 x.f3) ∧ w'.cell? ⟨(ad.add (i0 * 10)).block, (ad.add (i0 * 10)).off + 4, none⟩ = some (.int .i64 x.f4) ∧ w'.cell? ⟨(ad.add (i0 * 10)).block, (ad.add (i0 * 10)).off + 5, none⟩ = some (.int .i64 x.f5) ∧ w'.cell? ⟨(ad.add (i0 * 10)).block, (ad.add (i0 * 10)).off + 6, none⟩ = some (.slice A6 x.f6.length c6) ∧ w'.cell? ⟨(ad.add (i0 * 10)).block, (ad.add (i0 * 10)).off + 7, none⟩ = some (.slice A7 x.f7.length c7) ∧ w'.cell? ⟨(ad.add (i0 * 10)).block, (ad.add (i0 * 10)).off + 8, none⟩ = some (.int .i64 x.f8) ∧ w'.cell? ⟨(ad.add (i0 * 10)).block, (ad.add (i0 * 10)).off + 9, none⟩ = some (.int .i64 x.f9) ∧ w'.cell? (bd.add (i0 * 10)) = some (.int .i64 y.f0) ∧ w'.cell? ⟨(bd.add (i0 * 10)).block, (bd.add (i0 * 10)).off + 1, none⟩ = some (.string y.f1) ∧ w'.cell? ⟨(bd.add (i0 * 10)).block, (bd.add (i0 * 10)).off + 2, none⟩ = some (.string y.f2) ∧ w'.cell? ⟨(bd.add (i0 * 10)).block, (bd.add (i0 * 10)).off + 3, none⟩ = some (.int .i64 y.f3) ∧ w'.cell? ⟨(bd.add (i0 * 10)).block, (bd.add (i0 * 10)).off + 4, none⟩ = some (.int .i64 y.f4) ∧ w'.cell? ⟨(bd.add (i0 * 10)).block, (bd.add (i0 * 10)).off + 5, none⟩ = some (.int .i64 y.f5) ∧ w'.cell? ⟨(bd.add (i0 * 10)).block, (bd.add (i0 * 10)).off + 6, none⟩ = some (.slice B6 y.f6.length d6) ∧ w'.cell? ⟨(bd.add (i0 * 10)).block, (bd.add (i0 * 10)).off + 7, none⟩ = some (.slice B7 y.f7.length d7) ∧ w'.cell? ⟨(bd.add (i0 * 10)).block, (bd.add (i0 * 10)).off + 8, none⟩ = some (.int .i64 y.f8) ∧ w'.cell? ⟨(bd.add (i0 * 10)).block, (bd.add (i0 * 10)).off + 9, none⟩ = some (.int .i64 y.f9)) (first | exact ⟨p0, p1, p2, p3, p4, p5, p6, p7, p8, p9, q0, q1, q2, q3, q4, q5, q6, q7, q8, q9⟩ | exact ⟨keepc hb3 p0, keepc hb3 p1, keepc hb3 p2, keepc hb3 p3, keepc hb3 p4, keepc hb3 p5, keepc hb3 p6, keepc hb3 p7, keepc hb3 p8, keepc hb3 p9, keepc hb3 q0, keepc hb3 q1, keepc hb3 q2, keepc hb3 q3, keepc hb3 q4, keepc hb3 q5, keepc hb3 q6, keepc hb3 q7, keepc hb3 q8, keepc hb3 q9⟩ | go_keep) ((go_at_call 37; refine (alike_calls x y hpx.1 hpx.2 (Kd.C_drew C6) l6 (Kd.C_drew C7) l7 (Kd.C_drew D6) m6 (Kd.C_drew D7) m7).mono ?_; rintro e w3 ⟨rfl, hb3⟩))
   generalize hb : decide (x = y) = b
   replace hb := Aside0.mk hb
   have HB3 := Aside0.mk ((below_drew HB.out).trans (hb3.mono (below_drew HB.out).size))
   cases b with
   | false =>
    have R : Aside0 (goodR t = false) := ⟨decide_eq_false fun h => of_decide_eq_false hb.out (by rw [← hx'.out, hbs.out]; exact h.bas _ (by omega) (by omega))⟩
    go_wp2
    go_ret
    exact ⟨by rw [R.out]; rfl, hB1.trans (HB3.out.mono hB1.size)⟩
   | true =>
    have hS2 : Aside0 (∀ j : Int, 0 ≤ j → j < ((i0 + 1 : Nat) : Int) → rd_T40 t j = bas j) := ⟨fun j h0 h1 => by
     by_cases e : j = i0
     ·
      subst e
      rw [hx'.out, of_decide_eq_true hb.out, hbs.out]
     · exact hS.out j h0 (by omega)⟩
    clear hS
    go_wp2
    go_roundw
    case rel => exact ⟨i0 + 1, by omega, by go_num, hS2, HB3⟩
    case measure => simp [intOf]; omega
  ·
   have hx : decide ((i0 : Int) < 7) = false := decide_eq_false (by omega)
   have hbas : Aside0 (∀ j : Int, 0 ≤ j → j < 7 → rd_T40 t j = bas j) := ⟨fun j h0 h1 => hS.out j h0 (by omega)⟩
   have HB2 := Aside0.mk (hB1.trans (HB.out.mono hB1.size))
   clear hS HB
   go_wp2
   clear hx
   go_loopw [5] (fun i wr => ∃ i0 : Nat, 7 ≤ i0 ∧ i0 ≤ t.length ∧ i = .int .i64 i0 ∧ Aside0 (∀ j : Int, 7 ≤ j → j < i0 → oneP t j = true) ∧ Aside0 (Below w.heap.size w wr)) (fun i _ => t.length - (intOf i).toNat)
   case atStart => exact ⟨7, by omega, by omega, rfl, ⟨fun j h0 h1 => by omega⟩, HB2⟩
   case round =>
    clear HB2
    obtain ⟨wo, rfl⟩ : ∃ wo : World, wo = wr := ⟨_, rfl⟩
    obtain ⟨i0, hi7, hi0, rfl, hS, HB⟩ := hrel
    by_cases hlt : i0 < t.length
    ·
     have hx : decide ((i0 : Int) < (t.length : Int)) = true := decide_eq_true (by omega)
     go_wp2_with fail
     refine (one_calls (Kd.C_below hCx.out HB.out) hc hz hpm (i0 : Int) (by omega) (by omega)).mono ?_
     rintro e w3 ⟨rfl, hb3⟩
     have HB3 := Aside0.mk (HB.out.trans (hb3.mono HB.out.size))
     generalize hb : oneP t (i0 : Int) = b
     replace hb := Aside0.mk hb
     cases b with
     | false =>
      have R : Aside0 (goodR t = false) := ⟨decide_eq_false fun h => by have := h.one i0 (by omega) (by omega); rw [hb.out] at this; cases this⟩
      go_wp2
      go_ret
      exact ⟨by rw [R.out]; rfl, HB3.out⟩
     | true =>
      have hS2 : Aside0 (∀ j : Int, 7 ≤ j → j < ((i0 + 1 : Nat) : Int) → oneP t j = true) := ⟨fun j h0 h1 => by
       by_cases e : j = i0
       · subst e; exact hb.out
       · exact hS.out j h0 (by omega)⟩
      clear hS
      go_wp2
      go_roundw
      case rel => exact ⟨i0 + 1, by omega, by omega, by go_num, hS2, HB3⟩
      case measure => simp [intOf]; omega
    ·
     have hx : decide ((i0 : Int) < (t.length : Int)) = false := decide_eq_false (by omega)
     have hones : Aside0 (∀ j : Int, 7 ≤ j → j < t.length → oneP t j = true) := ⟨fun j h0 h1 => hS.out j h0 (by omega)⟩
     clear hS
     have h0l : decide ((t.length : Int).toNat ≤ 35184372088832) = true := decide_eq_true (by omega)
     have h0m : decide (0 ≤ (t.length : Int)) = true := decide_eq_true (by omega)
     go_wp2_with (first | ((with_reducible refine gate_dst (N := 44) rfl ?_); (try (refine gate_guard (by rfl) ?_; dsimp only)); refine Kd.R_make (Kd.int .i64) _ 3 rfl (N := 44) rfl 32 _ _ rfl (t.length : Int) rfl rfl Try.underlying32 (.int .i64 0) 8 PTypesGoods.info3 rfl (by decide) (by omega) 0 (ok := fun _ => True) (okp := fun _ => True) rfl (fun _ hk => hk) trivial (of_decide_eq_true h0m) (Nat.le_trans (Nat.mul_le_mul_right _ (of_decide_eq_true h0l : (t.length : Int).toNat ≤ 35184372088832)) (by omega)) (Below.refl _ _) (Nat.le_refl _) ?_; intro v175 w26 ho27 hb hg_ hnew_; clear hg_ hnew_))
     have hn0 : (t.length : Int).toNat = t.length := by omega
     rw [hn0] at ho27
     have HO := Aside0.mk (Kd.R_lower ho27 HB.out.size)
     have HBm := Aside0.mk (HB.out.trans (hb.mono HB.out.size))
     have hW : Aside0 (Within t) := ⟨Ones.within ⟨by omega, hbas.out, hones.out⟩⟩
     clear hb ho27 HB hn0 h0l h0m hx
     go_wp2
     go_loopw [7] (fun i wr => ∃ (i0 : Nat) (st : List Int), 7 ≤ i0 ∧ i0 ≤ t.length ∧ i = .int .i64 i0 ∧ Aside0 (visits (visit (insR t) (t.length + 1)) (from_ 7 (i0 - 7)) (List.replicate t.length 0) = (true, st)) ∧ Aside0 (∀ j k : Int, 7 ≤ k → k < j → j < i0 → ¬ Twin (rd_T40 t j) (rd_T40 t k)) ∧ Aside0 (Kd.R (Kd.int .i64) 3 wr w.heap.size (fun _ => True) v175 st) ∧ Aside0 (Below w.heap.size w wr)) (fun i _ => t.length - (intOf i).toNat)
     case atStart => exact ⟨7, _, by omega, by omega, rfl, ⟨rfl⟩, ⟨fun j k h0 h1 h2 => by omega⟩, HO, HBm⟩
     case round =>
      clear HO HBm
      obtain ⟨wo, rfl⟩ : ∃ wo : World, wo = wr := ⟨_, rfl⟩
      obtain ⟨i0, st, hi7, hi0, rfl, hV, hT, HO, HB⟩ := hrel
      by_cases hlt : i0 < t.length
      ·
       have hx : decide ((i0 : Int) < (t.length : Int)) = true := decide_eq_true (by omega)
       have hkp : Aside0 (Keeps (List.replicate t.length 0) st) := ⟨by
        have := visits_keeps (visit_keeps (insR t) (t.length + 1)) (from_ 7 (i0 - 7)) (List.replicate t.length 0)
        rw [hV.out] at this
        exact this⟩
       obtain ⟨kr, hkr⟩ := (round_is hW.out (t.length + 1) (i0 : Int) st ⟨by omega, by omega⟩ (by rw [hkp.out.len]; simp) (hkp.out.val (val_zeros _)) (Nat.lt_of_le_of_lt hkp.out.zer (zeros_start _))).rounds
       obtain ⟨r1, st2, hvs⟩ : ∃ r1 st2, visit (insR t) (t.length + 1) (i0 : Int) st = (r1, st2) := ⟨_, _, rfl⟩
       have hkr2 := Aside0.mk hkr
       rw [hvs] at hkr2
       clear hkr
       have hvs2 := Aside0.mk hvs
       clear hvs hkp
       go_wp2_with fail
       refine (PTypesGoods.spinetref13_round.calls kr _ _ t (i0 : Int) (fun k_ => some k_ = v175.ownBlock) v175 st (!r1) st2 w _ HB.out (Kd.C_kept_came k40_heap hCx.out HB.out (fun k hk => Kd.R_base HO.out k hk.symm)) hc (Kd.R_tight rfl HO.out) hkr2.out).mono ?_
       rintro e w3 ⟨rfl, ho3, hb3, -⟩
       have HO3 := Aside0.mk (Kd.R_mono (ok' := fun _ => True) ho3 (fun _ _ => trivial))
       have HB3 := Aside0.mk hb3
       clear ho3 hb3 HO HB hkr2
       have hpre : Aside0 (from_ 7 (t.length - 7) = from_ 7 (i0 - 7) ++ (i0 : Int) :: from_ (i0 + 1) (t.length - (i0 + 1))) := ⟨by
        have e := from_add 7 (i0 - 7) (t.length - i0)
        have e2 := from_succ i0 (t.length - (i0 + 1))
        rw [show i0 - 7 + (t.length - i0) = t.length - 7 by omega, show 7 + (i0 - 7) = i0 by omega] at e
        rw [show t.length - (i0 + 1) + 1 = t.length - i0 by omega] at e2
        rw [e, e2]⟩
       cases r1 with
       | false =>
        have R : Aside0 (goodR t = false) := ⟨decide_eq_false fun h => by
         have := h.sea
         unfold searchR at this
         rw [hpre.out, visits_app, hV.out] at this
         simp only [if_true, visits, hvs2.out] at this
         simp at this⟩
        go_wp2
        go_ret
        exact ⟨by rw [R.out]; rfl, HB3.out⟩
       | true =>
        have hV3 : Aside0 (visits (visit (insR t) (t.length + 1)) (from_ 7 (i0 + 1 - 7)) (List.replicate t.length 0) = (true, st2)) := ⟨by
         have e := from_snoc 7 (i0 - 7)
         rw [show i0 - 7 + 1 = i0 + 1 - 7 by omega, show 7 + (i0 - 7) = i0 by omega] at e
         rw [e, visits_app, hV.out]
         simp only [if_true, visits, hvs2.out]⟩
        clear hV hvs2 hpre
        go_wp2
        go_loopw [8] (fun i wr => ∃ (k0 : Nat), 7 ≤ k0 ∧ k0 ≤ i0 ∧ i = .int .i64 k0 ∧ Aside0 (∀ k : Int, 7 ≤ k → k < k0 → ¬ Twin (rd_T40 t i0) (rd_T40 t k)) ∧ Aside0 (Kd.R (Kd.int .i64) 3 wr w.heap.size (fun _ => True) v175 st2) ∧ Aside0 (Below w.heap.size w wr)) (fun i _ => i0 - (intOf i).toNat)
        case atStart => exact ⟨7, by omega, by omega, rfl, ⟨fun k h0 h1 => by omega⟩, HO3, HB3⟩
        case round =>
         clear HO3 HB3 hx
         obtain ⟨wp, rfl⟩ : ∃ wp : World, wp = wr := ⟨_, rfl⟩
         obtain ⟨k0, hk7, hk0, rfl, hT2, HO, HB⟩ := hrel
         by_cases hlk : k0 < i0
         ·
          have hx : decide ((k0 : Int) < (i0 : Int)) = true := decide_eq_true (by omega)
          have hi1 : (0 : Int) ≤ (i0 : Int) := by omega
          have hi2 : (i0 : Int) < (t.length : Int) := by omega
          have hj1 : (0 : Int) ≤ (k0 : Int) := by omega
          have hj2 : (k0 : Int) < (t.length : Int) := by omega
          have hin := size_in (n := t.length) (j := i0) (by omega)
          have hin2 := size_in (n := t.length) (j := k0) (by omega)
          obtain ⟨ad, A6, c6, A7, c7, hA, p0, p1, -, -, -, -, -, -, -, p9, -⟩ := at_T40 (Kd.C_below hCx.out HB.out) (i0 : Int) (by omega) (by omega)
          subst hA
          obtain ⟨bd, B6, d6, B7, d7, hA2, q0, q1, -, -, -, -, -, -, -, q9, -⟩ := at_T40 (Kd.C_below hCx.out HB.out) (k0 : Int) (by omega) (by omega)
          obtain rfl := Option.some.inj hA2
          have hki : ((i0 : Nat) : Int).toNat = i0 := by omega
          have hkk : ((k0 : Nat) : Int).toNat = k0 := by omega
          rw [hki] at p0 p1 p9
          rw [hkk] at q0 q1 q9
          clear hA2 hki hkk
          obtain ⟨x, hx'⟩ : ∃ x, rd_T40 t (i0 : Int) = x := ⟨_, rfl⟩
          obtain ⟨y, hy'⟩ : ∃ y, rd_T40 t (k0 : Int) = y := ⟨_, rfl⟩
          rw [hx'] at p0 p1 p9
          rw [hy'] at q0 q1 q9
          have hgo : Aside0 (¬ Twin x y → ∀ k : Int, 7 ≤ k → k < ((k0 + 1 : Nat) : Int) → ¬ Twin (rd_T40 t i0) (rd_T40 t k)) := ⟨fun h k h0 h1 => by
           by_cases e : k = k0
           · subst e; rw [hx', hy']; exact h
           · exact hT2.out k h0 (by omega)⟩
          have hno : Aside0 (Twin x y → goodR t = false) := ⟨fun h => decide_eq_false fun g => g.twin i0 k0 (by omega) (by omega) (by omega) (by rw [hx', hy']; exact h)⟩
          clear hx' hy' hT2
          by_cases e1 : x.f0 = 9
          ·
           replace p0 := p0.trans (by rw [e1] : some (.int .i64 x.f0) = some (Value.int .i64 9))
           replace e1 := Aside0.mk e1
           by_cases e2 : y.f0 = 9
           ·
            replace q0 := q0.trans (by rw [e2] : some (.int .i64 y.f0) = some (Value.int .i64 9))
            replace e2 := Aside0.mk e2
            by_cases e3 : x.f1.toList = y.f1.toList
            ·
             have b3 : (x.f1.toList == y.f1.toList) = true := by simpa using e3
             replace e3 := Aside0.mk e3
             by_cases e4 : x.f9 = y.f9
             ·
              replace q9 := q9.trans (by rw [e4] : some (.int .i64 y.f9) = some (Value.int .i64 x.f9))
              replace e4 := Aside0.mk e4
              by_cases e5 : x.f9 = -1
              ·
               replace q9 := q9.trans (by rw [e5] : some (.int .i64 x.f9) = some (Value.int .i64 (-1)))
               replace p9 := p9.trans (by rw [e5] : some (.int .i64 x.f9) = some (Value.int .i64 (-1)))
               replace e5 := Aside0.mk e5
               have N := Aside0.mk (hgo.out (fun h => h.2.2.2.2 e5.out))
               clear hgo hno
               go_wp2
               go_quiet (fail)
               all_goals
                go_wp2
                go_roundw
                case rel => exact ⟨k0 + 1, by omega, by omega, by go_num, N, ⟨by first | exact Kd.R_drewN HO.out _ | exact Kd.R_drew HO.out⟩, ⟨by first | exact pw_below_drewN HB.out _ | exact below_drew HB.out⟩⟩
                case measure => simp [intOf]; omega
              ·
               have b5 : (x.f9 != -1) = true := by simpa using e5
               have R := Aside0.mk (hno.out ⟨e1.out, e2.out, bytes_eq e3.out, e4.out, e5⟩)
               clear hgo hno e5
               go_wp2
               go_quiet (fail)
               all_goals
                go_wp2
                go_ret
                exact ⟨by rw [R.out]; rfl, by first | exact pw_below_drewN HB.out _ | exact below_drew HB.out⟩
             ·
              have b4 : (x.f9 == y.f9) = false := by simpa using e4
              replace e4 := Aside0.mk e4
              have N := Aside0.mk (hgo.out (fun h => e4.out h.2.2.2.1))
              clear hgo hno
              go_wp2
              go_quiet (fail)
              all_goals
               go_wp2
               go_roundw
               case rel => exact ⟨k0 + 1, by omega, by omega, by go_num, N, ⟨by first | exact Kd.R_drewN HO.out _ | exact Kd.R_drew HO.out⟩, ⟨by first | exact pw_below_drewN HB.out _ | exact below_drew HB.out⟩⟩
               case measure => simp [intOf]; omega
            ·
             have b3 : (x.f1.toList == y.f1.toList) = false := by simpa using e3
             replace e3 := Aside0.mk e3
             have N := Aside0.mk (hgo.out (fun h => e3.out (by rw [h.2.2.1])))
             clear hgo hno
             go_wp2
             go_quiet (fail)
             all_goals
              go_wp2
              go_roundw
              case rel => exact ⟨k0 + 1, by omega, by omega, by go_num, N, ⟨by first | exact Kd.R_drewN HO.out _ | exact Kd.R_drew HO.out⟩, ⟨by first | exact pw_below_drewN HB.out _ | exact below_drew HB.out⟩⟩
              case measure => simp [intOf]; omega
           ·
            have b2 : (y.f0 == 9) = false := by simpa using e2
            replace e2 := Aside0.mk e2
            have N := Aside0.mk (hgo.out (fun h => e2.out h.2.1))
            clear hgo hno
            go_wp2
            go_quiet (fail)
            all_goals
             go_wp2
             go_roundw
             case rel => exact ⟨k0 + 1, by omega, by omega, by go_num, N, ⟨by first | exact Kd.R_drewN HO.out _ | exact Kd.R_drew HO.out⟩, ⟨by first | exact pw_below_drewN HB.out _ | exact below_drew HB.out⟩⟩
             case measure => simp [intOf]; omega
          ·
           have b1 : (x.f0 == 9) = false := by simpa using e1
           replace e1 := Aside0.mk e1
           have N := Aside0.mk (hgo.out (fun h => e1.out h.1))
           clear hgo hno
           go_wp2
           go_quiet (fail)
           all_goals
            go_wp2
            go_roundw
            case rel => exact ⟨k0 + 1, by omega, by omega, by go_num, N, ⟨by first | exact Kd.R_drewN HO.out _ | exact Kd.R_drew HO.out⟩, ⟨by first | exact pw_below_drewN HB.out _ | exact below_drew HB.out⟩⟩
            case measure => simp [intOf]; omega
         ·
          have hx : decide ((k0 : Int) < (i0 : Int)) = false := decide_eq_false (by omega)
          have hT3 : Aside0 (∀ j k : Int, 7 ≤ k → k < j → j < ((i0 + 1 : Nat) : Int) → ¬ Twin (rd_T40 t j) (rd_T40 t k)) := ⟨fun j k h0 h1 h2 => by
           by_cases e : j = i0
           · subst e; exact hT2.out k h0 (by omega)
           · exact hT.out j k h0 h1 (by omega)⟩
          clear hT hT2
          go_wp2
          go_roundw
          case rel => exact ⟨i0 + 1, st2, by omega, by omega, by go_num, hV3, hT3, HO, HB⟩
          case measure => simp [intOf]; omega
      ·
       have hx : decide ((i0 : Int) < (t.length : Int)) = false := decide_eq_false (by omega)
       have R : Aside0 (goodR t = true) := ⟨decide_eq_true ⟨by omega, by omega, hbas.out, hones.out, by
        unfold searchR
        rw [show t.length - 7 = i0 - 7 by omega, hV.out], fun j k h0 h1 h2 => hT.out j k h0 h1 (by omega)⟩⟩
       go_wp2
       go_ret
       exact ⟨by rw [R.out]; rfl, HB.out⟩
end Go.Proofs.Ytgnbemgeiloegaa.Tg
