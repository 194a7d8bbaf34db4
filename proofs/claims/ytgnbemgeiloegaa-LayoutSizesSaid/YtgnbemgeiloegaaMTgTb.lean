import Derived.Test.YtgnbemgeiloegaaMTgH
import Derived.Test.YtgnbemgeiloegaaMEW
import Derived.Test.YtgnbemgeiloegaaMEPTypesGoodsx3
import Derived.Test.YtgnbemgeiloegaaMETgOpn
namespace Go.Proofs.Ytgnbemgeiloegaa.Tg
open Go.RowKit Go.Maps Go.WideMaps
open Go.Proofs.YtgnbemgeiloegaaW.PrintWords Go.Proofs.YtgnbemgeiloegaaW.PrintLast Go.Proofs.YtgnbemgeiloegaaW.PrintMore
set_option linter.unusedVariables false
set_option linter.unusedSimpArgs false
open Go.Proofs.Ytgnbemgeiloegaa.PTypesGoods (S40 S42 S47 k40 k42 k47 rd_T40 rd_T42 rd_T47 at_T40 at_T42 at_T47)
open Classical
set_option maxHeartbeats 16000000 in
set_option maxRecDepth 100000 in
theorem tables_calls {w : World} {t : List S40} (hpm : Parms t) (h4 : t.length ≤ 4000) {A B : Option Addr} {c d : Nat} (hC : Kd.C k40 w A t.length t) (hc : t.length ≤ c) (hD : Kd.C k40 w B t.length t) (hd : t.length ≤ d) :
 Calls Try.prog 17 #[.slice A t.length c, .slice B t.length d] w fun e w' => e = .returned (.bool true) ∧ Below w.heap.size w w' := by
 have hCx := Aside0.mk hC
 have hDx := Aside0.mk hD
 have e1 : ((t.length : Int) != (t.length : Int)) = false := by simp
 have e2 : (t.length == t.length) = true := by simp
 clear hC hD
 go_enter Try.func17, Try.ntmps17
 go_wp2
 go_loopw [5] (fun i wr => ∃ i0 : Nat, i0 ≤ t.length ∧ i = .int .i64 i0 ∧ Aside0 (Below w.heap.size w wr)) (fun i _ => t.length - (intOf i).toNat)
 case atStart => exact ⟨0, by omega, rfl, by first | exact ⟨Below.refl _ _⟩ | exact ⟨pw_below_drewN (Below.refl _ _) _⟩⟩
 case round =>
  obtain ⟨i0, hi0, rfl, HB⟩ := hrel
  by_cases hlt : i0 < t.length
  ·
   have hx : decide ((i0 : Int) < (t.length : Int)) = true := decide_eq_true (by omega)
   have hin := size_in (n := t.length) (j := i0) (by omega)
   have hi1 : (0 : Int) ≤ (i0 : Int) := by omega
   have hi2 : (i0 : Int) < (t.length : Int) := by omega
   obtain ⟨ad, A6, c6, A7, c7, hA, p0, p1, p2, p3, p4, p5, p6, p7, p8, p9, l6, C6, l7, C7⟩ := at_T40 (Kd.C_below hCx.out HB.out) (i0 : Int) (by omega) (by omega)
   subst hA
   obtain ⟨bd, B6, d6, B7, d7, hA2, q0, q1, q2, q3, q4, q5, q6, q7, q8, q9, m6, D6, m7, D7⟩ := at_T40 (Kd.C_below hDx.out HB.out) (i0 : Int) (by omega) (by omega)
   subst hA2
   have hk00 : ((i0 : Nat) : Int).toNat = i0 := by omega
   have hpx := hpm _ (rd_in (t := t) (a := (i0 : Int)) (by omega) (by omega))
   rw [hk00] at p0 p1 p2 p3 p4 p5 p6 p7 p8 p9 q0 q1 q2 q3 q4 q5 q6 q7 q8 q9
   generalize rd_T40 t (i0 : Int) = x at p0 p1 p2 p3 p4 p5 p6 p7 p8 p9 l6 C6 l7 C7 hpx q0 q1 q2 q3 q4 q5 q6 q7 q8 q9 m6 D6 m7 D7
   go_wp2
   go_region_held3 (fun w' => w'.cell? (ad.add (i0 * 10)) = some (.int .i64 x.f0) ∧ w'.cell? ⟨(ad.add (i0 * 10)).block, (ad.add (i0 * 10)).off + 1, none⟩ = some (.string x.f1) ∧ w'.cell? ⟨(ad.add (i0 * 10)).block, (ad.add (i0 * 10)).off + 2, none⟩ = some (.string x.f2) ∧ w'.cell? ⟨(ad.add (i0 * 10)).block, (ad.add (i0 * 10)).off + 3, none⟩ = some (.int .i64 x.f3) ∧ w'.cell? ⟨(ad.add (i0 * 10)).block, (ad.add (i0 * 10)).off + 4, none⟩ = some (.int .i64 x.f4) ∧ w'.cell? ⟨(ad.add (i0 * 10)).block, (ad.add (i0 * 10)).off + 5, none⟩ = some (.int .i64 x.f5) ∧ w'.cell? ⟨(ad.add (i0 * 10)).block, (ad.add (i0 * 10)).off + 6, none⟩ = some (.slice A6 x.f6.length c6) ∧ w'.cell? ⟨(ad.add (i0 * 10)).block, (ad.add (i0 * 10)).off + 7, none⟩ = some (.slice A7 x.f7.length c7) ∧ w'.cell? ⟨(ad.add (i0 * 10)).block, (ad.add (i0 * 10)).off + 8, none⟩ = some (.int .i64 x.f8) ∧ w'.cell? ⟨(ad.add (i0 * 10)).block, (ad.add (i0 * 10)).off + 9, none⟩ = some (.int .i64 x.f9) ∧ w'.cell? (bd.add (i0 * 10)) = some (.int .i64 x.f0) ∧ w'.cell? ⟨(bd.add (i0 * 10)).block, (bd.add (i0 * 10)).off + 1, none⟩ = some (.string x.f1) ∧ w'.cell? ⟨(bd.add (i0 * 10)).block, (bd.add (i0 * 10)).off + 2, none⟩ = some (.string x.f2) ∧ w'.cell? ⟨(bd.add (i0 * 10)).block, (bd.add (i0 * 10)).off + 3, none⟩ = some (.int .i64 x.f3) ∧ w'.cell? ⟨(bd.add (i0 * 10)).block, (bd.add (i0 * 10)).off + 4, none⟩ = some (.int .i64 x.f4) ∧ w'.cell? ⟨(bd.add (i0 * 10)).block, (bd.add (i0 * 10)).off + 5, none⟩ = some (.int .i64 x.f5) ∧ w'.cell? ⟨(bd.add (i0 * 10)).block, (bd.add (i0 * 10)).off + 6, none⟩ = some (.slice B6 x.f6.length d6) ∧ w'.cell? ⟨(bd.add (i0 * 10)).block, (bd.add (i0 * 10)).off + 7, none⟩ = some (.slice B7 x.f7.length d7) ∧ w'.cell? ⟨(bd.add (i0 * 10)).block, (bd.add (i0 * 10)).off + 8, none⟩ = some (.int .i64 x.f8) ∧ w'.cell? ⟨(bd.add (i0 * 10)).block, (bd.add (i0 * 10)).off + 9, none⟩ = some (.int .i64 x.f9)) (first | exact ⟨p0, p1, p2, p3, p4, p5, p6, p7, p8, p9, q0, q1, q2, q3, q4, q5, q6, q7, q8, q9⟩ | exact ⟨keepc hb3 p0, keepc hb3 p1, keepc hb3 p2, keepc hb3 p3, keepc hb3 p4, keepc hb3 p5, keepc hb3 p6, keepc hb3 p7, keepc hb3 p8, keepc hb3 p9, keepc hb3 q0, keepc hb3 q1, keepc hb3 q2, keepc hb3 q3, keepc hb3 q4, keepc hb3 q5, keepc hb3 q6, keepc hb3 q7, keepc hb3 q8, keepc hb3 q9⟩ | go_keep) ((go_at_call 37; refine (alike_calls x x hpx.1 hpx.2 (Kd.C_drew C6) l6 (Kd.C_drew C7) l7 (Kd.C_drew D6) m6 (Kd.C_drew D7) m7).mono ?_; rintro e w3 ⟨rfl, hb3⟩))
   have hb : decide (x = x) = true := decide_eq_true rfl
   have HB3 := Aside0.mk ((below_drew HB.out).trans (hb3.mono (below_drew HB.out).size))
   go_wp2
   go_roundw
   case rel => exact ⟨i0 + 1, by omega, by go_num, HB3⟩
   case measure => simp [intOf]; omega
  ·
   have hx : decide ((i0 : Int) < (t.length : Int)) = false := decide_eq_false (by omega)
   go_wp2
   go_ret
   exact ⟨rfl, by first | exact HB.out | exact pw_below_drewN HB.out _⟩
end Go.Proofs.Ytgnbemgeiloegaa.Tg
namespace Go.Proofs.Ytgnbemgeiloegaa.PTypesGoods
open Go.RowKit Go.Proofs.Ytgnbemgeiloegaa.Tg
open Go.Proofs.YtgnbemgeiloegaaW.PrintWords Go.Proofs.YtgnbemgeiloegaaW.PrintLast Go.Proofs.YtgnbemgeiloegaaW.PrintMore
open Classical
noncomputable def sameTabs.f (_ : Nat) (l0 l1 : List S40) : Option Bool := if l0 = l1 ∧ Parms l1 ∧ l1.length ≤ 4000 then some true else none
theorem sameTabs.calls (k : Nat) (A0 : Option Addr) (c0 : Nat) (l0 : List S40) (A1 : Option Addr) (c1 : Nat) (l1 : List S40) (r : Bool) (w : World) (hr0 : Kd.C k40 w A0 l0.length l0) (hc0 : l0.length ≤ c0) (hr1 : Kd.C k40 w A1 l1.length l1) (hc1 : l1.length ≤ c1) (h : sameTabs.f k l0 l1 = some r) :
 Calls Try.prog 17 #[.slice A0 l0.length c0, .slice A1 l1.length c1] w fun e w' => e = .returned (.bool r) ∧ Below w.heap.size w w' := by
 unfold sameTabs.f at h
 split at h
 ·
  rename_i hh
  cases h
  obtain ⟨h1, h2, h3⟩ := hh
  subst h1
  exact tables_calls h2 h3 hr0 hc0 hr1 hc1
 · cases h
end Go.Proofs.Ytgnbemgeiloegaa.PTypesGoods
