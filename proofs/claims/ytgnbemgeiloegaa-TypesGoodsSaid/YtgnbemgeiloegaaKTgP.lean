import Derived.Test.YtgnbemgeiloegaaKTgN
import Derived.Test.YtgnbemgeiloegaaKPTypesGoodsx6
import Derived.Deep.QuietTactic
import Derived.BigQuiet
namespace Go.Proofs.Ytgnbemgeiloegaa.Tg
open Go.RowKit Go.Maps Go.WideMaps
open Go.Proofs.YtgnbemgeiloegaaW.PrintWords Go.Proofs.YtgnbemgeiloegaaW.PrintLast Go.Proofs.YtgnbemgeiloegaaW.PrintMore
set_option linter.unusedVariables false
set_option linter.unusedSimpArgs false
open Go.Proofs.Ytgnbemgeiloegaa.PTypesGoods (S40 S42 S47 k40 k42 k47 rd_T40 rd_T42 rd_T47 at_T40 at_T42 at_T47)
/-! WHAT THE PROGRAM ASKS OF A TYPE -/
def partP (f : Int) : Bool := decide ((1 ≤ f ∧ f ≤ 4) ∨ f = 7 ∨ (9 ≤ f ∧ f ≤ 11))
def plainP (f : Int) : Bool := decide ((1 ≤ f ∧ f ≤ 4) ∨ f = 10 ∨ f = 11)
theorem part_calls (f : Int) (w : World) : Calls Try.prog 70 #[.int .i64 f] w fun e w' => e = .returned (.bool (partP f)) ∧ Drawn0 w w' := by
  refine PTypesGoods.tables_part.calls f _ w ?_
  unfold PTypesGoods.tables_part.f partP
  split <;> (try split) <;> (try split) <;> (try split) <;> (congr 1; first | (simp; omega) | (rw [Bool.eq_iff_iff]; simp; omega))
theorem plain_calls (f : Int) (w : World) : Calls Try.prog 72 #[.int .i64 f] w fun e w' => e = .returned (.bool (plainP f)) ∧ Drawn0 w w' := by
  refine PTypesGoods.tables_plain.calls f _ w ?_
  unfold PTypesGoods.tables_plain.f plainP
  split <;> (try split) <;> (try split) <;> (try split) <;> (congr 1; first | (simp; omega) | (rw [Bool.eq_iff_iff]; simp; omega))
theorem form_calls {w : World} {A : Option Addr} {c : Nat} {t : List S40} (hC : Kd.C k40 w A t.length t) (bx : Addr) (hb : w.cell? bx = some (.slice A t.length c)) (i : Int) :
    Calls Try.prog 69 #[.int .i64 i, .pointer (some bx)] w fun e w' => e = .returned (.int .i64 (form t i)) ∧ w = w' := by
  by_cases h0 : i < 0
  · have R : Aside0 (form t i = -1) := ⟨if_neg (by omega)⟩
    have h0b : decide (i < 0) = true := decide_eq_true h0
    go_enter Try.func69, Try.ntmps69
    go_wp2
    go_ret
    exact ⟨by rw [R.out]; rfl, rfl⟩
  have h0b : decide (i < 0) = false := decide_eq_false h0
  by_cases h1 : i < (t.length : Int)
  · obtain ⟨ad, A6, c6, A7, c7, hA, p0, -⟩ := at_T40 hC i (by omega) h1
    subst hA
    have R : Aside0 (form t i = (rd_T40 t i).f0) := ⟨if_pos ⟨by omega, h1⟩⟩
    have h1b : decide (i ≥ (t.length : Int)) = false := decide_eq_false (by omega)
    have hi : 0 ≤ i := by omega
    generalize (rd_T40 t i).f0 = f at p0 R
    go_enter Try.func69, Try.ntmps69
    go_wp2
    go_ret
    exact ⟨by rw [R.out]; rfl, rfl⟩
  · have R : Aside0 (form t i = -1) := ⟨if_neg (by omega)⟩
    have h1b : decide (i ≥ (t.length : Int)) = true := decide_eq_true (by omega)
    go_enter Try.func69, Try.ntmps69
    go_wp2
    go_ret
    exact ⟨by rw [R.out]; rfl, rfl⟩
end Go.Proofs.Ytgnbemgeiloegaa.Tg
