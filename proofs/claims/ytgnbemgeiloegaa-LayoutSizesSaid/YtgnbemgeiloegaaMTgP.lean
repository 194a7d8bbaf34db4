import Derived.Test.YtgnbemgeiloegaaMTgX
import Derived.Lib.ConvBytes
import Derived.Test.YtgnbemgeiloegaaMPTypesGoodsx6
import Derived.Deep.QuietTactic
import Derived.BigQuiet
namespace Go.Proofs.Ytgnbemgeiloegaa.Tg
open Go.RowKit Go.Maps Go.WideMaps
open Go.Proofs.YtgnbemgeiloegaaW.PrintWords Go.Proofs.YtgnbemgeiloegaaW.PrintLast Go.Proofs.YtgnbemgeiloegaaW.PrintMore
set_option linter.unusedVariables false
set_option linter.unusedSimpArgs false
open Go.Proofs.Ytgnbemgeiloegaa.PTypesGoods (S40 S42 S47 k40 k42 k47 rd_T40 rd_T42 rd_T47 at_T40 at_T42 at_T47)
theorem ret_bool {a b : Bool} (h : a = b) : Ending.returned (.bool a) = .returned (.bool b) := by rw [h]
theorem name1_calls (c : Int) (w : World) : Calls Try.prog 79 #[.int .u8 c] w fun e w' => e = .returned (.bool (!alnum c)) ∧ w = w' := by
 go_enter Try.func79, Try.ntmps79
 go_wp2
 all_goals
  go_ret
  exact ⟨ret_bool (by rw [Bool.eq_iff_iff]; simp [alnum]; omega), rfl⟩
theorem index_calls (s : ByteArray) (A : Option Addr) (cap : Nat) (w : World) (hs : s.size ≤ 24) (hA : ∀ i : Nat, i < s.size → ∃ ad, A = some ad ∧ w.cell? (ad.add i) = some (.int .u8 (bt s i))) :
 Calls Try.prog 80 #[.slice A s.size cap, .func (.func 79) #[] #[]] w fun e w' => ∃ j, e = .returned (.int .i64 j) ∧ decide (j ≥ 0) = !allFrom s 0 ∧ w = w' := by
 go_enter Try.func80, Try.ntmps80
 go_wp2
 go_loop [8] (fun i => ∃ i0 : Nat, i0 ≤ s.size ∧ i = .int .i64 i0 ∧ Aside0 (allFrom s 0 = allFrom s i0)) (fun i => s.size - (intOf i).toNat)
 case atStart => exact ⟨0, Nat.zero_le _, rfl, ⟨rfl⟩⟩
 case round =>
  obtain ⟨i0, hi0, rfl, hS⟩ := hrel
  by_cases hlt : i0 < s.size
  ·
   have hx : decide ((i0 : Int) < (s.size : Int)) = true := decide_eq_true (by omega)
   have hin := size_in hlt
   obtain ⟨ad, rfl, hc⟩ := hA i0 hlt
   have hst := Aside0.mk (allFrom_step hlt)
   go_wp2_with fail
   refine (name1_calls _ _).mono ?_
   rintro e w' ⟨rfl, rfl⟩
   cases ha : alnum (bt s (i0 : Int)) with
   | false =>
    have R : Aside0 (allFrom s 0 = false) := ⟨by rw [hS.out, hst.out, ha]; rfl⟩
    go_wp2
    go_ret
    exact ⟨_, rfl, by rw [R.out]; simp, rfl⟩
   | true =>
    have hS2 : Aside0 (allFrom s 0 = allFrom s (i0 + 1)) := ⟨by rw [hS.out, hst.out, ha]; rfl⟩
    go_wp2
    go_round
    case rel => exact ⟨i0 + 1, by omega, by go_num, hS2⟩
    case measure => simp [intOf]; omega
  ·
   have hx : decide ((i0 : Int) < (s.size : Int)) = false := decide_eq_false (by omega)
   have R : Aside0 (allFrom s 0 = true) := ⟨by rw [hS.out]; exact allFrom_end hlt⟩
   go_wp2
   go_ret
   exact ⟨_, rfl, by rw [R.out]; rfl, rfl⟩
theorem contains_calls (s : ByteArray) (A : Option Addr) (cap : Nat) (w : World) (hs : s.size ≤ 24) (hA : ∀ i : Nat, i < s.size → ∃ ad, A = some ad ∧ w.cell? (ad.add i) = some (.int .u8 (bt s i))) :
 Calls Try.prog 78 #[.slice A s.size cap, .func (.func 79) #[] #[]] w fun e w' => e = .returned (.bool (!allFrom s 0)) ∧ w = w' := by
 have hC := index_calls s A cap w hs hA
 clear hA
 go_enter Try.func78, Try.ntmps78
 go_wp2_with fail
 refine hC.mono ?_
 rintro e w' ⟨j, rfl, hj, rfl⟩
 have HJ := Aside0.mk hj
 clear hj
 go_wp2
 go_ret
 exact ⟨ret_bool HJ.out, rfl⟩
theorem bt_getD (s : ByteArray) (j : Nat) (h : j < s.size) : (((s.data.toList.getD j 0).toNat : Nat) : Int) = bt s (j : Int) := by
 unfold bt
 rw [dif_pos (by simpa using h)]
 have h2 : j < s.data.toList.length := by simpa using h
 rw [List.getD_eq_getElem?_getD, List.getElem?_eq_getElem h2]
 rfl
theorem bytes_below (w : World) (e : TypeId) (s : ByteArray) : Below w.heap.size w (Lib.bytesWorld w e s) :=
 ⟨rfl, rfl, rfl, by rw [Lib.bytesWorld_size]; omega, fun k hk => Lib.bytesWorld_at_old w e s k hk⟩
theorem empty_iff (s : ByteArray) : s.toList.isEmpty = decide (s.size = 0) := by
 rw [ByteArray.toList_eq]
 have h : s.data.toList.length = s.size := by simp
 rw [← h]
 cases s.data.toList <;> simp
theorem name_calls (s : ByteArray) (w : World) : Calls Try.prog 71 #[.string s] w fun e w' => e = .returned (.bool (isName s)) ∧ Below w.heap.size w w' := by
 by_cases h0 : s.size = 0
 ·
  have h1 : s.toList.isEmpty = true := by rw [empty_iff]; exact decide_eq_true h0
  have h2 : s.toList = [] := by simpa [List.isEmpty_iff] using h1
  have R : Aside0 (isName s = false) := ⟨by simp [isName, h0]⟩
  clear h0
  go_enter Try.func71, Try.ntmps71
  go_wp2
  go_ret
  exact ⟨ret_bool R.out.symm, Below.refl _ _⟩
 have h1 : s.toList.isEmpty = false := by rw [empty_iff]; exact decide_eq_false h0
 have h1n : ¬ s.toList = [] := by simpa [List.isEmpty_iff] using h1
 have hp : 0 < s.size := by omega
 by_cases h24 : s.size ≤ 24
 rotate_left
 ·
  have R : Aside0 (isName s = false) := ⟨by simp [isName, h24]⟩
  have h24b : decide ((s.size : Int) > 24) = true := decide_eq_true (by omega)
  go_enter Try.func71, Try.ntmps71
  go_wp2
  go_ret
  exact ⟨ret_bool R.out.symm, Below.refl _ _⟩
 have h24b : decide ((s.size : Int) > 24) = false := decide_eq_false (by omega)
 have hbt : Aside0 (((s[0]'hp).toNat : Int) = bt s 0) := ⟨bt_at s 0 hp⟩
 by_cases h57 : 57 < ((s[0]'hp).toNat : Int)
 rotate_left
 ·
  have R : Aside0 (isName s = false) := ⟨by have := hbt.out; simp [isName]; omega⟩
  have h57b : decide (((s[0]'hp).toNat : Int) ≤ 57) = true := decide_eq_true (by omega)
  go_enter Try.func71, Try.ntmps71
  go_wp2
  go_ret
  exact ⟨ret_bool R.out.symm, Below.refl _ _⟩
 have h57b : decide (((s[0]'hp).toNat : Int) ≤ 57) = false := decide_eq_false (by omega)
 have R : Aside0 (isName s = allFrom s 0) := ⟨by
  have d1 : decide (1 ≤ s.size) = true := decide_eq_true (by omega)
  have d2 : decide (s.size ≤ 24) = true := decide_eq_true h24
  have d3 : decide (57 < bt s 0) = true := decide_eq_true (by rw [← hbt.out]; exact h57)
  simp only [isName, d1, d2, d3, Bool.true_and]⟩
 have hcv := fun w => Lib.run_convert_string_bytes (P := Try.prog) w 9 88 5 s Try.underlying9 Try.underlying88 Try.underlying5
 clear h0
 go_enter Try.func71, Try.ntmps71
 go_wp2_with fail
 refine (contains_calls s _ _ _ h24 (fun i hi => ⟨_, rfl, ?_⟩)).mono ?_
 ·
  have := Lib.bytesWorld_cell w 5 s i hi
  rw [bt_getD s i hi] at this
  have e : (⟨w.heap.size, 0, none⟩ : Addr).add i = ⟨w.heap.size, i, none⟩ := by
   unfold Addr.add
   split <;> simp_all
  rw [e]
  exact this
 rintro e w' ⟨rfl, rfl⟩
 go_wp2
 go_ret
 exact ⟨ret_bool (by rw [R.out]), bytes_below _ _ _⟩
end Go.Proofs.Ytgnbemgeiloegaa.Tg
namespace Go.Proofs.Ytgnbemgeiloegaa.Tg
open Go.RowKit Go.Maps Go.WideMaps
open Go.Proofs.YtgnbemgeiloegaaW.PrintWords Go.Proofs.YtgnbemgeiloegaaW.PrintLast Go.Proofs.YtgnbemgeiloegaaW.PrintMore
set_option linter.unusedVariables false
set_option linter.unusedSimpArgs false
open Go.Proofs.Ytgnbemgeiloegaa.PTypesGoods (S40 S42 S47 k40 k42 k47 rd_T40 rd_T42 rd_T47 at_T40 at_T42 at_T47)
def partP (f : Int) : Bool := decide ((1 ≤ f ∧ f ≤ 4) ∨ f = 7 ∨ (9 ≤ f ∧ f ≤ 11))
def plainP (f : Int) : Bool := decide ((1 ≤ f ∧ f ≤ 4) ∨ f = 10 ∨ f = 11)
theorem part_calls (f : Int) (w : World) : Calls Try.prog 70 #[.int .i64 f] w fun e w' => e = .returned (.bool (partP f)) ∧ Drawn0 w w' := by
 refine PTypesGoods.tables_part.calls f _ w ?_
 unfold PTypesGoods.tables_part.f partP
 split <;> (try split) <;> (try split) <;> (try split) <;> (congr 1; first | (simp; omega) | (rw [Bool.eq_iff_iff]; simp; omega))
theorem plain_calls (f : Int) (w : World) : Calls Try.prog 72 #[.int .i64 f] w fun e w' => e = .returned (.bool (plainP f)) ∧ Drawn0 w w' := by
 refine PTypesGoods.tables_plain.calls f _ w ?_
 unfold PTypesGoods.tables_plain.f plainP
 split <;> (try split) <;> (try split) <;> (try split) <;> (congr 1; first | (simp; omega) | (rw [Bool.eq_iff_iff]; simp; omega))
theorem form_calls {w : World} {A : Option Addr} {c : Nat} {t : List S40} (hC : Kd.C k40 w A t.length t) (bx : Addr) (hb : w.cell? bx = some (.slice A t.length c)) (i : Int) :
 Calls Try.prog 69 #[.int .i64 i, .pointer (some bx)] w fun e w' => e = .returned (.int .i64 (form t i)) ∧ w = w' := by
 by_cases h0 : i < 0
 ·
  have R : Aside0 (form t i = -1) := ⟨if_neg (by omega)⟩
  have h0b : decide (i < 0) = true := decide_eq_true h0
  go_enter Try.func69, Try.ntmps69
  go_wp2
  go_ret
  exact ⟨by rw [R.out]; rfl, rfl⟩
 have h0b : decide (i < 0) = false := decide_eq_false h0
 by_cases h1 : i < (t.length : Int)
 ·
  obtain ⟨ad, A6, c6, A7, c7, hA, p0, -⟩ := at_T40 hC i (by omega) h1
  subst hA
  have R : Aside0 (form t i = (rd_T40 t i).f0) := ⟨if_pos ⟨by omega, h1⟩⟩
  have h1b : decide (i ≥ (t.length : Int)) = false := decide_eq_false (by omega)
  have hi : 0 ≤ i := by omega
  generalize (rd_T40 t i).f0 = f at p0 R
  go_enter Try.func69, Try.ntmps69
  go_wp2
  go_ret
  exact ⟨by rw [R.out]; rfl, rfl⟩
 ·
  have R : Aside0 (form t i = -1) := ⟨if_neg (by omega)⟩
  have h1b : decide (i ≥ (t.length : Int)) = true := decide_eq_true (by omega)
  go_enter Try.func69, Try.ntmps69
  go_wp2
  go_ret
  exact ⟨by rw [R.out]; rfl, rfl⟩
end Go.Proofs.Ytgnbemgeiloegaa.Tg
