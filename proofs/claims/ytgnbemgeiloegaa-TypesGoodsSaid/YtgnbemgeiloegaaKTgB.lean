import Derived.Test.YtgnbemgeiloegaaKTgA
import Derived.Test.YtgnbemgeiloegaaKPTypesGoodsx4
namespace Go.Proofs.Ytgnbemgeiloegaa.Tg
open Go.RowKit Go.Maps Go.WideMaps
open Go.Proofs.YtgnbemgeiloegaaW.PrintWords Go.Proofs.YtgnbemgeiloegaaW.PrintLast Go.Proofs.YtgnbemgeiloegaaW.PrintMore
set_option linter.unusedVariables false
set_option linter.unusedSimpArgs false
/-! PURE TABLES. A table is a list of PTypesGoods.S40 (f0 Form, f1 Mod, f2 Name, f3 Len, f4 Elem, f5 Base, f6 Fields, f7 Params, f8 Result, f9 Desc). -/
open Go.Proofs.Ytgnbemgeiloegaa.PTypesGoods (S40 S42 S47 k40 k42 k47 rd_T40)
/-- names, as in scope: a letter, and letters and digits, at most 24 -/
def alnum (c : Int) : Bool := decide ((97 ≤ c ∧ c ≤ 122) ∨ (65 ≤ c ∧ c ≤ 90) ∨ (48 ≤ c ∧ c ≤ 57))
def allFrom (s : ByteArray) (i : Nat) : Bool := decide (∀ j, j < s.size → i ≤ j → alnum (bt s j) = true)
def isName (s : ByteArray) : Bool := decide (1 ≤ s.size) && decide (s.size ≤ 24) && decide (57 < bt s 0) && allFrom s 0
theorem allFrom_step {s : ByteArray} {i : Nat} (h : i < s.size) : allFrom s i = (alnum (bt s i) && allFrom s (i + 1)) := by
  unfold allFrom
  by_cases ha : alnum (bt s i) = true
  · rw [ha, Bool.true_and]
    congr 1
    simp only [eq_iff_iff]
    constructor
    · exact fun hh j hj hi => hh j hj (by omega)
    · intro hh j hj hi
      by_cases e : j = i
      · rw [e]; exact ha
      · exact hh j hj (by omega)
  · have : ¬ ∀ j, j < s.size → i ≤ j → alnum (bt s j) = true := fun hh => ha (hh i h (Nat.le_refl _))
    rw [decide_eq_false this]
    simp [ha]
theorem allFrom_end {s : ByteArray} {i : Nat} (h : ¬ i < s.size) : allFrom s i = true := decide_eq_true (fun j hj hi => by omega)
theorem letter_is (c : Int) : ∃ b, PTypesGoods.spinetref09_letter.f c = some b ∧ (b = true ↔ (97 ≤ c ∧ c ≤ 122) ∨ (65 ≤ c ∧ c ≤ 90)) := by
  unfold PTypesGoods.spinetref09_letter.f
  by_cases h1 : c ≥ 97
  · rw [if_pos h1]
    by_cases h2 : c ≤ 122
    · rw [if_pos h2]
      exact ⟨_, rfl, by simp; omega⟩
    · rw [if_neg h2, if_pos (by omega)]
      exact ⟨_, rfl, by simp; omega⟩
  · rw [if_neg h1]
    by_cases h2 : c ≥ 65
    · rw [if_pos h2]
      exact ⟨_, rfl, by simp; omega⟩
    · rw [if_neg h2]
      exact ⟨_, rfl, by simp; omega⟩
theorem digit_is (c : Int) : ∃ b, PTypesGoods.spinetref09_digit.f c = some b ∧ (b = true ↔ (48 ≤ c ∧ c ≤ 57)) := by
  unfold PTypesGoods.spinetref09_digit.f
  by_cases h1 : c ≥ 48
  · rw [if_pos h1]
    exact ⟨_, rfl, by simp; omega⟩
  · rw [if_neg h1]
    exact ⟨_, rfl, by simp; omega⟩
theorem word_loop (s : ByteArray) (hs : s.size ≤ 24) : ∀ (n i : Nat), s.size - i = n → ∃ k, PTypesGoods.spinetref09_Word.l0 k s (i : Int) = some (allFrom s i)
  | 0, i, hn => ⟨1, by
      rw [allFrom_end (by omega)]
      unfold PTypesGoods.spinetref09_Word.l0
      rw [if_neg (by omega)]⟩
  | n + 1, i, hn => by
    obtain ⟨k, hk⟩ := word_loop s hs n (i + 1) (by omega)
    have e : wrap64 ((i : Int) + 1) = ((i + 1 : Nat) : Int) := by unfold wrap64; omega
    refine ⟨k + 1, ?_⟩
    rw [allFrom_step (by omega)]
    conv => lhs; unfold PTypesGoods.spinetref09_Word.l0
    rw [if_pos (by omega), if_pos (by omega), e, hk]
    obtain ⟨b1, h1, h2⟩ := letter_is (bt s (i : Int))
    obtain ⟨b2, h3, h4⟩ := digit_is (bt s (i : Int))
    rw [h1, h3]
    have ha : alnum (bt s (i : Int)) = (b1 || b2) := by
      cases hb1 : b1 <;> cases hb2 : b2 <;> simp [alnum] <;> simp [hb1] at h2 <;> simp [hb2] at h4 <;> omega
    rw [ha]
    cases b1 <;> cases b2 <;> simp
theorem word_is (s : ByteArray) : ∃ k, PTypesGoods.spinetref13_word.f k s = some (isName s) := by
  have main : ∃ k, PTypesGoods.spinetref09_Word.f k s = some (isName s) := by
    unfold PTypesGoods.spinetref09_Word.f
    by_cases h0 : s.size = 0
    · refine ⟨1, ?_⟩
      rw [if_pos (by omega)]
      simp [PTypesGoods.spinetref09_Word.j0, isName, h0]
    · by_cases h1 : s.size ≤ 24
      · obtain ⟨b, hb1, hb2⟩ := letter_is (bt s 0)
        have hstep : allFrom s 0 = (alnum (bt s 0) && allFrom s 1) := allFrom_step (i := 0) (by omega)
        have d1 : decide (1 ≤ s.size) = true := decide_eq_true (by omega)
        have d2 : decide (s.size ≤ 24) = true := decide_eq_true h1
        have hle : (decide (57 < bt s 0) && alnum (bt s 0)) = b := by
          cases b <;> simp [alnum] <;> simp at hb2 <;> omega
        have hn : isName s = (b && allFrom s 1) := by
          simp only [isName, d1, d2, Bool.true_and]
          rw [hstep, ← Bool.and_assoc, hle]
        rw [hn]
        cases b with
        | false =>
          refine ⟨1, ?_⟩
          rw [if_neg (by omega), if_neg (by omega), if_pos (by omega), hb1]
          rfl
        | true =>
          obtain ⟨k, hk⟩ := word_loop s h1 _ 1 rfl
          refine ⟨k + 1, ?_⟩
          rw [if_neg (by omega), if_neg (by omega), if_pos (by omega), hb1]
          simp only [Option.bind_some, PTypesGoods.spinetref09_Word.j0, Bool.not_true, Bool.false_eq_true, if_false, Bool.true_and]
          exact hk
      · refine ⟨1, ?_⟩
        rw [if_neg (by omega), if_pos (by omega)]
        simp [PTypesGoods.spinetref09_Word.j0, isName, h1]
  obtain ⟨k, hk⟩ := main
  exact ⟨k, by unfold PTypesGoods.spinetref13_word.f; rw [hk]; rfl⟩
theorem word_calls (s : ByteArray) (w : World) : Calls Try.prog 55 #[.string s] w fun e w' => e = .returned (.bool (isName s)) ∧ Drawn0 w w' := by
  obtain ⟨k, hk⟩ := word_is s
  exact PTypesGoods.spinetref13_word.calls k s _ w hk
/-- the form of a place; -1: it is none -/
def form (t : List S40) (i : Int) : Int := if 0 ≤ i ∧ i < t.length then (rd_T40 t i).f0 else -1
def placeP (t : List S40) (i : Int) : Bool := decide (0 ≤ i ∧ i < t.length)
def holdsP (t : List S40) (i : Int) : Bool := placeP t i && decide (form t i ≠ 0) && decide (form t i ≠ 5) && decide (form t i ≠ 6) && decide (form t i ≠ 8)
theorem place_is (t : List S40) (i : Int) : PTypesGoods.spinetref13_place.f t i = some (placeP t i) := by
  unfold PTypesGoods.spinetref13_place.f placeP
  by_cases h : i ≥ 0
  · rw [if_pos h]
    congr 1
    simp [h]
  · rw [if_neg h]
    simp
    omega
theorem holds_is (t : List S40) (i : Int) : PTypesGoods.spinetref13_holds.f t i = some (holdsP t i) := by
  unfold PTypesGoods.spinetref13_holds.f holdsP
  rw [place_is, Option.bind_some]
  by_cases h : 0 ≤ i ∧ i < t.length
  · have hp : placeP t i = true := decide_eq_true h
    have hf : form t i = (rd_T40 t i).f0 := if_pos h
    rw [hp, if_pos rfl, if_pos h.1, if_pos h.2, hf]
    generalize (rd_T40 t i).f0 = f
    by_cases h0 : f = 0
    · rw [if_pos h0]; simp [h0]
    · rw [if_neg h0]
      by_cases h5 : f = 5
      · rw [if_pos h5]; simp [h5]
      · rw [if_neg h5]
        by_cases h6 : f = 6
        · rw [if_pos h6]; simp [h6]
        · rw [if_neg h6]
          simp [h0, h5, h6]
          rfl
  · have hp : placeP t i = false := decide_eq_false h
    rw [hp]
    rfl
section
variable {w : World} {A : Option Addr} {c : Nat} {t : List S40}
theorem place_calls (hC : Kd.C k40 w A t.length t) (hc : t.length ≤ c) (i : Int) : Calls Try.prog 57 #[.slice A t.length c, .int .i64 i] w fun e w' => e = .returned (.bool (placeP t i)) ∧ Drawn0 w w' :=
  PTypesGoods.spinetref13_place.calls A c t i _ w hC hc (place_is t i)
theorem holds_calls (hC : Kd.C k40 w A t.length t) (hc : t.length ≤ c) (i : Int) : Calls Try.prog 56 #[.slice A t.length c, .int .i64 i] w fun e w' => e = .returned (.bool (holdsP t i)) ∧ Drawn0 w w' :=
  PTypesGoods.spinetref13_holds.calls A c t i _ w hC hc (holds_is t i)
end
end Go.Proofs.Ytgnbemgeiloegaa.Tg
