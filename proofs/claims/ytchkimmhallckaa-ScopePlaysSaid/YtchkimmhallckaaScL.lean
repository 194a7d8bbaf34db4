import Derived.Test.YtchkimmhallckaaScK
namespace Go.Proofs.Ytchkimmhallckaa.Sc
open Go.RowKit Go.Maps Go.WideMaps Go.Proofs.Ytchkimmhallckaa
open Go.Proofs.YtchkimmhallckaaW.PrintWords Go.Proofs.YtchkimmhallckaaW.PrintLast Go.Proofs.YtchkimmhallckaaW.PrintMore
set_option linter.unusedVariables false
set_option linter.unusedSimpArgs false

/-! NAMES -/
def alnum (c : Int) : Bool := decide ((97 ≤ c ∧ c ≤ 122) ∨ (65 ≤ c ∧ c ≤ 90) ∨ (48 ≤ c ∧ c ≤ 57))
def allFrom (s : ByteArray) (i : Nat) : Bool := decide (∀ j, j < s.size → i ≤ j → alnum (bt s j) = true)
def isName (s : ByteArray) : Bool := decide (1 ≤ s.size) && decide (s.size ≤ 24) && decide (57 < bt s 0) && allFrom s 0

theorem allFrom_step {s : ByteArray} {i : Nat} (h : i < s.size) : allFrom s i = (alnum (bt s i) && allFrom s (i + 1)) := by
  unfold allFrom
  by_cases ha : alnum (bt s i) = true
  · rw [ha, Bool.true_and]
    congr 1
    simp only [eq_iff_iff]
    constructor
    · exact fun hh j hj hi => hh j hj (by omega)
    · intro hh j hj hi
      by_cases e : j = i
      · rw [e]; exact ha
      · exact hh j hj (by omega)
  · have : ¬ ∀ j, j < s.size → i ≤ j → alnum (bt s j) = true := fun hh => ha (hh i h (Nat.le_refl _))
    rw [decide_eq_false this]
    simp [ha]

theorem allFrom_end {s : ByteArray} {i : Nat} (h : ¬ i < s.size) : allFrom s i = true := decide_eq_true (fun j hj hi => by omega)

theorem named_step (k : Nat) (s : ByteArray) (i : Nat) (h : i < s.size) (hs : s.size ≤ 24) : PScopePlays.scope_named.l0 (k + 1) s (s.size : Int) (i : Int) = if alnum (bt s i) = true then PScopePlays.scope_named.l0 k s (s.size : Int) ((i + 1 : Nat) : Int) else some false := by
  have e : wrap64 ((i : Int) + 1) = ((i + 1 : Nat) : Int) := by unfold wrap64; omega
  conv => lhs; unfold PScopePlays.scope_named.l0
  rw [e, if_pos (by omega), if_pos (by omega), if_pos (by omega)]
  generalize bt s i = c
  generalize PScopePlays.scope_named.l0 k s (s.size : Int) ((i + 1 : Nat) : Int) = X
  have hal : alnum c = true ↔ ((97 ≤ c ∧ c ≤ 122) ∨ (65 ≤ c ∧ c ≤ 90) ∨ (48 ≤ c ∧ c ≤ 57)) := decide_eq_true_iff
  by_cases a1 : c < 97
  · rw [if_pos a1]
    by_cases a2 : c < 65
    · rw [if_pos a2]
      by_cases a3 : c < 48
      · rw [if_pos a3, if_neg (fun e => by have := hal.1 e; omega)]
      · rw [if_neg a3]
        by_cases a4 : c > 57
        · rw [if_pos a4, if_neg (fun e => by have := hal.1 e; omega)]
        · rw [if_neg a4, if_pos (hal.2 (by omega))]
    · rw [if_neg a2]
      by_cases a3 : c > 90
      · rw [if_pos a3, if_neg (by omega : ¬ c < 48), if_pos (by omega : c > 57), if_neg (fun e => by have := hal.1 e; omega)]
      · rw [if_neg a3, if_pos (hal.2 (by omega))]
  · rw [if_neg a1]
    by_cases a2 : c > 122
    · rw [if_pos a2, if_neg (by omega : ¬ c < 65), if_pos (by omega : c > 90), if_neg (by omega : ¬ c < 48), if_pos (by omega : c > 57), if_neg (fun e => by have := hal.1 e; omega)]
    · rw [if_neg a2, if_pos (hal.2 (by omega))]

theorem named_loop (s : ByteArray) (hs : s.size ≤ 24) : ∀ (n i : Nat), s.size - i = n → ∃ k, PScopePlays.scope_named.l0 k s (s.size : Int) (i : Int) = some (allFrom s i)
  | 0, i, hn => ⟨1, by
      rw [allFrom_end (by omega)]
      unfold PScopePlays.scope_named.l0
      rw [if_neg (by omega)]⟩
  | n + 1, i, hn => by
    obtain ⟨k, hk⟩ := named_loop s hs n (i + 1) (by omega)
    refine ⟨k + 1, ?_⟩
    rw [named_step k s i (by omega) hs, allFrom_step (by omega)]
    split
    · rename_i ha
      rw [ha, hk, Bool.true_and]
    · rename_i ha
      simp [ha]

theorem toList_size (s : ByteArray) : s.toList = [] ↔ s.size = 0 := by
  have h1 : s.toList.length = s.size := by rw [ByteArray.toList_eq]; rfl
  constructor
  · intro h
    rw [h] at h1
    simpa using h1.symm
  · intro h
    exact List.eq_nil_of_length_eq_zero (by omega)

theorem isName_is (s : ByteArray) : IsName s (isName s) := by
  unfold IsName PScopePlays.scope_named.f
  by_cases h0 : s.size = 0
  · refine ⟨1, ?_⟩
    rw [if_pos ((toList_size s).2 h0)]
    simp [PScopePlays.scope_named.j0, isName, h0]
  · have hne : ¬ s.toList = [] := fun e => h0 ((toList_size s).1 e)
    simp only [if_neg hne]
    by_cases h1 : s.size ≤ 24
    · by_cases h2 : bt s 0 ≤ 57
      · refine ⟨1, ?_⟩
        rw [if_neg (by omega), if_pos (by omega)]
        have h3 : decide (57 < bt s 0) = false := decide_eq_false (by omega)
        simp only [PScopePlays.scope_named.j0, isName, h3, Bool.and_false, Bool.false_and]
        rw [decide_eq_true h2]
        rfl
      · obtain ⟨k, hk⟩ := named_loop s h1 _ 0 rfl
        refine ⟨k + 1, ?_⟩
        rw [if_neg (by omega), if_pos (by omega)]
        have e1 : decide (bt s 0 ≤ 57) = false := decide_eq_false h2
        rw [e1]
        simp only [PScopePlays.scope_named.j0, Bool.false_eq_true, if_false]
        have hk' : PScopePlays.scope_named.l0 k s (s.size : Int) 0 = some (allFrom s 0) := hk
        rw [hk']
        have d1 : decide (1 ≤ s.size) = true := decide_eq_true (by omega)
        have d2 : decide (s.size ≤ 24) = true := decide_eq_true h1
        have d3 : decide (57 < bt s 0) = true := decide_eq_true (by omega)
        simp only [isName, d1, d2, d3, Bool.true_and]
    · refine ⟨1, ?_⟩
      rw [if_pos (by omega)]
      simp [PScopePlays.scope_named.j0, isName, h1]

theorem isName_short {s : ByteArray} (h : isName s = true) : s.size ≤ 24 := by
  simp only [isName, Bool.and_eq_true, decide_eq_true_eq] at h
  exact h.1.1.2
end Go.Proofs.Ytchkimmhallckaa.Sc
