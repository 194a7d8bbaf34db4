import Derived.Test.YtchkimmhallckaaScM
namespace Go.Proofs.Ytchkimmhallckaa.Sc
open Go.RowKit Go.Maps Go.WideMaps Go.Proofs.Ytchkimmhallckaa
open Go.Proofs.YtchkimmhallckaaW.PrintWords Go.Proofs.YtchkimmhallckaaW.PrintLast Go.Proofs.YtchkimmhallckaaW.PrintMore
set_option linter.unusedVariables false
set_option linter.unusedSimpArgs false

/-- the levels behind i rounds: 0 .. i-1, each with its x, and the last one without -/
def deep (i : Nat) : List Lvl := (List.range i).map fun (j : Nat) => [(X, (j : Int))]

theorem deep_len (i : Nat) : (deep i).length = i := by simp [deep]
theorem deep_succ (i : Nat) : deep (i + 1) = deep i ++ [[(X, (i : Int))]] := by simp [deep, List.range_succ]

theorem declX : declC [] X = 0 := by decide +kernel
theorem declX2 (v : Int) : declC [(X, v)] X = 151 := by
  have : isName X = true := nX
  simp [declC, this, lk]
theorem lvlX (v : Int) : declL [] X v = [(X, v)] := by simp [declL, declX]

theorem find_top (T : List Lvl) (v : Int) : find (T ++ [[(X, v)]]) X = some (v, T.length) := by
  have e : (T ++ [[(X, v)]]).length = T.length + 1 := by simp
  unfold find
  rw [e]
  simp [findTo, List.getD_eq_getElem?_getD, lk]

theorem find_under (T : List Lvl) (v : Int) : find (T ++ [[(X, v)]] ++ [[]]) X = some (v, T.length) := by
  have e : (T ++ [[(X, v)]] ++ [[]]).length = T.length + 1 + 1 := by simp
  unfold find
  rw [e]
  have h1 : (T ++ [[(X, v)]] ++ [[]]).getD (T.length + 1) [] = [] := by
    rw [List.getD_eq_getElem?_getD, List.getElem?_append_right (by simp)]
    simp
  have h2 : (T ++ [[(X, v)]] ++ [[]]).getD T.length [] = [(X, v)] := by
    rw [List.getD_eq_getElem?_getD, List.getElem?_append_left (by simp), List.getElem?_append_right (by simp)]
    simp
  simp only [findTo, h1, h2, lk, if_true]

def stD (i : Nat) : List Lvl := if i ≤ 63 then deep i ++ [[]] else deep 64

set_option maxHeartbeats 2000000 in
theorem deep_calls (w : World) (n : Int) (h0 : 0 ≤ n) (h1 : n ≤ 255) : Calls Try.prog 3 #[.int .u8 n] w fun e w' => e = .returned (.bool true) ∧ Below w.heap.size w w' := by
  have z1 : X.size ≤ maxLen := by decide
  have hp := Int.tmod_nonneg 70 h0
  have hp2 : Int.tmod n 70 < 70 := Int.tmod_lt_of_pos n (by decide)
  obtain ⟨k, hk⟩ : ∃ k : Nat, Int.tmod n 70 = k := ⟨(Int.tmod n 70).toNat, by omega⟩
  have hk2 : k < 70 := by omega
  clear hp hp2
  go_enter Try.func3, Try.ntmps3
  go_wp2_with fail
  refine (new_calls w).mono ?_
  rintro e w1 ⟨rfl, h1, b1⟩
  have o1 := Aside0.mk (One.start w h1 b1)
  clear h1 b1
  go_wp2_with fail
  go_loopw [5] (fun i wr => ∃ j : Nat, j ≤ k ∧ j ≤ 64 ∧ i = .int .i64 j ∧ Aside0 (One w (fun _ => False) w.heap.size (stD j) j wr)) (fun i _ => k - (intOf i).toNat)
  case atStart => exact ⟨0, Nat.zero_le _, Nat.zero_le _, rfl, ⟨o1.out⟩⟩
  case round =>
    obtain ⟨j, hjk, hj, rfl, HO⟩ := hrel
    have hO := HO.out
    by_cases hlt : j < k
    · have hx : decide ((j : Int) < (k : Int)) = true := decide_eq_true (by omega)
      have hwf := wf_small (lv := (j : Int)) (by omega) (by omega)
      have hN : j < maxLen := by unfold maxLen; omega
      by_cases h64 : j = 64
      · subst h64
        rw [show stD 64 = deep 63 ++ [[(X, ((63 : Nat) : Int))]] from deep_succ 63] at hO
        go_wp2_with fail
        refine (O_decl hO X _ z1 (by decide) hN).mono ?_
        rintro e w2 ⟨rfl, o2, _⟩
        rw [declX2]
        go_wp2_with fail
        refine (O_depth o2).mono ?_
        rintro e w3 ⟨rfl, rfl⟩
        rw [show ∀ q : Lvl, (((deep 63 ++ [q]).length : Nat) : Int) - 1 = 63 from fun q => by simp [deep_len]]
        go_wp2_with fail
        refine (wakes_calls _).mono ?_
        rintro e w4 ⟨rfl, b4⟩
        go_wp2
        go_ret
        exact ⟨rfl, (o2.on b4).1.below⟩
      · have hj63 : j ≤ 63 := by omega
        rw [show stD j = deep j ++ [[]] from if_pos hj63] at hO
        go_wp2_with fail
        refine (O_decl hO X _ z1 hwf hN).mono ?_
        rintro e w2 ⟨rfl, o2, _⟩
        rw [declX]
        rw [lvlX] at o2
        go_wp2_with fail
        refine (O_open o2).mono ?_
        rintro e w3 ⟨rfl, o3, _⟩
        have hl : (deep j ++ [[(X, (j : Int))]]).length = j + 1 := by simp [deep_len]
        rw [hl] at o3 ⊢
        by_cases hj2 : j + 1 < 64
        · rw [if_pos hj2] at o3
          rw [if_pos hj2]
          have hc : decide ((j : Int) < 63) = true := decide_eq_true (by omega)
          go_wp2_with fail
          refine (O_find o3 X z1).mono ?_
          rintro e w4 ⟨rfl, rfl⟩
          rw [find_under, findV_some, deep_len]
          go_wp2
          go_roundw
          case rel => exact ⟨j + 1, by omega, by omega, by go_num, ⟨by rw [show stD (j + 1) = deep (j + 1) ++ [[]] from if_pos (by omega), deep_succ]; exact o3⟩⟩
          case measure => simp [intOf]; omega
        · rw [if_neg hj2] at o3
          rw [if_neg hj2]
          have hc : decide ((j : Int) < 63) = false := decide_eq_false (by omega)
          go_wp2_with fail
          refine (O_find o3 X z1).mono ?_
          rintro e w4 ⟨rfl, rfl⟩
          rw [find_top, findV_some, deep_len]
          go_wp2
          go_roundw
          case rel => exact ⟨j + 1, by omega, by omega, by go_num, ⟨by rw [show stD (j + 1) = deep 64 from if_neg (by omega), show 64 = j + 1 by omega, deep_succ]; exact o3⟩⟩
          case measure => simp [intOf]; omega
    · have hx : decide ((j : Int) < (k : Int)) = false := decide_eq_false (by omega)
      have hjk2 : j = k := by omega
      subst hjk2
      go_wp2_with fail
      refine (O_depth hO).mono ?_
      rintro e w3 ⟨rfl, rfl⟩
      have e1 : ((stD j).length : Int) - 1 = min (j : Int) 63 := by
        unfold stD
        split
        · simp [deep_len]; omega
        · simp [deep_len]; omega
      rw [e1]
      go_wp2_with fail
      all_goals
        refine (wakes_calls _).mono ?_
        rintro e w4 ⟨rfl, b4⟩
        go_wp2
        go_ret
        exact ⟨rfl, (hO.on b4).1.below⟩
end Go.Proofs.Ytchkimmhallckaa.Sc
