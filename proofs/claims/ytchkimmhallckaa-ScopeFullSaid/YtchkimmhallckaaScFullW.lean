import Derived.Test.YtchkimmhallckaaScFull
namespace Go.Proofs.Ytchkimmhallckaa.Sc
open Go.RowKit Go.Maps Go.WideMaps Go.Proofs.Ytchkimmhallckaa
open Go.Proofs.YtchkimmhallckaaW.PrintWords Go.Proofs.YtchkimmhallckaaW.PrintLast Go.Proofs.YtchkimmhallckaaW.PrintMore
set_option linter.unusedVariables false
set_option linter.unusedSimpArgs false

theorem lk_fst (i : Nat) (hi : i < 300) : lk [(Fst, (-1 : Int))] (madeN i) = none := by
  have := madeN_ne i hi
  simp [lk, Ne.symm this]

theorem find_first (i : Nat) (hi : i ≤ 300) : find ([] ++ [filled [(Fst, -1)] i]) Fst = some (-1, 0) := by
  have h := filled_first [(Fst, -1)] (by simp) lk_fst i hi
  have e : lk [(Fst, (-1 : Int))] Fst = some (-1) := by simp [lk]
  rw [e] at h
  simp [find, findTo, h]

theorem find_opened (i : Nat) (hi : i ≤ 300) : find ([[(Fst, -1)]] ++ [filled [] i]) Fst = some (-1, 0) := by
  have h := filled_first [] (by simp) (fun _ _ => rfl) i hi
  have e : lk [(Fst, (-1 : Int))] Fst = some (-1) := by simp [lk]
  have e2 : lk ([] : Lvl) Fst = none := rfl
  rw [e2] at h
  simp [find, findTo, h, e]

theorem wf_minus : (Lit.int .i64 (-1)).wf = true := by decide

set_option maxHeartbeats 2000000 in
theorem full_open (w : World) (n : Int) (h0 : 0 ≤ n) (h1 : n ≤ 65535) : Calls Try.prog 7 #[.int .u16 n, .bool true] w fun e w' => e = .returned (.bool true) ∧ Below w.heap.size w w' := by
  have z1 : Fst.size ≤ maxLen := by decide
  have z2 : ∀ i, (madeN i).size ≤ maxLen := fun i => by rw [madeN_size]; unfold maxLen; omega
  have hp := Int.tmod_nonneg 300 h0
  have hp2 : Int.tmod n 300 < 300 := Int.tmod_lt_of_pos n (by decide)
  obtain ⟨k, hk⟩ : ∃ k : Nat, Int.tmod n 300 = k := ⟨(Int.tmod n 300).toNat, by omega⟩
  have hk2 : k < 300 := by omega
  have d0 : declC [] Fst = 0 := by decide +kernel
  have d1 : declL [] Fst (-1) = [(Fst, -1)] := by simp [declL, d0]
  clear hp hp2
  go_enter Try.func7, Try.ntmps7
  go_wp2_with fail
  refine (new_calls w).mono ?_
  rintro e w1 ⟨rfl, h1, b1⟩
  have o1 := One.start w h1 b1
  clear h1 b1
  go_wp2_with fail
  refine (O_decl (T := []) (l := []) o1 Fst (-1) z1 wf_minus (by decide)).mono ?_
  rintro e w2 ⟨rfl, o2, _⟩
  rw [d0]
  rw [d1] at o2
  go_wp2_with fail
  refine (O_open o2).mono ?_
  rintro e w3 ⟨rfl, o3, _⟩
  have o4 : One w (fun _ => False) w.heap.size ([[(Fst, -1)]] ++ [filled ([] : Lvl) 0]) 1 w3 := o3
  have o5 := Aside0.mk o4
  clear o1 o2 o3 o4
  go_wp2_with fail
  go_loopw [7, 8] (fun v i wr => ∃ j m : Nat, j ≤ k ∧ i = .int .i64 j ∧ v = .int .i64 m ∧ Aside0 (m = min (0 + j) 256) ∧ Aside0 (One w (fun _ => False) w.heap.size ([[(Fst, -1)]] ++ [filled ([] : Lvl) j]) (j + 1) wr)) (fun _ i _ => k - (intOf i).toNat)
  case atStart => exact ⟨0, _, Nat.zero_le _, rfl, rfl, ⟨rfl⟩, ⟨o5.out⟩⟩
  case round =>
    obtain ⟨j, m, hjk, rfl, rfl, HM, HO⟩ := hrel
    have hm256 : m ≤ 256 := by have := HM.out; omega
    have hO := HO.out
    have hj3 : j ≤ 300 := by omega
    by_cases hlt : j < k
    · have hx : decide ((j : Int) < (k : Int)) = true := decide_eq_true (by omega)
      have hwf := wf_small (lv := (j : Int)) (by omega) (by omega)
      have hN : j + 1 < maxLen := by unfold maxLen; omega
      go_wp2_with fail
      refine (made_calls j _).mono ?_
      rintro e w6 ⟨rfl, b6⟩
      obtain ⟨hO6, _⟩ := hO.on b6
      go_wp2_with fail
      refine (O_decl hO6 (madeN j) _ (z2 j) hwf hN).mono ?_
      rintro e w7 ⟨rfl, o7, _⟩
      have hcode := filled_code ([] : Lvl) (by simp) (fun _ _ => rfl) j (by omega)
      simp only [List.length_nil, List.length_singleton] at hcode
      by_cases hr : 0 + j < 256
      · have hr2 : decide ((m : Int) < 256) = true := decide_eq_true (by have := HM.out; omega)
        have hr3 : Aside0 (m + 1 = min (0 + (j + 1)) 256) := ⟨by have := HM.out; omega⟩
        have hr4 : wrap64 ((m : Int) + 1) = ((m + 1 : Nat) : Int) := by unfold wrap64; omega
        rw [if_pos hr] at hcode
        rw [hcode]
        go_wp2
        go_roundw
        case rel => exact ⟨j + 1, m + 1, by omega, by go_num, by go_num, hr3, ⟨o7⟩⟩
        case measure => simp [intOf]; omega
      · have hr2 : decide ((m : Int) < 256) = false := decide_eq_false (by have := HM.out; omega)
        have hr3 : Aside0 (m = min (0 + (j + 1)) 256) := ⟨by have := HM.out; omega⟩
        rw [if_neg hr] at hcode
        rw [hcode]
        go_wp2
        go_roundw
        case rel => exact ⟨j + 1, m, by omega, by go_num, rfl, hr3, ⟨o7⟩⟩
        case measure => simp [intOf]; omega
    · have hx : decide ((j : Int) < (k : Int)) = false := decide_eq_false (by omega)
      have hjk2 : j = k := by omega
      subst hjk2
      go_wp2_with fail
      refine (O_find hO Fst z1).mono ?_
      rintro e w7 ⟨rfl, rfl⟩
      rw [find_opened j hj3, findV_some]
      go_wp2_with fail
      refine (O_here hO).mono ?_
      rintro e w8 ⟨⟨A8, C8, rfl, _, _, _⟩, o8, _⟩
      have hl8 := filled_len ([] : Lvl) (by simp) (fun _ _ => rfl) j hj3
      simp only [List.length_nil, List.length_singleton] at hl8
      rw [hl8, ← HM.out]
      go_wp2_with fail
      all_goals first
        | (refine (wakes_calls _).mono ?_
           rintro e w9 ⟨rfl, b9⟩
           go_wp2
           go_ret
           exact ⟨rfl, (o8.on b9).1.below⟩)
        | (have hj0 : 0 < j := by omega
           refine (made_calls 0 _).mono ?_
           rintro e w9 ⟨rfl, b9⟩
           obtain ⟨o9, _⟩ := o8.on b9
           go_wp2_with fail
           refine (O_decl o9 (madeN 0) 5 (z2 0) (by decide) (by unfold maxLen; omega)).mono ?_
           rintro e w10 ⟨rfl, o10, _⟩
           rw [filled_again ([] : Lvl) (by simp) (fun _ _ => rfl) j hj3 hj0]
           go_wp2_with fail
           refine (wakes_calls _).mono ?_
           rintro e w11 ⟨rfl, b11⟩
           go_wp2
           go_ret
           exact ⟨rfl, (o10.on b11).1.below⟩)

set_option maxHeartbeats 2000000 in
theorem full_shut (w : World) (n : Int) (h0 : 0 ≤ n) (h1 : n ≤ 65535) : Calls Try.prog 7 #[.int .u16 n, .bool false] w fun e w' => e = .returned (.bool true) ∧ Below w.heap.size w w' := by
  have z1 : Fst.size ≤ maxLen := by decide
  have z2 : ∀ i, (madeN i).size ≤ maxLen := fun i => by rw [madeN_size]; unfold maxLen; omega
  have hp := Int.tmod_nonneg 300 h0
  have hp2 : Int.tmod n 300 < 300 := Int.tmod_lt_of_pos n (by decide)
  obtain ⟨k, hk⟩ : ∃ k : Nat, Int.tmod n 300 = k := ⟨(Int.tmod n 300).toNat, by omega⟩
  have hk2 : k < 300 := by omega
  have d0 : declC [] Fst = 0 := by decide +kernel
  have d1 : declL [] Fst (-1) = [(Fst, -1)] := by simp [declL, d0]
  clear hp hp2
  go_enter Try.func7, Try.ntmps7
  go_wp2_with fail
  refine (new_calls w).mono ?_
  rintro e w1 ⟨rfl, h1, b1⟩
  have o1 := One.start w h1 b1
  clear h1 b1
  go_wp2_with fail
  refine (O_decl (T := []) (l := []) o1 Fst (-1) z1 wf_minus (by decide)).mono ?_
  rintro e w2 ⟨rfl, o2, _⟩
  rw [d0]
  rw [d1] at o2
  go_wp2_with fail
  have o4 : One w (fun _ => False) w.heap.size (([] : List Lvl) ++ [filled [(Fst, (-1 : Int))] 0]) 1 w2 := o2
  have o5 := Aside0.mk o4
  clear o1 o2 o4
  go_loopw [7, 8] (fun v i wr => ∃ j m : Nat, j ≤ k ∧ i = .int .i64 j ∧ v = .int .i64 m ∧ Aside0 (m = min (1 + j) 256) ∧ Aside0 (One w (fun _ => False) w.heap.size (([] : List Lvl) ++ [filled [(Fst, (-1 : Int))] j]) (j + 1) wr)) (fun _ i _ => k - (intOf i).toNat)
  case atStart => exact ⟨0, _, Nat.zero_le _, rfl, rfl, ⟨rfl⟩, ⟨o5.out⟩⟩
  case round =>
    obtain ⟨j, m, hjk, rfl, rfl, HM, HO⟩ := hrel
    have hm256 : m ≤ 256 := by have := HM.out; omega
    have hO := HO.out
    have hj3 : j ≤ 300 := by omega
    by_cases hlt : j < k
    · have hx : decide ((j : Int) < (k : Int)) = true := decide_eq_true (by omega)
      have hwf := wf_small (lv := (j : Int)) (by omega) (by omega)
      have hN : j + 1 < maxLen := by unfold maxLen; omega
      go_wp2_with fail
      refine (made_calls j _).mono ?_
      rintro e w6 ⟨rfl, b6⟩
      obtain ⟨hO6, _⟩ := hO.on b6
      go_wp2_with fail
      refine (O_decl hO6 (madeN j) _ (z2 j) hwf hN).mono ?_
      rintro e w7 ⟨rfl, o7, _⟩
      have hcode := filled_code [(Fst, (-1 : Int))] (by simp) lk_fst j (by omega)
      simp only [List.length_nil, List.length_singleton] at hcode
      by_cases hr : 1 + j < 256
      · have hr2 : decide ((m : Int) < 256) = true := decide_eq_true (by have := HM.out; omega)
        have hr3 : Aside0 (m + 1 = min (1 + (j + 1)) 256) := ⟨by have := HM.out; omega⟩
        have hr4 : wrap64 ((m : Int) + 1) = ((m + 1 : Nat) : Int) := by unfold wrap64; omega
        rw [if_pos hr] at hcode
        rw [hcode]
        go_wp2
        go_roundw
        case rel => exact ⟨j + 1, m + 1, by omega, by go_num, by go_num, hr3, ⟨o7⟩⟩
        case measure => simp [intOf]; omega
      · have hr2 : decide ((m : Int) < 256) = false := decide_eq_false (by have := HM.out; omega)
        have hr3 : Aside0 (m = min (1 + (j + 1)) 256) := ⟨by have := HM.out; omega⟩
        rw [if_neg hr] at hcode
        rw [hcode]
        go_wp2
        go_roundw
        case rel => exact ⟨j + 1, m, by omega, by go_num, rfl, hr3, ⟨o7⟩⟩
        case measure => simp [intOf]; omega
    · have hx : decide ((j : Int) < (k : Int)) = false := decide_eq_false (by omega)
      have hjk2 : j = k := by omega
      subst hjk2
      go_wp2_with fail
      refine (O_find hO Fst z1).mono ?_
      rintro e w7 ⟨rfl, rfl⟩
      rw [find_first j hj3, findV_some]
      go_wp2_with fail
      refine (O_here hO).mono ?_
      rintro e w8 ⟨⟨A8, C8, rfl, _, _, _⟩, o8, _⟩
      have hl8 := filled_len [(Fst, (-1 : Int))] (by simp) lk_fst j hj3
      simp only [List.length_nil, List.length_singleton] at hl8
      rw [hl8, ← HM.out]
      go_wp2_with fail
      all_goals first
        | (refine (wakes_calls _).mono ?_
           rintro e w9 ⟨rfl, b9⟩
           go_wp2
           go_ret
           exact ⟨rfl, (o8.on b9).1.below⟩)
        | (have hj0 : 0 < j := by omega
           refine (made_calls 0 _).mono ?_
           rintro e w9 ⟨rfl, b9⟩
           obtain ⟨o9, _⟩ := o8.on b9
           go_wp2_with fail
           refine (O_decl o9 (madeN 0) 5 (z2 0) (by decide) (by unfold maxLen; omega)).mono ?_
           rintro e w10 ⟨rfl, o10, _⟩
           rw [filled_again [(Fst, (-1 : Int))] (by simp) lk_fst j hj3 hj0]
           go_wp2_with fail
           refine (wakes_calls _).mono ?_
           rintro e w11 ⟨rfl, b11⟩
           go_wp2
           go_ret
           exact ⟨rfl, (o10.on b11).1.below⟩)

theorem full_calls (w : World) (n : Int) (b : Bool) (h0 : 0 ≤ n) (h1 : n ≤ 65535) : Calls Try.prog 7 #[.int .u16 n, .bool b] w fun e w' => e = .returned (.bool true) ∧ Below w.heap.size w w' := by
  cases b with
  | true => exact full_open w n h0 h1
  | false => exact full_shut w n h0 h1
end Go.Proofs.Ytchkimmhallckaa.Sc
