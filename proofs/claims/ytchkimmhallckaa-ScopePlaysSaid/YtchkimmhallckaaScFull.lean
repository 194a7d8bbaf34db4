import Derived.Test.YtchkimmhallckaaScM
namespace Go.Proofs.Ytchkimmhallckaa.Sc
open Go.RowKit Go.Maps Go.WideMaps Go.Proofs.Ytchkimmhallckaa
open Go.Proofs.YtchkimmhallckaaW.PrintWords Go.Proofs.YtchkimmhallckaaW.PrintLast Go.Proofs.YtchkimmhallckaaW.PrintMore
set_option linter.unusedVariables false
set_option linter.unusedSimpArgs false

/-! NAMES MADE UP -/
def madeN (i : Nat) : ByteArray := strOfNums (([109, (wrap64 (97 + (Int.tmod (wrap64 (Int.tdiv (i : Int) 26)) 26))) % 256, (wrap64 (97 + (Int.tmod (i : Int) 26))) % 256, (wrap64 (97 + (Int.tmod (wrap64 (Int.tdiv (i : Int) 676)) 26))) % 256] : List Int))

theorem made_calls (i : Nat) (w : World) : Calls Try.prog 19 #[.int .i64 (i : Int)] w fun e w' => e = .returned (.string (madeN i)) ∧ Below w.heap.size w w' :=
  PScopePlays.spinetlaw15_made.calls (i : Int) (madeN i) w rfl

theorem madeN_name : ∀ i, i < 300 → isName (madeN i) = true := by decide +kernel
def unmade (s : ByteArray) : Int := (bt s 1 - 97) * 26 + (bt s 2 - 97)
theorem unmade_made : ∀ i, i < 300 → unmade (madeN i) = (i : Int) := by decide +kernel
def Fst : ByteArray := { data := #[102, 105, 114, 115, 116] }
theorem nFst : isName Fst = true := by decide +kernel
theorem madeN_ne : ∀ i, i < 300 → madeN i ≠ Fst := by decide +kernel
theorem madeN_size (i : Nat) : (madeN i).size = 4 := rfl

/-- what i rounds leave, before any other name -/
def filled (l0 : Lvl) : Nat → Lvl
  | 0 => l0
  | i + 1 => declL (filled l0 i) (madeN i) (i : Int)

theorem lk_app (a b : Lvl) (s : ByteArray) : lk (a ++ b) s = (lk a s).or (lk b s) := by
  induction a with
  | nil => simp [lk]
  | cons p r ih =>
    obtain ⟨c, d⟩ := p
    simp only [List.cons_append, lk]
    split
    · rfl
    · exact ih

/-- the first i names, each with its number -/
def mades (i : Nat) : Lvl := (List.range i).map fun (j : Nat) => (madeN j, (j : Int))

theorem mades_len (i : Nat) : (mades i).length = i := by simp [mades]
theorem mades_succ (i : Nat) : mades (i + 1) = mades i ++ [(madeN i, (i : Int))] := by simp [mades, List.range_succ]

theorem lk_mades {n i : Nat} (hn : n ≤ i) (hi : i < 300) : lk (mades n) (madeN i) = none := by
  apply lk_none_of
  intro p hp
  simp only [mades, List.mem_map, List.mem_range] at hp
  obtain ⟨j, hj, rfl⟩ := hp
  intro e
  have h1 := unmade_made j (by omega)
  have h2 := unmade_made i hi
  rw [show madeN j = madeN i from e, h2] at h1
  omega

theorem filled_is (l0 : Lvl) (h0 : l0.length ≤ 1) (hk : ∀ i, i < 300 → lk l0 (madeN i) = none) : ∀ i, i ≤ 300 → filled l0 i = l0 ++ mades (min i (256 - l0.length))
  | 0, _ => by simp [filled, mades]
  | i + 1, hi => by
    have ih := filled_is l0 h0 hk i (by omega)
    have hl : lk (filled l0 i) (madeN i) = none := by
      rw [ih, lk_app, hk i (by omega), lk_mades (by omega) (by omega)]
      rfl
    have hlen : (filled l0 i).length = l0.length + min i (256 - l0.length) := by rw [ih]; simp [mades_len]
    have hnm := madeN_name i (by omega)
    unfold filled
    by_cases hr : l0.length + i < 256
    · have e1 : declC (filled l0 i) (madeN i) = 0 := by
        simp [declC, hnm, hl]
        omega
      rw [declL, if_pos e1, ih, show min (i + 1) (256 - l0.length) = min i (256 - l0.length) + 1 by omega, mades_succ, List.append_assoc, show min i (256 - l0.length) = i by omega]
    · have e1 : declC (filled l0 i) (madeN i) = 3 := by
        simp [declC, hnm, hl]
        omega
      rw [declL, if_neg (by rw [e1]; decide), ih, show min (i + 1) (256 - l0.length) = min i (256 - l0.length) by omega]

theorem filled_len (l0 : Lvl) (h0 : l0.length ≤ 1) (hk : ∀ i, i < 300 → lk l0 (madeN i) = none) (i : Nat) (hi : i ≤ 300) : (filled l0 i).length = min (l0.length + i) 256 := by
  rw [filled_is l0 h0 hk i hi]
  simp [mades_len]
  omega

theorem filled_code (l0 : Lvl) (h0 : l0.length ≤ 1) (hk : ∀ i, i < 300 → lk l0 (madeN i) = none) (i : Nat) (hi : i < 300) : declC (filled l0 i) (madeN i) = if l0.length + i < 256 then 0 else 3 := by
  have hl : lk (filled l0 i) (madeN i) = none := by
    rw [filled_is l0 h0 hk i (by omega), lk_app, hk i (by omega), lk_mades (by omega) (by omega)]
    rfl
  have hlen := filled_len l0 h0 hk i (by omega)
  have hnm := madeN_name i (by omega)
  split
  · simp [declC, hnm, hl]; omega
  · simp [declC, hnm, hl]; omega

theorem filled_first (l0 : Lvl) (h0 : l0.length ≤ 1) (hk : ∀ i, i < 300 → lk l0 (madeN i) = none) (i : Nat) (hi : i ≤ 300) : lk (filled l0 i) Fst = lk l0 Fst := by
  rw [filled_is l0 h0 hk i hi, lk_app, lk_none_of (mades _) Fst ?_]
  · cases lk l0 Fst <;> rfl
  · intro p hp
    simp only [mades, List.mem_map, List.mem_range] at hp
    obtain ⟨j, hj, rfl⟩ := hp
    exact madeN_ne j (by omega)

theorem filled_again (l0 : Lvl) (h0 : l0.length ≤ 1) (hk : ∀ i, i < 300 → lk l0 (madeN i) = none) (i : Nat) (hi : i ≤ 300) (hp : 0 < i) : declC (filled l0 i) (madeN 0) = 151 := by
  have h1 : (lk (filled l0 i) (madeN 0)).isSome = true := by
    rw [filled_is l0 h0 hk i hi, lk_app, hk 0 (by omega)]
    obtain ⟨n, hn⟩ : ∃ n, min i (256 - l0.length) = n + 1 := ⟨min i (256 - l0.length) - 1, by omega⟩
    rw [hn]
    simp [mades, List.range_succ_eq_map, lk]
  simp [declC, madeN_name 0 (by omega), h1]

end Go.Proofs.Ytchkimmhallckaa.Sc
