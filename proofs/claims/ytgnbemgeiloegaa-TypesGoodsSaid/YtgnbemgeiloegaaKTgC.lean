import Derived.Test.YtgnbemgeiloegaaKTgB
namespace Go.Proofs.Ytgnbemgeiloegaa.Tg
open Go.RowKit Go.Maps Go.WideMaps
open Go.Proofs.YtgnbemgeiloegaaW.PrintWords Go.Proofs.YtgnbemgeiloegaaW.PrintLast Go.Proofs.YtgnbemgeiloegaaW.PrintMore
set_option linter.unusedVariables false
set_option linter.unusedSimpArgs false
open Go.Proofs.Ytgnbemgeiloegaa.PTypesGoods (S40 S42 S47 k40 k42 k47 rd_T40 rd_T42 at_T40 at_T42)
/-- a record's bases, one behind the other -/
def basesP (t : List S40) : Nat → Int → List Int → List Int × Bool
  | 0, _, _ => ([], false)
  | n + 1, x, acc => if (rd_T40 t x).f5 = 0 then (acc, true) else if placeP t (rd_T40 t x).f5 = true ∧ form t (rd_T40 t x).f5 = 9 then (if acc.length > 5 then ([], false) else basesP t n (rd_T40 t x).f5 (acc ++ [(rd_T40 t x).f5])) else ([], false)
theorem bases_loop (t : List S40) : ∀ (n : Nat) (x : Int) (acc : List Int), 0 ≤ x → x < t.length → 1 ≤ n → 7 ≤ n + acc.length → ∃ k, PTypesGoods.spinetref13_bases.l0 k t x acc = some (basesP t n x acc)
  | 0, x, acc, h0, h1, hn, hl => by omega
  | n + 1, x, acc, h0, h1, hn, hl => by
    by_cases hb : (rd_T40 t x).f5 = 0
    · refine ⟨1, ?_⟩
      unfold PTypesGoods.spinetref13_bases.l0
      rw [if_pos h0, if_pos h1, if_pos hb]
      simp [basesP, hb]
    · by_cases hp : placeP t (rd_T40 t x).f5 = true
      · have hpr : 0 ≤ (rd_T40 t x).f5 ∧ (rd_T40 t x).f5 < t.length := of_decide_eq_true hp
        have hf : form t (rd_T40 t x).f5 = (rd_T40 t (rd_T40 t x).f5).f0 := if_pos hpr
        by_cases h9 : (rd_T40 t (rd_T40 t x).f5).f0 = 9
        · by_cases h5 : acc.length > 5
          · refine ⟨1, ?_⟩
            unfold PTypesGoods.spinetref13_bases.l0
            rw [if_pos h0, if_pos h1, if_neg hb, place_is, hp, Option.bind_some, if_pos rfl, if_pos hpr.1, if_pos hpr.2, if_pos h9, if_pos (by omega)]
            simp [basesP, hb, hp, hf, h9, h5]
          · obtain ⟨k, hk⟩ := bases_loop t n (rd_T40 t x).f5 (acc ++ [(rd_T40 t x).f5]) hpr.1 hpr.2 (by omega) (by simp; omega)
            refine ⟨k + 1, ?_⟩
            conv => lhs; unfold PTypesGoods.spinetref13_bases.l0
            rw [if_pos h0, if_pos h1, if_neg hb, place_is, hp, Option.bind_some, if_pos rfl, if_pos hpr.1, if_pos hpr.2, if_pos h9, if_neg (by omega), if_pos (by omega), hk]
            simp [basesP, hb, hp, hf, h9, h5]
        · refine ⟨1, ?_⟩
          unfold PTypesGoods.spinetref13_bases.l0
          rw [if_pos h0, if_pos h1, if_neg hb, place_is, hp, Option.bind_some, if_pos rfl, if_pos hpr.1, if_pos hpr.2, if_neg h9]
          simp [basesP, hb, hp, hf, h9]
      · have hp' : placeP t (rd_T40 t x).f5 = false := by simpa using hp
        refine ⟨1, ?_⟩
        unfold PTypesGoods.spinetref13_bases.l0
        rw [if_pos h0, if_pos h1, if_neg hb, place_is, hp', Option.bind_some, if_neg (by decide)]
        simp [basesP, hb, hp']
theorem bases_in (t : List S40) : ∀ (n : Nat) (x : Int) (acc : List Int), (∀ b ∈ acc, 0 ≤ b ∧ b < (t.length : Int)) → ∀ b ∈ (basesP t n x acc).1, 0 ≤ b ∧ b < (t.length : Int)
  | 0, x, acc, h => fun b hb => by simp [basesP] at hb
  | n + 1, x, acc, h => by
    unfold basesP
    split
    · exact h
    · split
      · rename_i hp
        have hpr : 0 ≤ (rd_T40 t x).f5 ∧ (rd_T40 t x).f5 < t.length := of_decide_eq_true hp.1
        split
        · intro b hb; cases hb
        · refine bases_in t n _ _ fun b hb => ?_
          rw [List.mem_append] at hb
          rcases hb with hb | hb
          · exact h b hb
          · simp at hb
            subst hb
            exact hpr
      · intro b hb; cases hb
def met (S : List ByteArray) (s : ByteArray) : Bool := S.any fun x => decide (x = s)
/-- fields one behind the other: names not met, that are names, of types that may be held; what has been met then -/
def fieldsP (t : List S40) (S : List ByteArray) : List S42 → Option (List ByteArray)
  | [] => some S
  | f :: r => if (met S f.f0 || !isName f.f0 || !holdsP t f.f2) = true then none else fieldsP t (S ++ [f.f0]) r
theorem fieldsP_snoc (t : List S40) : ∀ (xs : List S42) (S : List ByteArray) (f : S42), fieldsP t S (xs ++ [f]) = (fieldsP t S xs).bind fun S' => if (met S' f.f0 || !isName f.f0 || !holdsP t f.f2) = true then none else some (S' ++ [f.f0])
  | [], S, f => by simp [fieldsP]
  | x :: xs, S, f => by
    simp only [List.cons_append, fieldsP]
    split
    · rfl
    · exact fieldsP_snoc t xs _ f
theorem fieldsP_app (t : List S40) : ∀ (xs ys : List S42) (S : List ByteArray), fieldsP t S (xs ++ ys) = (fieldsP t S xs).bind fun S' => fieldsP t S' ys
  | [], ys, S => by simp [fieldsP]
  | x :: xs, ys, S => by
    simp only [List.cons_append, fieldsP]
    split
    · rfl
    · exact fieldsP_app t xs ys _
def recsP (t : List S40) (S : List ByteArray) : List Int → Option (List ByteArray)
  | [] => some S
  | b :: r => if (rd_T40 t b).f6.length > 64 then none else (fieldsP t S (rd_T40 t b).f6).bind fun S' => recsP t S' r
theorem recsP_app (t : List S40) : ∀ (xs ys : List Int) (S : List ByteArray), recsP t S (xs ++ ys) = (recsP t S xs).bind fun S' => recsP t S' ys
  | [], ys, S => by simp [recsP]
  | x :: xs, ys, S => by
    simp only [List.cons_append, recsP]
    split
    · rfl
    · cases h : fieldsP t S (rd_T40 t x).f6 with
      | none => rfl
      | some S' =>
        simp only [Option.bind_some]
        exact recsP_app t xs ys _
/-- may it be a record? -/
def recordP (t : List S40) (a : Int) : Bool :=
  (basesP t 6 a [a]).2 && decide ((basesP t 6 a [a]).1.length ≤ 5) && decide ((rd_T40 t a).f6.length ≤ 64) && (recsP t [] (basesP t 6 a [a]).1).isSome
end Go.Proofs.Ytgnbemgeiloegaa.Tg
