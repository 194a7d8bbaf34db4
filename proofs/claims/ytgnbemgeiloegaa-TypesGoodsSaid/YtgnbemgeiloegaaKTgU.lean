import Derived.Test.YtgnbemgeiloegaaKTgS
import Derived.Test.YtgnbemgeiloegaaKTgG
namespace Go.Proofs.Ytgnbemgeiloegaa.Tg
open Go.RowKit
open Go.Proofs.YtgnbemgeiloegaaW.PrintWords Go.Proofs.YtgnbemgeiloegaaW.PrintLast Go.Proofs.YtgnbemgeiloegaaW.PrintMore
set_option linter.unusedVariables false
set_option linter.unusedSimpArgs false
open Go.Proofs.Ytgnbemgeiloegaa.PTypesGoods (S40 S42 S47 k40 k42 k47 rd_T40 rd_T42 rd_T47 at_T40 at_T42 at_T47)
open Classical
/-! A TABLE, AS THE PROGRAM HAS IT -/
def TwinP (x y : S40) : Prop := x.f0 = 9 ∧ y.f0 = 9 ∧ x.f1 = y.f1 ∧ x.f9 = y.f9 ∧ 0 ≤ x.f9
/-- so far: the first seven, and formed types behind them -/
structure Formed (t : List S40) : Prop where
  lo : 7 ≤ t.length
  bas : ∀ i : Int, 0 ≤ i → i < 7 → rd_T40 t i = bas i
  frm : ∀ i : Int, 7 ≤ i → i < t.length → formedP t (rd_T40 t i) = true
structure GoodP (t : List S40) : Prop where
  hi : t.length ≤ 256
  formed : Formed t
  sea : searchP t = true
  twin : ∀ i k : Int, 0 ≤ k → k < i → i < t.length → ¬ TwinP (rd_T40 t i) (rd_T40 t k)
  fld : t.any (badF t) = false
noncomputable def goodP (t : List S40) : Bool := decide (GoodP t)
theorem bare_is (x : S40) (i : Int) : PTypesGoods.tables_bare.f x.f0 x.f1 x.f2 x.f3 x.f4 x.f5 x.f6 x.f7 x.f8 x.f9 i = some (decide (x = bas i)) := by
  have e0 : (⟨#[]⟩ : ByteArray).toList = [] := by rw [ByteArray.toList_eq]
  have no : (¬ x = bas i) → some false = some (decide (x = bas i)) := fun h => by rw [decide_eq_false h]
  unfold PTypesGoods.tables_bare.f
  by_cases h0 : x.f0 = i
  rotate_left
  · rw [if_neg h0]; exact no (fun h => h0 (by rw [h]; rfl))
  rw [if_pos h0]
  by_cases h1 : x.f1.toList = ([] : List UInt8)
  rotate_left
  · rw [if_neg h1]; exact no (fun h => h1 (by rw [h]; exact e0))
  rw [if_pos h1]
  by_cases h2 : x.f2.toList = ([] : List UInt8)
  rotate_left
  · rw [if_neg h2]; exact no (fun h => h2 (by rw [h]; exact e0))
  rw [if_pos h2]
  by_cases h3 : x.f3 = 0
  rotate_left
  · rw [if_neg h3]; exact no (fun h => h3 (by rw [h]; rfl))
  rw [if_pos h3]
  by_cases h4 : x.f4 = 0
  rotate_left
  · rw [if_neg h4]; exact no (fun h => h4 (by rw [h]; rfl))
  rw [if_pos h4]
  by_cases h5 : x.f5 = 0
  rotate_left
  · rw [if_neg h5]; exact no (fun h => h5 (by rw [h]; rfl))
  rw [if_pos h5]
  by_cases h8 : x.f8 = 0
  rotate_left
  · rw [if_neg h8]; exact no (fun h => h8 (by rw [h]; rfl))
  rw [if_pos h8]
  by_cases h9 : x.f9 = 0
  rotate_left
  · rw [if_neg h9]; exact no (fun h => h9 (by rw [h]; rfl))
  rw [if_pos h9]
  by_cases h6 : (x.f6.length : Int) = 0
  rotate_left
  · rw [if_neg h6]; exact no (fun h => h6 (by rw [h]; rfl))
  rw [if_pos h6]
  by_cases h7 : (x.f7.length : Int) = 0
  rotate_left
  · rw [decide_eq_false (fun h => h7 (by rw [h]; rfl))]
    simpa using h7
  have g1 := bytes_eq (h1.trans e0.symm)
  have g2 := bytes_eq (h2.trans e0.symm)
  have g6 : x.f6 = [] := by cases h : x.f6 with | nil => rfl | cons a b => rw [h] at h6; simp at h6; omega
  have g7 : x.f7 = [] := by cases h : x.f7 with | nil => rfl | cons a b => rw [h] at h7; simp at h7; omega
  have e : x = bas i := by
    cases x
    simp only at *
    subst h0 g1 g2 h3 h4 h5 h8 h9 g6 g7
    rfl
  rw [decide_eq_true e]
  simp [h7]
theorem bare_calls {w : World} (x : S40) (i : Int) {A6 A7 : Option Addr} {c6 c7 : Nat} (C6 : Kd.C k42 w A6 x.f6.length x.f6) (l6 : x.f6.length ≤ c6) (C7 : Kd.C k47 w A7 x.f7.length x.f7) (l7 : x.f7.length ≤ c7) :
    Calls Try.prog 59 #[.agg #[.int .i64 x.f0, .string x.f1, .string x.f2, .int .i64 x.f3, .int .i64 x.f4, .int .i64 x.f5, .slice A6 x.f6.length c6, .slice A7 x.f7.length c7, .int .i64 x.f8, .int .i64 x.f9], .int .i64 i] w fun e w' => e = .returned (.bool (decide (x = bas i))) ∧ Below w.heap.size w w' :=
  PTypesGoods.tables_bare.calls _ _ _ _ _ _ _ _ _ _ _ _ _ _ i _ w C6 l6 C7 l7 (bare_is x i)
/-! what formed types hold -/
theorem formed_parts {t : List S40} {x : S40} (h : formedP t x = true) : okP t x = true ∧ namedP x = true ∧ x.f9 = (wantP x).f9 ∧ x.f3 = (wantP x).f3 ∧ x.f4 = (wantP x).f4 ∧ x.f5 = (wantP x).f5 ∧ x.f8 = (wantP x).f8 ∧ x.f6.length = (wantP x).f6.length ∧ x.f7.length = (wantP x).f7.length := by
  unfold formedP at h
  simp only [Bool.and_eq_true, decide_eq_true_eq] at h
  obtain ⟨h1, h2, h3, h4, h5, h6, h7, h8, h9⟩ := h
  exact ⟨h1, h2, h3, h4, h5, h6, h7, h8, h9⟩
theorem formed_rec {t : List S40} {x : S40} (h : formedP t x = true) (h9 : x.f0 = 9) : (x.f5 = 0 ∨ form t x.f5 = 9) ∧ x.f6.length ≤ 64 ∧ -1 ≤ x.f9 ∧ x.f9 < 64 ∧ ∀ f ∈ x.f6, isName f.f0 = true ∧ partP (form t f.f2) = true := by
  obtain ⟨h1, -⟩ := formed_parts h
  unfold okP at h1
  rw [if_neg (by omega), if_neg (by omega), if_pos h9] at h1
  unfold rec1P fieldsQ at h1
  simp only [Bool.and_eq_true, Bool.or_eq_true, decide_eq_true_eq, List.all_eq_true] at h1
  obtain ⟨⟨⟨⟨a, b⟩, c⟩, d⟩, e⟩ := h1
  exact ⟨a, b, c, d, e⟩
theorem formed_form {t : List S40} {x : S40} (h : formedP t x = true) : x.f0 = 7 ∨ x.f0 = 8 ∨ x.f0 = 9 ∨ x.f0 = 10 ∨ x.f0 = 11 := by
  obtain ⟨h1, -⟩ := formed_parts h
  by_cases h7 : x.f0 = 7
  · exact .inl h7
  by_cases h8 : x.f0 = 8
  · exact .inr (.inl h8)
  by_cases h9 : x.f0 = 9
  · exact .inr (.inr (.inl h9))
  by_cases h10 : x.f0 = 10
  · exact .inr (.inr (.inr (.inl h10)))
  by_cases h11 : x.f0 = 11
  · exact .inr (.inr (.inr (.inr h11)))
  · unfold okP at h1
    rw [if_neg h7, if_neg h8, if_neg h9, if_neg h10, if_neg h11] at h1
    cases h1
theorem formed_f9 {t : List S40} {x : S40} (h : formedP t x = true) : -1 ≤ x.f9 ∧ x.f9 < 64 := by
  by_cases h9 : x.f0 = 9
  · exact ⟨(formed_rec h h9).2.2.1, (formed_rec h h9).2.2.2.1⟩
  · obtain ⟨-, -, h3, -⟩ := formed_parts h
    rw [show (wantP x).f9 = 0 from if_neg h9] at h3
    omega
theorem part_at {t : List S40} {i : Int} (h : partP (form t i) = true) : At t.length i := by
  unfold partP at h
  have h' := of_decide_eq_true h
  unfold form at h'
  by_cases e : 0 ≤ i ∧ i < (t.length : Int)
  · exact e
  · rw [if_neg e] at h'; omega
theorem form_at {t : List S40} {i k : Int} (h : form t i = k) (hk : 0 ≤ k) : At t.length i := by
  unfold form at h
  by_cases e : 0 ≤ i ∧ i < (t.length : Int)
  · exact e
  · rw [if_neg e] at h; omega
theorem Formed.basics {t : List S40} (h : Formed t) : Basics t := ⟨h.lo, fun i h0 h7 => by rw [h.bas i h0 h7]; rfl⟩
theorem Formed.f9 {t : List S40} (h : Formed t) (a : Int) (h0 : 0 ≤ a) (h1 : a < t.length) : -1 ≤ (rd_T40 t a).f9 ∧ (rd_T40 t a).f9 < 64 := by
  by_cases h7 : a < 7
  · rw [h.bas a h0 h7]; exact ⟨(by decide : (-1 : Int) ≤ 0), (by decide : (0 : Int) < 64)⟩
  · exact formed_f9 (h.frm a (by omega) h1)
theorem Formed.chain {t : List S40} (h : Formed t) : Chain t := fun a h0 h1 h9 => by
  by_cases h7 : a < 7
  · rw [h.bas a h0 h7] at h9
    simp only [Tg.bas] at h9
    omega
  · exact (formed_rec (h.frm a (by omega) h1) h9).1
theorem Formed.within {t : List S40} (h : Formed t) : Within t := by
  have hlo := h.lo
  refine ⟨fun a ha b hb => ?_, fun a ha => ?_⟩
  · by_cases h7 : a < 7
    · rw [h.basics.insP a ha.1 h7] at hb
      cases hb
    · have hf := h.frm a (by omega) ha.2
      obtain ⟨h1, -⟩ := formed_parts hf
      unfold insP at hb
      by_cases e : (rd_T40 t a).f0 = 7 ∨ (rd_T40 t a).f0 = 8
      · rw [if_pos e] at hb
        rw [List.mem_singleton] at hb
        subst hb
        unfold okP at h1
        rcases e with e | e
        · rw [if_pos e] at h1
          simp only [Bool.and_eq_true] at h1
          exact part_at h1.2
        · rw [if_neg (by omega), if_pos e] at h1
          simp only [Bool.or_eq_true, decide_eq_true_eq] at h1
          rcases h1 with h1 | h1
          · exact part_at h1
          · exact form_at h1 (by omega)
      · rw [if_neg e] at hb
        by_cases h9 : (rd_T40 t a).f0 = 9
        · rw [if_pos h9] at hb
          obtain ⟨r1, -, -, -, r5⟩ := formed_rec hf h9
          rcases List.mem_cons.1 hb with rfl | hb
          · rcases r1 with r1 | r1
            · rw [r1]; exact ⟨by omega, by omega⟩
            · exact form_at r1 (by omega)
          · rw [List.mem_map] at hb
            obtain ⟨f, hf, rfl⟩ := hb
            exact part_at (r5 f hf).2
        · rw [if_neg h9] at hb
          cases hb
  · by_cases h7 : a < 7
    · rw [h.bas a ha.1 h7]; exact Nat.zero_le _
    · have hf := h.frm a (by omega) ha.2
      by_cases h9 : (rd_T40 t a).f0 = 9
      · exact (formed_rec hf h9).2.1
      · obtain ⟨-, -, -, -, -, -, -, h6, -⟩ := formed_parts hf
        rw [show (wantP (rd_T40 t a)).f6 = [] from if_neg h9] at h6
        simp at h6
        rw [h6]
        exact Nat.zero_le _
end Go.Proofs.Ytgnbemgeiloegaa.Tg
