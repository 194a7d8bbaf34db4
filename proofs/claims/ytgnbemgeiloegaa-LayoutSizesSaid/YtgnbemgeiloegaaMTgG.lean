import Derived.Test.YtgnbemgeiloegaaMTgX
import Derived.Test.YtgnbemgeiloegaaMTgAl
import Derived.Test.YtgnbemgeiloegaaMTgDfs3
namespace Go.Proofs.Ytgnbemgeiloegaa.Tg
open Go.RowKit Go.Maps Go.WideMaps
open Go.Proofs.YtgnbemgeiloegaaW.PrintWords Go.Proofs.YtgnbemgeiloegaaW.PrintLast Go.Proofs.YtgnbemgeiloegaaW.PrintMore
set_option linter.unusedVariables false
set_option linter.unusedSimpArgs false
open Go.Proofs.Ytgnbemgeiloegaa.PTypesGoods (S40 S42 S47 k40 k42 k47 rd_T40 rd_T42 rd_T47 at_T40 at_T42 at_T47)
open Classical
theorem wrap_succ {i : Nat} (h : i < 5000) : wrap64 ((i : Int) + 1) = ((i + 1 : Nat) : Int) := by unfold wrap64; omega
def bas (i : Int) : S40 := ⟨i, ⟨#[]⟩, ⟨#[]⟩, 0, 0, 0, [], [], 0, 0⟩
def basics : List S40 := [bas 0, bas 1, bas 2, bas 3, bas 4, bas 5, bas 6]
theorem basic_is : PTypesGoods.spinetref13_Basic.f 9 = some basics := by kernel_rfl
theorem rd_basics (i : Int) (h0 : 0 ≤ i) (h7 : i < 7) : rd_T40 basics i = bas i := by
 have : i = 0 ∨ i = 1 ∨ i = 2 ∨ i = 3 ∨ i = 4 ∨ i = 5 ∨ i = 6 := by omega
 rcases this with h | h | h | h | h | h | h <;> subst h <;> rfl
def Twin (x y : S40) : Prop := x.f0 = 9 ∧ y.f0 = 9 ∧ x.f1 = y.f1 ∧ x.f9 = y.f9 ∧ x.f9 ≠ -1
structure GoodR (t : List S40) : Prop where
 lo : 7 ≤ t.length
 hi : t.length ≤ 256
 bas : ∀ i : Int, 0 ≤ i → i < 7 → rd_T40 t i = bas i
 one : ∀ i : Int, 7 ≤ i → i < t.length → oneP t i = true
 sea : searchR t = true
 twin : ∀ i k : Int, 7 ≤ k → k < i → i < t.length → ¬ Twin (rd_T40 t i) (rd_T40 t k)
noncomputable def goodR (t : List S40) : Bool := decide (GoodR t)
theorem k42_heap : Kd.Heap k42 := Kd.heap_iso _ (Kd.heap_pair Kd.heap_string (Kd.heap_pair Kd.heap_bool (Kd.heap_int .i64)))
theorem k47_heap : Kd.Heap k47 := Kd.heap_iso _ (Kd.heap_pair Kd.heap_bool (Kd.heap_int .i64))
theorem k40_heap : Kd.Heap k40 := Kd.heap_iso _ (Kd.heap_pair (Kd.heap_int .i64) (Kd.heap_pair Kd.heap_string (Kd.heap_pair Kd.heap_string (Kd.heap_pair (Kd.heap_int .i64) (Kd.heap_pair (Kd.heap_int .i64) (Kd.heap_pair (Kd.heap_int .i64) (Kd.heap_pair (Kd.heap_slice 42 k42_heap) (Kd.heap_pair (Kd.heap_slice 47 k47_heap) (Kd.heap_pair (Kd.heap_int .i64) (Kd.heap_int .i64))))))))))
theorem place_at {t : List S40} {i : Int} (h : placeP t i = true) : At t.length i := by
 have h' : 0 ≤ i ∧ i < (t.length : Int) := by simpa [placeP] using h
 exact h'
theorem holds_at {t : List S40} {i : Int} (h : holdsP t i = true) : At t.length i := by
 unfold holdsP at h
 have : placeP t i = true := by cases hp : placeP t i <;> simp [hp] at h ⊢
 exact place_at this
theorem fields_at {t : List S40} : ∀ (l : List S42) (S S' : List ByteArray), fieldsP t S l = some S' → ∀ f ∈ l, At t.length f.f2 ∧ holdsP t f.f2 = true ∧ isName f.f0 = true
 | [], S, S', h => fun f hf => by cases hf
 | x :: xs, S, S', h => by
  simp only [fieldsP] at h
  split at h
  · cases h
  ·
   rename_i hc
   have hh : holdsP t x.f2 = true := by
    cases hp : holdsP t x.f2 <;> simp [hp] at hc ⊢
   have hn : isName x.f0 = true := by
    cases hp : isName x.f0 <;> simp [hp] at hc ⊢
   intro f hf
   rcases List.mem_cons.1 hf with rfl | hf
   · exact ⟨holds_at hh, hh, hn⟩
   · exact fields_at xs _ _ h f hf
theorem record_at {t : List S40} {a : Int} (h : recordP t a = true) : (rd_T40 t a).f6.length ≤ 64 ∧ ((rd_T40 t a).f5 = 0 ∨ placeP t (rd_T40 t a).f5 = true ∧ form t (rd_T40 t a).f5 = 9) ∧ ∀ f ∈ (rd_T40 t a).f6, At t.length f.f2 ∧ holdsP t f.f2 = true ∧ isName f.f0 = true := by
 unfold recordP at h
 simp only [Bool.and_eq_true, decide_eq_true_eq] at h
 obtain ⟨⟨⟨h1, h2⟩, h3⟩, h4⟩ := h
 have hb : (rd_T40 t a).f5 = 0 ∨ placeP t (rd_T40 t a).f5 = true ∧ form t (rd_T40 t a).f5 = 9 := by
  by_cases h0 : (rd_T40 t a).f5 = 0
  · exact .inl h0
  ·
   right
   rw [basesP, if_neg h0] at h1
   by_cases hp : placeP t (rd_T40 t a).f5 = true ∧ form t (rd_T40 t a).f5 = 9
   · exact hp
   · rw [if_neg hp] at h1; cases h1
 refine ⟨h3, hb, ?_⟩
 have hhead : ∃ r, (basesP t 6 a [a]).1 = a :: r := by
  have key : ∀ (n : Nat) (x : Int) (acc : List Int), (basesP t n x acc).2 = true → ∃ r, (basesP t n x acc).1 = acc ++ r := by
   intro n
   induction n with
   | zero => intro x acc h; simp [basesP] at h
   | succ n ih =>
    intro x acc h
    rw [basesP] at h ⊢
    split
    · exact ⟨[], by simp⟩
    ·
     rename_i hn0
     rw [if_neg hn0] at h
     split
     ·
      rename_i hp
      rw [if_pos hp] at h
      split
      · rename_i h5; rw [if_pos h5] at h; cases h
      ·
       rename_i h5
       rw [if_neg h5] at h
       obtain ⟨r, hr⟩ := ih _ _ h
       exact ⟨[(rd_T40 t x).f5] ++ r, by rw [hr, List.append_assoc]⟩
     · rename_i hp; rw [if_neg hp] at h; cases h
  obtain ⟨r, hr⟩ := key 6 a [a] h1
  exact ⟨r, by rw [hr]; rfl⟩
 obtain ⟨r, hr⟩ := hhead
 rw [hr] at h4
 simp only [recsP] at h4
 split at h4
 · cases h4
 ·
  cases hf : fieldsP t [] (rd_T40 t a).f6 with
  | none => rw [hf] at h4; cases h4
  | some S' => exact fields_at _ _ _ hf
theorem one_parts {t : List S40} {a : Int} (h : oneP t a = true) : bad2 (rd_T40 t a) = false ∧ bad4 (rd_T40 t a) = false ∧ bad6 (rd_T40 t a) = false ∧ caseP t a (rd_T40 t a) = true := by
 unfold oneP oneX at h
 cases h2 : bad2 (rd_T40 t a) <;> cases h4 : bad4 (rd_T40 t a) <;> cases h6 : bad6 (rd_T40 t a) <;> cases hc : caseP t a (rd_T40 t a) <;> simp [h2, h4, h6, hc] at h ⊢
theorem one_form {t : List S40} {a : Int} (h : oneP t a = true) : (rd_T40 t a).f0 = 7 ∨ (rd_T40 t a).f0 = 8 ∨ (rd_T40 t a).f0 = 9 ∨ (rd_T40 t a).f0 = 10 ∨ (rd_T40 t a).f0 = 11 := by
 obtain ⟨_, _, _, hc⟩ := one_parts h
 by_cases h7 : (rd_T40 t a).f0 = 7
 · exact .inl h7
 by_cases h8 : (rd_T40 t a).f0 = 8
 · exact .inr (.inl h8)
 by_cases h9 : (rd_T40 t a).f0 = 9
 · exact .inr (.inr (.inl h9))
 by_cases h10 : (rd_T40 t a).f0 = 10
 · exact .inr (.inr (.inr (.inl h10)))
 by_cases h11 : (rd_T40 t a).f0 = 11
 · exact .inr (.inr (.inr (.inr h11)))
 ·
  unfold caseP at hc
  rw [if_neg h7, if_neg h8, if_neg h10, if_neg h9, if_neg h11] at hc
  cases hc
theorem one_record {t : List S40} {a : Int} (h : oneP t a = true) (h9 : (rd_T40 t a).f0 = 9) : recordP t a = true := by
 obtain ⟨_, _, _, hc⟩ := one_parts h
 unfold caseP at hc
 rwa [if_neg (by omega), if_neg (by omega), if_neg (by omega), if_pos h9] at hc
structure Ones (t : List S40) : Prop where
 lo : 7 ≤ t.length
 bas : ∀ i : Int, 0 ≤ i → i < 7 → rd_T40 t i = bas i
 one : ∀ i : Int, 7 ≤ i → i < t.length → oneP t i = true
theorem Ones.basics {t : List S40} (h : Ones t) : Basics t := ⟨h.lo, fun i h0 h7 => by rw [h.bas i h0 h7]; rfl⟩
theorem Ones.within {t : List S40} (h : Ones t) : Within t := by
 have hlo := h.lo
 refine ⟨fun a ha b hb => ?_, fun a ha => ?_⟩
 ·
  by_cases h7 : a < 7
  ·
   rw [h.basics.insP a ha.1 h7] at hb
   cases hb
  ·
   have ho := h.one a (by omega) ha.2
   obtain ⟨_, _, _, hc⟩ := one_parts ho
   unfold insP at hb
   by_cases e : (rd_T40 t a).f0 = 7 ∨ (rd_T40 t a).f0 = 8
   ·
    rw [if_pos e] at hb
    rw [List.mem_singleton] at hb
    subst hb
    unfold caseP at hc
    rcases e with e | e
    ·
     rw [if_pos e] at hc
     simp only [Bool.and_eq_true] at hc
     exact holds_at hc.2
    ·
     rw [if_neg (by omega), if_pos e] at hc
     simp only [Bool.or_eq_true, Bool.and_eq_true] at hc
     rcases hc with hc | hc
     · exact holds_at hc
     · exact place_at hc.1
   ·
    rw [if_neg e] at hb
    by_cases h9 : (rd_T40 t a).f0 = 9
    ·
     rw [if_pos h9] at hb
     obtain ⟨r1, r2, r3⟩ := record_at (one_record ho h9)
     rcases List.mem_cons.1 hb with rfl | hb
     ·
      rcases r2 with r2 | r2
      · rw [r2]; exact ⟨by omega, by omega⟩
      · exact place_at r2.1
     ·
      rw [List.mem_map] at hb
      obtain ⟨f, hf, rfl⟩ := hb
      exact (r3 f hf).1
    ·
     rw [if_neg h9] at hb
     cases hb
 ·
  by_cases h7 : a < 7
  · rw [h.bas a ha.1 h7]; exact Nat.zero_le _
  ·
   have ho := h.one a (by omega) ha.2
   obtain ⟨_, _, h6, _⟩ := one_parts ho
   by_cases h9 : (rd_T40 t a).f0 = 9
   · exact (record_at (one_record ho h9)).1
   ·
    have : (rd_T40 t a).f6.length = 0 := by
     by_cases e : (rd_T40 t a).f6.length = 0
     · exact e
     ·
      exfalso
      have e1 : decide ((rd_T40 t a).f0 ≠ 9) = true := decide_eq_true h9
      have e2 : decide (((rd_T40 t a).f6.length : Int) > 0) = true := decide_eq_true (by omega)
      unfold bad6 at h6
      rw [e1, e2] at h6
      simp at h6
    omega
end Go.Proofs.Ytgnbemgeiloegaa.Tg
