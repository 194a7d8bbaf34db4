import Derived.Test.YtgnbemgeiloegaaKPTypesGoodsx1
namespace Go.Proofs.Ytgnbemgeiloegaa.Tg
open Go.RowKit
open Go.Proofs.YtgnbemgeiloegaaW.PrintWords Go.Proofs.YtgnbemgeiloegaaW.PrintLast Go.Proofs.YtgnbemgeiloegaaW.PrintMore
set_option linter.unusedVariables false
set_option linter.unusedSimpArgs false
open Go.Proofs.Ytgnbemgeiloegaa.PTypesGoods (S40 S42 S47 k40 k42 k47 rd_T40 rd_T42 rd_T47 at_T40 at_T42 at_T47 spinetlaw13_Large.f spinetlaw13_Large.l0)
/-! WHAT IS TOO LARGE -/
/-- what is read of a table that a call is given -/
structure Lim (t : List S40) : Prop where
  f1 : ∀ x ∈ t, x.f1.size ≤ 281474976710656
  f2 : ∀ x ∈ t, x.f2.size ≤ 281474976710656
  f6 : ∀ x ∈ t, x.f6.length ≤ 281474976710656
  f7 : ∀ x ∈ t, x.f7.length ≤ 281474976710656
  n6 : ∀ x ∈ t, ∀ f ∈ x.f6, f.f0.size ≤ 281474976710656
theorem wr64 {x : Int} (h : -9223372036854775808 ≤ x ∧ x ≤ 9223372036854775807) : wrap64 x = x := by
  unfold wrap64
  omega
def amt (x : S40) : Int := (x.f6.length : Int) + (x.f7.length : Int) + (x.f2.size : Int) / 50 + (x.f1.size : Int) / 50
theorem amt_aux (a b c d acc : Int) (ha : 0 ≤ a ∧ a ≤ 281474976710656) (hb : 0 ≤ b ∧ b ≤ 281474976710656) (hc : 0 ≤ c ∧ c ≤ 281474976710656) (hd : 0 ≤ d ∧ d ≤ 281474976710656) (h : 0 ≤ acc ∧ acc ≤ 3000) :
    wrap64 (acc + wrap64 (wrap64 (wrap64 (a + b) + wrap64 (c / 50)) + wrap64 (d / 50))) = acc + (a + b + c / 50 + d / 50) := by
  have c1 : 0 ≤ c / 50 ∧ c / 50 ≤ 281474976710656 := by omega
  have d1 : 0 ≤ d / 50 ∧ d / 50 ≤ 281474976710656 := by omega
  generalize c / 50 = c' at c1 ⊢
  generalize d / 50 = d' at d1 ⊢
  rw [wr64 (x := a + b) (by omega), wr64 (x := c') (by omega), wr64 (x := d') (by omega), wr64 (x := a + b + c') (by omega), wr64 (x := a + b + c' + d') (by omega), wr64 (by omega)]
theorem rd_mem40 {t : List S40} {i : Int} (h0 : 0 ≤ i) (h1 : i < (t.length : Int)) : rd_T40 t i ∈ t := by
  have hlt : i.toNat < t.length := by omega
  have e : rd_T40 t i = t[i.toNat] := by
    unfold rd_T40
    rw [List.getD_eq_getElem?_getD, List.getElem?_eq_getElem hlt]; rfl
  rw [e]; exact List.getElem_mem hlt
theorem large_more (k : Nat) (t : List S40) (acc i b : Int) (h1 : i < (t.length : Int)) (h0 : 0 ≤ i)
    (hb : wrap64 (acc + wrap64 (wrap64 (wrap64 (((rd_T40 t i).f6.length : Int) + ((rd_T40 t i).f7.length : Int)) + wrap64 (((rd_T40 t i).f2.size : Int) / 50)) + wrap64 (((rd_T40 t i).f1.size : Int) / 50))) = b) :
    spinetlaw13_Large.l0 (k + 1) t acc i = if b > 3000 then some true else spinetlaw13_Large.l0 k t b (wrap64 (i + 1)) := by
  rw [spinetlaw13_Large.l0, if_pos h1, if_pos h0, hb]
theorem large_stop (k : Nat) (t : List S40) (acc i : Int) (h1 : ¬ i < (t.length : Int)) : spinetlaw13_Large.l0 (k + 1) t acc i = some false := by
  rw [spinetlaw13_Large.l0, if_neg h1]
theorem large_run {t : List S40} (hL : Lim t) (h3 : t.length ≤ 300) : ∀ (n i : Nat) (acc : Int), i + n = t.length → 0 ≤ acc ∧ acc ≤ 3000 →
    ∃ r, Ev (fun k => spinetlaw13_Large.l0 k t acc (i : Int)) r ∧ (r = false → ∀ j : Nat, i ≤ j → j < t.length → (rd_T40 t (j : Int)).f6.length ≤ 3000 ∧ (rd_T40 t (j : Int)).f7.length ≤ 3000)
  | 0, i, acc, hi, ha => ⟨false, Ev.step (f := fun _ => some false) (fun k => large_stop k t acc i (by omega)) (Ev.now _), fun _ j hj hj2 => by omega⟩
  | n + 1, i, acc, hi, ha => by
    have hlt : (i : Int) < (t.length : Int) := by omega
    have hge : 0 ≤ (i : Int) := by omega
    have hm : rd_T40 t (i : Int) ∈ t := rd_mem40 hge hlt
    have s1 := hL.f1 _ hm
    have s2 := hL.f2 _ hm
    have s6 := hL.f6 _ hm
    have s7 := hL.f7 _ hm
    have hi' : i + 1 + n = t.length := by omega
    have e0 : wrap64 ((i : Int) + 1) = ((i + 1 : Nat) : Int) := by rw [wr64 (by omega)]; omega
    have hb := amt_aux ((rd_T40 t (i : Int)).f6.length : Int) ((rd_T40 t (i : Int)).f7.length : Int) ((rd_T40 t (i : Int)).f2.size : Int) ((rd_T40 t (i : Int)).f1.size : Int) acc ⟨by omega, by omega⟩ ⟨by omega, by omega⟩ ⟨by omega, by omega⟩ ⟨by omega, by omega⟩ ha
    have hst := fun k => large_more k t acc i _ hlt hge hb
    rw [e0] at hst
    have hbig : 0 ≤ amt (rd_T40 t (i : Int)) ∧ ((rd_T40 t (i : Int)).f6.length : Int) ≤ amt (rd_T40 t (i : Int)) ∧ ((rd_T40 t (i : Int)).f7.length : Int) ≤ amt (rd_T40 t (i : Int)) := by
      unfold amt; omega
    change ∀ k, _ = if acc + amt (rd_T40 t (i : Int)) > 3000 then _ else _ at hst
    have hst2 : ∀ k, spinetlaw13_Large.l0 (k + 1) t acc (i : Int) = if acc + amt (rd_T40 t (i : Int)) > 3000 then some true else spinetlaw13_Large.l0 k t (acc + amt (rd_T40 t (i : Int))) ((i + 1 : Nat) : Int) := hst
    by_cases hgt : acc + amt (rd_T40 t (i : Int)) > 3000
    · refine ⟨true, Ev.step (f := fun _ => some true) (fun k => ?_) (Ev.now _), fun h => by cases h⟩
      rw [hst2, if_pos hgt]
    · obtain ⟨r, hr, hp⟩ := large_run hL h3 n (i + 1) (acc + amt (rd_T40 t (i : Int))) hi' ⟨by omega, by omega⟩
      refine ⟨r, Ev.step (fun k => ?_) hr, fun h j hj hj2 => ?_⟩
      · rw [hst2, if_neg hgt]
      · rcases Nat.eq_or_lt_of_le hj with rfl | hj3
        · omega
        · exact hp h j hj3 hj2
theorem large_is {t : List S40} (hL : Lim t) : ∃ r, Ev (fun k => spinetlaw13_Large.f k t) r ∧ (r = false → t.length ≤ 300 ∧ ∀ x ∈ t, x.f7.length ≤ 4000 ∧ x.f6.length ≤ 4000) := by
  by_cases h3 : (t.length : Int) > 300
  · refine ⟨true, Ev.congr (f := fun _ => some true) (fun k => ?_) (Ev.now _), fun h => by cases h⟩
    rw [spinetlaw13_Large.f, if_pos h3]
  · obtain ⟨r, hr, hp⟩ := large_run hL (by omega) t.length 0 0 (by omega) ⟨by omega, by omega⟩
    refine ⟨r, Ev.congr (fun k => ?_) hr, fun h => ⟨by omega, fun x hx => ?_⟩⟩
    · rw [spinetlaw13_Large.f, if_neg h3]; rfl
    · obtain ⟨j, hj, rfl⟩ := List.mem_iff_getElem.1 hx
      have := hp h j (Nat.zero_le _) hj
      have e : rd_T40 t (j : Int) = t[j] := by
        unfold rd_T40
        rw [Int.toNat_natCast, List.getD_eq_getElem?_getD, List.getElem?_eq_getElem hj]; rfl
      rw [e] at this
      omega
end Go.Proofs.Ytgnbemgeiloegaa.Tg
