import Derived.Test.YtgnbemgeiloegaaKTgT
namespace Go.Proofs.Ytgnbemgeiloegaa.Tg
open Go.RowKit Go.Maps Go.WideMaps
open Go.Proofs.YtgnbemgeiloegaaW.PrintWords Go.Proofs.YtgnbemgeiloegaaW.PrintLast Go.Proofs.YtgnbemgeiloegaaW.PrintMore
set_option linter.unusedVariables false
set_option linter.unusedSimpArgs false
open Go.Proofs.Ytgnbemgeiloegaa.PTypesGoods (S40 S42 S47 k40 k42 k47 rd_T40 rd_T42 rd_T47 at_T40 at_T42 at_T47)
/-- a record whose bases end after so many -/
def BaseCh (t : List S40) : Nat → Int → Prop
  | 0, _ => False
  | n + 1, a => InT t a ∧ (rd_T40 t a).f0 = 9 ∧ ((rd_T40 t a).f5 = 0 ∨ BaseCh t n (rd_T40 t a).f5)
theorem form_in {t : List S40} {i : Int} (h : InT t i) : form t i = (rd_T40 t i).f0 := by
  unfold form
  exact if_pos h
theorem chain_bases {t : List S40} : ∀ (n : Nat) (a : Int) (acc : List Int), InT t a → (rd_T40 t a).f0 = 9 → (basesP t n a acc).2 = true → BaseCh t n a
  | 0, a, acc, _, _, h => by simp [basesP] at h
  | n + 1, a, acc, ha, h9, h => by
    refine ⟨ha, h9, ?_⟩
    by_cases h0 : (rd_T40 t a).f5 = 0
    · exact .inl h0
    · right
      rw [basesP, if_neg h0] at h
      split at h
      · rename_i hp
        have hi : InT t (rd_T40 t a).f5 := place_at hp.1
        split at h
        · cases h
        · exact chain_bases n _ _ hi (by rw [← form_in hi]; exact hp.2) h
      · cases h
theorem gd_chain {t : List S40} (g : GoodR t) {a : Int} (ha : InT t a) (h9 : (rd_T40 t a).f0 = 9) : BaseCh t 6 a := by
  obtain ⟨_, hr⟩ := gd_rec g ha h9
  unfold recordP at hr
  simp only [Bool.and_eq_true, decide_eq_true_eq] at hr
  exact chain_bases 6 a [a] ha h9 hr.1.1.1
theorem chain_up {t : List S40} : ∀ (n : Nat) (a : Int), BaseCh t n a → BaseCh t (n + 1) a
  | 0, a, h => h.elim
  | n + 1, a, h => ⟨h.1, h.2.1, h.2.2.imp id (chain_up n _)⟩
/-- the records from one on, one base behind the other -/
def extF (t : List S40) : Nat → Int → Int → Bool
  | 0, _, _ => false
  | n + 1, a, b => sameT t a b || (decide ((rd_T40 t a).f5 ≠ 0) && extF t n (rd_T40 t a).f5 b)
/-- how many there are -/
def deep (t : List S40) : Nat → Int → Nat
  | 0, _ => 0
  | n + 1, a => if (rd_T40 t a).f5 = 0 then 1 else 1 + deep t n (rd_T40 t a).f5
theorem deep_eq {t : List S40} : ∀ (n m : Nat) (a : Int), BaseCh t n a → n ≤ m → deep t m a = deep t n a
  | 0, m, a, h, _ => h.elim
  | n + 1, 0, a, h, hm => by omega
  | n + 1, m + 1, a, h, hm => by
    rw [deep, deep]
    split
    · rfl
    · rename_i h0
      rcases h.2.2 with h1 | h1
      · exact absurd h1 h0
      · rw [deep_eq n m _ h1 (by omega)]
theorem ext_eq {t : List S40} {b : Int} : ∀ (n m : Nat) (a : Int), BaseCh t n a → n ≤ m → extF t m a b = extF t n a b
  | 0, m, a, h, _ => h.elim
  | n + 1, 0, a, h, hm => by omega
  | n + 1, m + 1, a, h, hm => by
    rw [extF, extF]
    rcases h.2.2 with h1 | h1
    · simp [h1]
    · rw [ext_eq n m _ h1 (by omega)]
/-- the loop's measure -/
def steps (t : List S40) (a : Int) : Nat := if a = 0 then 0 else deep t 7 a
/-- the program's tables.Extends -/
def extT (t : List S40) (a b : Int) : Bool :=
  if (rd_T40 t a).f0 ≠ (rd_T40 t b).f0 then false
  else if (rd_T40 t a).f0 = 10 then extF t 6 (rd_T40 t a).f4 (rd_T40 t b).f4
  else if (rd_T40 t a).f0 = 9 then extF t 6 a b
  else false
theorem steps_lt {t : List S40} {a : Int} (h : BaseCh t 6 a) (h0 : a ≠ 0) : steps t (rd_T40 t a).f5 < steps t a := by
  have e : deep t 7 a = if (rd_T40 t a).f5 = 0 then 1 else 1 + deep t 6 (rd_T40 t a).f5 := rfl
  unfold steps
  rw [if_neg h0, e]
  split
  · omega
  · rename_i h5
    rcases h.2.2 with h1 | h1
    · exact absurd h1 h5
    · rw [deep_eq 5 7 _ h1 (by omega), deep_eq 5 6 _ h1 (by omega)]; omega
theorem ext_next {t : List S40} {a b : Int} (h : BaseCh t 6 a) (hs : sameT t a b = false) : ((rd_T40 t a).f5 = 0 ∧ extF t 6 a b = false) ∨ (BaseCh t 6 (rd_T40 t a).f5 ∧ extF t 6 a b = extF t 6 (rd_T40 t a).f5 b) := by
  by_cases h5 : (rd_T40 t a).f5 = 0
  · exact .inl ⟨h5, by rw [extF, hs]; simp [h5]⟩
  · rcases h.2.2 with h1 | h1
    · exact absurd h1 h5
    · refine .inr ⟨chain_up _ _ h1, ?_⟩
      rw [extF, hs, ext_eq 5 6 _ h1 (by omega)]
      simp [h5]
theorem ext_hit {t : List S40} {a b : Int} (hs : sameT t a b = true) : extF t 6 a b = true := by rw [extF, hs]; rfl
set_option maxHeartbeats 16000000 in
set_option maxRecDepth 100000 in
theorem ext_rec_calls {w : World} {A : Option Addr} {c : Nat} {t : List S40} (hC : Kd.C k40 w A t.length t) (hc : t.length ≤ c) (hpm : Parms t) (hg : GoodR t) (a b : Int) (ha : BaseCh t 6 a) (hb : InT t b) (hb9 : (rd_T40 t b).f0 = 9) :
    Calls Try.prog 48 #[.slice A t.length c, .int .i64 a, .int .i64 b] w fun e w' => e = .returned (.bool (extF t 6 a b)) ∧ Below w.heap.size w w' := by
  have HC := Aside0.mk hC
  have HG := Aside0.mk hg
  have HP := Aside0.mk hpm
  have HA := Aside0.mk ha
  obtain ⟨⟨ha0, ha1⟩, ha9, -⟩ := ha
  obtain ⟨hb0, hb1⟩ := hb
  obtain ⟨ad, A6, c6, A7, c7, hA, p0, -, -, -, -, -, -, -, -, -, -, -, -, -⟩ := at_T40 hC a ha0 ha1
  subst hA
  obtain ⟨ad', B6, d6, B7, d7, hA, q0, -, -, -, -, -, -, -, -, -, -, -, -, -⟩ := at_T40 hC b hb0 hb1
  cases hA
  rw [ha9] at p0
  rw [hb9] at q0
  clear hC hg hpm hb9 ha9
  go_enter Try.func48, Try.ntmps48
  go_wp2
  go_quiet (fail)
  go_wp2
  clear p0 q0
  have HB0 : Aside0 (Below w.heap.size w w.drew) := ⟨below_drew (Below.refl _ _)⟩
  go_loopw [1] (fun i wr => ∃ (a1 : Int), i = .int .i64 a1 ∧ Aside0 ((a1 = 0 ∧ extF t 6 a b = false) ∨ (BaseCh t 6 a1 ∧ extF t 6 a b = extF t 6 a1 b)) ∧ Aside0 (Below w.heap.size w wr)) (fun i _ => steps t (intOf i))
  case atStart => exact ⟨a, rfl, ⟨.inr ⟨HA.out, rfl⟩⟩, ⟨by first | exact pw_below_drewN (Below.refl _ _) _ | exact HB0.out⟩⟩
  case round =>
    clear HB0
    obtain ⟨wo, rfl⟩ : ∃ wo : World, wo = wr := ⟨_, rfl⟩
    obtain ⟨a1, rfl, HR, HB⟩ := hrel
    by_cases h0 : a1 = 0
    · subst h0
      have R : Aside0 (extF t 6 a b = false) := ⟨by
        rcases HR.out with h | h
        · exact h.2
        · have := (gd_rec HG.out h.1.1 h.1.2.1).1
          omega⟩
      go_wp2
      go_ret
      rw [R.out]
      exact ⟨rfl, HB.out⟩
    · have b0 : (a1 != 0) = true := by simp [h0]
      have HR2 : Aside0 (BaseCh t 6 a1 ∧ extF t 6 a b = extF t 6 a1 b) := ⟨by
        rcases HR.out with h | h
        · exact absurd h.1 h0
        · exact h⟩
      have hin := HR2.out.1.1
      obtain ⟨i0, i1⟩ := hin
      obtain ⟨ad', D6, e6, D7, e7, hA, -, -, -, -, -, r5, -, -, -, -, -, -, -, -⟩ := at_T40 HC.out a1 i0 i1
      cases hA
      have HI : Aside0 (Inner t) := ⟨gd_inner HG.out⟩
      have HN := Aside0.mk (steps_lt HR2.out.1 h0)
      have hnx := Aside0.mk (fun (hs : sameT t a1 b = false) => ext_next HR2.out.1 hs)
      have hht := Aside0.mk (fun (hs : sameT t a1 b = true) => ext_hit hs)
      generalize (rd_T40 t a1).f5 = v5 at r5 HN hnx
      have R5 := Aside0.mk r5
      clear r5 HR
      have HT := Aside0.mk (Same_calls (Kd.C_below HC.out HB.out) hc HP.out HI.out a1 b ⟨i0, i1⟩ ⟨hb0, hb1⟩)
      replace h0 := Aside0.mk h0
      cases hs : sameT t a1 b with
      | true =>
        rw [hs] at HT
        have R : Aside0 (extF t 6 a b = true) := ⟨HR2.out.2.trans (hht.out hs)⟩
        clear hs hnx hht
        go_wp2_with (go_at_call 47; refine HT.out.mono ?_; rintro e w4 ⟨rfl, hb4⟩)
        go_ret
        rw [R.out]
        exact ⟨rfl, HB.out.trans (hb4.mono HB.out.size)⟩
      | false =>
        rw [hs] at HT
        have R := Aside0.mk (hnx.out hs)
        clear hs hnx hht
        go_wp2_with (go_at_call 47; refine HT.out.mono ?_; rintro e w4 ⟨rfl, hb4⟩; have HB4 := Aside0.mk (HB.out.trans (hb4.mono HB.out.size)); clear hb4; have r5 := (HB4.out.cell (World.block_lt_of_cell? w _ R5.out)).trans R5.out)
        go_roundw
        case rel => exact ⟨v5, rfl, ⟨by
          rcases R.out with h | h
          · exact .inl ⟨h.1, HR2.out.2.trans h.2⟩
          · exact .inr ⟨h.1, HR2.out.2.trans h.2⟩⟩, HB4⟩
        case measure => exact HN.out
set_option maxHeartbeats 16000000 in
set_option maxRecDepth 100000 in
theorem Extends_calls {w : World} {A : Option Addr} {c : Nat} {t : List S40} (hC : Kd.C k40 w A t.length t) (hc : t.length ≤ c) (hpm : Parms t) (hg : GoodR t) (a b : Int) (ha : InT t a) (hb : InT t b) :
    Calls Try.prog 48 #[.slice A t.length c, .int .i64 a, .int .i64 b] w fun e w' => e = .returned (.bool (extT t a b)) ∧ Below w.heap.size w w' := by
  have HC := Aside0.mk hC
  have HG := Aside0.mk hg
  have HP := Aside0.mk hpm
  obtain ⟨ha0, ha1⟩ := ha
  obtain ⟨hb0, hb1⟩ := hb
  by_cases hab : (rd_T40 t a).f0 = (rd_T40 t b).f0
  · by_cases h9 : (rd_T40 t a).f0 = 9
    · have e : extT t a b = extF t 6 a b := by unfold extT; rw [if_neg (fun h => h hab), if_neg (by omega), if_pos h9]
      rw [e]
      exact ext_rec_calls hC hc hpm hg a b (gd_chain hg ⟨ha0, ha1⟩ h9) ⟨hb0, hb1⟩ (hab ▸ h9)
    obtain ⟨ad, A6, c6, A7, c7, hA, p0, -, -, -, p4, -, -, -, -, -, -, -, -, -⟩ := at_T40 hC a ha0 ha1
    subst hA
    obtain ⟨ad', B6, d6, B7, d7, hA, q0, -, -, -, q4, -, -, -, -, -, -, -, -, -⟩ := at_T40 hC b hb0 hb1
    cases hA
    rw [← hab] at q0
    by_cases h10 : (rd_T40 t a).f0 = 10
    · have R : Aside0 (extT t a b = extF t 6 (rd_T40 t a).f4 (rd_T40 t b).f4) := ⟨by unfold extT; rw [if_neg (fun h => h hab), if_pos h10]⟩
      obtain ⟨ea, ea9⟩ := gd_ptr hg ⟨ha0, ha1⟩ h10
      obtain ⟨eb, eb9⟩ := gd_ptr hg ⟨hb0, hb1⟩ (hab ▸ h10)
      rw [form_in ea] at ea9
      rw [form_in eb] at eb9
      have HE := Aside0.mk (gd_chain hg ea ea9)
      have EB := Aside0.mk eb
      have EB9 := Aside0.mk eb9
      rw [h10] at p0 q0
      clear hC hg hpm hab h9 h10 ea ea9 eb eb9
      generalize (rd_T40 t a).f4 = a4 at p4 HE R
      generalize (rd_T40 t b).f4 = b4 at q4 EB EB9 R
      go_enter Try.func48, Try.ntmps48
      go_wp2
      go_quiet (fail)
      go_wp2
      have KP : Aside0 (∀ w9, Below w.heap.size w w9 → w9.cell? ⟨(ad.add (a.toNat * 10)).block, (ad.add (a.toNat * 10)).off + 4, none⟩ = some (.int .i64 a4) ∧ w9.cell? ⟨(ad.add (b.toNat * 10)).block, (ad.add (b.toNat * 10)).off + 4, none⟩ = some (.int .i64 b4)) := ⟨fun w9 hb => ⟨(hb.cell (World.block_lt_of_cell? w _ p4)).trans p4, (hb.cell (World.block_lt_of_cell? w _ q4)).trans q4⟩⟩
      go_region_held3 (fun w7 => w7.cell? ⟨(ad.add (a.toNat * 10)).block, (ad.add (a.toNat * 10)).off + 4, none⟩ = some (.int .i64 a4) ∧ w7.cell? ⟨(ad.add (b.toNat * 10)).block, (ad.add (b.toNat * 10)).off + 4, none⟩ = some (.int .i64 b4)) (first | go_keep | exact ⟨p4, q4⟩ | exact KP.out _ hB4.out) ((go_at_call 48; refine (ext_rec_calls (Kd.C_below HC.out (by first | exact pw_below_drewN (Below.refl _ _) _ | exact below_drew (pw_below_drewN (Below.refl _ _) _) | exact below_drew (Below.refl _ _))) hc HP.out HG.out a4 b4 HE.out EB.out EB9.out).mono ?_; rintro e w4 ⟨rfl, hb4⟩; have hB4 := Aside0.mk (Below.trans (by first | exact pw_below_drewN (Below.refl _ _) _ | exact below_drew (pw_below_drewN (Below.refl _ _) _) | exact below_drew (Below.refl _ _) : Below w.heap.size w _) hb4); clear hb4))
      all_goals
        go_wp2
        go_ret
        rw [R.out]
        exact ⟨rfl, hB4.out⟩
    · have R : Aside0 (extT t a b = false) := ⟨by unfold extT; rw [if_neg (fun h => h hab), if_neg h10, if_neg h9]⟩
      have b9 : ((rd_T40 t a).f0 == 9) = false := by simp [h9]
      have b10 : ((rd_T40 t a).f0 == 10) = false := by simp [h10]
      have bn : ((rd_T40 t a).f0 != (rd_T40 t a).f0) = false := by simp
      clear hC hg hpm hab h9 h10 p4 q4
      generalize (rd_T40 t a).f0 = f at p0 q0 b9 b10 bn
      go_enter Try.func48, Try.ntmps48
      go_wp2
      go_quiet (fail)
      go_wp2
      go_ret
      rw [R.out]
      exact ⟨rfl, by first | exact pw_below_drewN (Below.refl _ _) _ | exact below_drew (Below.refl _ _)⟩
  · have R : Aside0 (extT t a b = false) := ⟨by unfold extT; rw [if_pos hab]⟩
    obtain ⟨ad, A6, c6, A7, c7, hA, p0, -, -, -, -, -, -, -, -, -, -, -, -, -⟩ := at_T40 hC a ha0 ha1
    subst hA
    obtain ⟨ad', B6, d6, B7, d7, hA, q0, -, -, -, -, -, -, -, -, -, -, -, -, -⟩ := at_T40 hC b hb0 hb1
    cases hA
    have bn : ((rd_T40 t a).f0 != (rd_T40 t b).f0) = true := by simp [hab]
    clear hC hg hpm hab
    generalize (rd_T40 t a).f0 = f at p0 bn
    generalize (rd_T40 t b).f0 = f2 at q0 bn
    go_enter Try.func48, Try.ntmps48
    go_wp2
    go_quiet (fail)
    go_wp2
    go_ret
    rw [R.out]
    exact ⟨rfl, by first | exact pw_below_drewN (Below.refl _ _) _ | exact below_drew (Below.refl _ _)⟩
end Go.Proofs.Ytgnbemgeiloegaa.Tg
