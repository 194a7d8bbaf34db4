import Derived.Test.YtgnbemgeiloegaaMTgSm
import Derived.Test.YtgnbemgeiloegaaMTgG
namespace Go.Proofs.Ytgnbemgeiloegaa.Tg
open Go.RowKit Go.Maps Go.WideMaps
open Go.Proofs.YtgnbemgeiloegaaW.PrintWords Go.Proofs.YtgnbemgeiloegaaW.PrintLast Go.Proofs.YtgnbemgeiloegaaW.PrintMore
set_option linter.unusedVariables false
set_option linter.unusedSimpArgs false
open Go.Proofs.Ytgnbemgeiloegaa.PTypesGoods (S40 S42 S47 k40 k42 k47 rd_T40 rd_T42 rd_T47 at_T40 at_T42 at_T47)
theorem same_at {t : List S40} {w0 : World} {A : Option Addr} {c g : Nat} (hI : Inner t) (hC : Kd.C k40 w0 A t.length t) (hc : t.length ≤ c) (hpm : Parms t) (hgw : w0.heap.size ≤ g) : ∀ n, SameAt t w0 A c g n
 | 0 => fun p a b w hp ha hb hf hw => absurd hp.len (by omega)
 | n + 1 => same_succ hI hC hc hpm hgw (same_at hI hC hc hpm hgw n)
def sameT (t : List S40) (a b : Int) : Bool := (sameF t (t.length * t.length + 1) [] a b).1
set_option maxHeartbeats 4000000 in
theorem Same_calls {w : World} {A : Option Addr} {c : Nat} {t : List S40} (hC : Kd.C k40 w A t.length t) (hc : t.length ≤ c) (hpm : Parms t) (hI : Inner t) (a b : Int) (ha : InT t a) (hb : InT t b) :
 Calls Try.prog 47 #[.slice A t.length c, .int .i64 a, .int .i64 b] w fun e w' => e = .returned (.bool (sameT t a b)) ∧ Below w.heap.size w w' := by
 have hW : WP w w.heap.size [] (w.alloc (.map #[] 0)) := ⟨by rw [metP_nil]; exact MapG.made 83 w, below_alloc (Below.refl _ _) _⟩
 have hS := Aside0.mk (same_at hI hC hc hpm (Nat.le_refl w.heap.size) (t.length * t.length + 1) [] a b _ (Pok.nil t) ha hb (by simp) hW)
 clear hC hpm hI hW
 have hmm := @run_makeMap Try.prog
 go_enter Try.func47, Try.ntmps47
 go_wp2_with (go_at_call 65; refine hS.out.mono ?_; rintro e w4 ⟨rfl, hW4, hK4⟩)
 go_ret
 exact ⟨rfl, hW4.below⟩
theorem gd_ones {t : List S40} (g : GoodR t) : Ones t := ⟨g.lo, g.bas, g.one⟩
theorem gd_case {t : List S40} (g : GoodR t) {a : Int} (ha : InT t a) : (rd_T40 t a = bas a ∧ a < 7) ∨ (7 ≤ a ∧ caseP t a (rd_T40 t a) = true ∧ ((rd_T40 t a).f0 = 7 ∨ (rd_T40 t a).f0 = 8 ∨ (rd_T40 t a).f0 = 9 ∨ (rd_T40 t a).f0 = 10 ∨ (rd_T40 t a).f0 = 11)) := by
 by_cases h7 : a < 7
 · exact .inl ⟨g.bas a ha.1 h7, h7⟩
 ·
  have ho := g.one a (by omega) ha.2
  exact .inr ⟨by omega, (one_parts ho).2.2.2, one_form ho⟩
theorem gd_zero {t : List S40} (g : GoodR t) : InT t 0 := ⟨Int.le_refl 0, by have := g.lo; omega⟩
theorem par_at {t : List S40} {i : Int} (h : parP t i = true) : InT t i := by
 unfold parP at h
 simp only [Bool.or_eq_true, Bool.and_eq_true] at h
 rcases h with h | h
 · exact holds_at h
 · exact place_at h.1
theorem gd_arr {t : List S40} (g : GoodR t) {a : Int} (ha : InT t a) (h : (rd_T40 t a).f0 = 7) : holdsP t (rd_T40 t a).f4 = true ∧ 1 ≤ (rd_T40 t a).f3 ∧ (rd_T40 t a).f3 ≤ 4096 := by
 rcases gd_case g ha with ⟨e, e7⟩ | ⟨_, hc, _⟩
 ·
  rw [e] at h
  have : a = 7 := h
  omega
 ·
  unfold caseP at hc
  rw [if_pos h] at hc
  simp only [Bool.and_eq_true, decide_eq_true_eq] at hc
  exact ⟨hc.2, hc.1.1, hc.1.2⟩
theorem gd_opn {t : List S40} (g : GoodR t) {a : Int} (ha : InT t a) (h : (rd_T40 t a).f0 = 8) : holdsP t (rd_T40 t a).f4 = true ∨ placeP t (rd_T40 t a).f4 = true ∧ form t (rd_T40 t a).f4 = 8 := by
 rcases gd_case g ha with ⟨e, e7⟩ | ⟨_, hc, _⟩
 ·
  rw [e] at h
  have : a = 8 := h
  omega
 ·
  unfold caseP at hc
  rw [if_neg (by omega), if_pos h] at hc
  simpa using hc
theorem gd_ptr {t : List S40} (g : GoodR t) {a : Int} (ha : InT t a) (h : (rd_T40 t a).f0 = 10) : InT t (rd_T40 t a).f4 ∧ form t (rd_T40 t a).f4 = 9 := by
 rcases gd_case g ha with ⟨e, e7⟩ | ⟨_, hc, _⟩
 ·
  rw [e] at h
  have : a = 10 := h
  omega
 ·
  unfold caseP at hc
  rw [if_neg (by omega), if_neg (by omega), if_pos h] at hc
  simp only [Bool.and_eq_true, decide_eq_true_eq] at hc
  exact ⟨place_at hc.1, hc.2⟩
theorem gd_rec {t : List S40} (g : GoodR t) {a : Int} (ha : InT t a) (h : (rd_T40 t a).f0 = 9) : 7 ≤ a ∧ recordP t a = true := by
 rcases gd_case g ha with ⟨e, e7⟩ | ⟨h7, _, _⟩
 ·
  rw [e] at h
  have : a = 9 := h
  omega
 · exact ⟨h7, one_record (g.one a h7 ha.2) h⟩
theorem gd_prc {t : List S40} (g : GoodR t) {a : Int} (ha : InT t a) (h : (rd_T40 t a).f0 = 11) : (∀ v ∈ (rd_T40 t a).f7, parP t v.f1 = true) ∧ (rd_T40 t a).f7.length ≤ 64 ∧ resP t (rd_T40 t a).f8 = true := by
 rcases gd_case g ha with ⟨e, e7⟩ | ⟨_, hc, _⟩
 ·
  rw [e] at h
  have : a = 11 := h
  omega
 ·
  unfold caseP at hc
  rw [if_neg (by omega), if_neg (by omega), if_neg (by omega), if_neg (by omega), if_pos h] at hc
  simp only [Bool.and_eq_true, decide_eq_true_eq] at hc
  refine ⟨fun v hv => ?_, hc.1.2, hc.2⟩
  have := hc.1.1
  unfold parsP at this
  exact List.all_eq_true.1 this v hv
theorem gd_inner {t : List S40} (g : GoodR t) : Inner t := by
 refine ⟨fun a ha h => ?_, fun a ha h => ?_, g.lo, g.hi⟩
 ·
  rcases h with h | h | h
  · exact holds_at (gd_arr g ha h).1
  ·
   rcases gd_opn g ha h with h | h
   · exact holds_at h
   · exact place_at h.1
  · exact (gd_ptr g ha h).1
 ·
  obtain ⟨h1, h2, h3⟩ := gd_prc g ha h
  refine ⟨fun v hv => par_at (h1 v hv), ?_⟩
  unfold resP at h3
  simp only [Bool.or_eq_true, decide_eq_true_eq, Bool.and_eq_true] at h3
  rcases h3 with h3 | h3
  · rw [h3]; exact gd_zero g
  · exact holds_at h3.1.1
end Go.Proofs.Ytgnbemgeiloegaa.Tg
namespace Go.Proofs.Ytgnbemgeiloegaa.Tg
open Go.RowKit Go.Maps Go.WideMaps
open Go.Proofs.YtgnbemgeiloegaaW.PrintWords Go.Proofs.YtgnbemgeiloegaaW.PrintLast Go.Proofs.YtgnbemgeiloegaaW.PrintMore
set_option linter.unusedVariables false
set_option linter.unusedSimpArgs false
open Go.Proofs.Ytgnbemgeiloegaa.PTypesGoods (S40 S42 S47 k40 k42 k47 rd_T40 rd_T42 rd_T47 at_T40 at_T42 at_T47)
def BaseCh (t : List S40) : Nat → Int → Prop
 | 0, _ => False
 | n + 1, a => InT t a ∧ (rd_T40 t a).f0 = 9 ∧ ((rd_T40 t a).f5 = 0 ∨ BaseCh t n (rd_T40 t a).f5)
theorem form_in {t : List S40} {i : Int} (h : InT t i) : form t i = (rd_T40 t i).f0 := by
 unfold form
 exact if_pos h
theorem chain_bases {t : List S40} : ∀ (n : Nat) (a : Int) (acc : List Int), InT t a → (rd_T40 t a).f0 = 9 → (basesP t n a acc).2 = true → BaseCh t n a
 | 0, a, acc, _, _, h => by simp [basesP] at h
 | n + 1, a, acc, ha, h9, h => by
  refine ⟨ha, h9, ?_⟩
  by_cases h0 : (rd_T40 t a).f5 = 0
  · exact .inl h0
  ·
   right
   rw [basesP, if_neg h0] at h
   split at h
   ·
    rename_i hp
    have hi : InT t (rd_T40 t a).f5 := place_at hp.1
    split at h
    · cases h
    · exact chain_bases n _ _ hi (by rw [← form_in hi]; exact hp.2) h
   · cases h
theorem gd_chain {t : List S40} (g : GoodR t) {a : Int} (ha : InT t a) (h9 : (rd_T40 t a).f0 = 9) : BaseCh t 6 a := by
 obtain ⟨_, hr⟩ := gd_rec g ha h9
 unfold recordP at hr
 simp only [Bool.and_eq_true, decide_eq_true_eq] at hr
 exact chain_bases 6 a [a] ha h9 hr.1.1.1
theorem chain_up {t : List S40} : ∀ (n : Nat) (a : Int), BaseCh t n a → BaseCh t (n + 1) a
 | 0, a, h => h.elim
 | n + 1, a, h => ⟨h.1, h.2.1, h.2.2.imp id (chain_up n _)⟩
def extF (t : List S40) : Nat → Int → Int → Bool
 | 0, _, _ => false
 | n + 1, a, b => sameT t a b || (decide ((rd_T40 t a).f5 ≠ 0) && extF t n (rd_T40 t a).f5 b)
def deep (t : List S40) : Nat → Int → Nat
 | 0, _ => 0
 | n + 1, a => if (rd_T40 t a).f5 = 0 then 1 else 1 + deep t n (rd_T40 t a).f5
theorem deep_eq {t : List S40} : ∀ (n m : Nat) (a : Int), BaseCh t n a → n ≤ m → deep t m a = deep t n a
 | 0, m, a, h, _ => h.elim
 | n + 1, 0, a, h, hm => by omega
 | n + 1, m + 1, a, h, hm => by
  rw [deep, deep]
  split
  · rfl
  ·
   rename_i h0
   rcases h.2.2 with h1 | h1
   · exact absurd h1 h0
   · rw [deep_eq n m _ h1 (by omega)]
theorem ext_eq {t : List S40} {b : Int} : ∀ (n m : Nat) (a : Int), BaseCh t n a → n ≤ m → extF t m a b = extF t n a b
 | 0, m, a, h, _ => h.elim
 | n + 1, 0, a, h, hm => by omega
 | n + 1, m + 1, a, h, hm => by
  rw [extF, extF]
  rcases h.2.2 with h1 | h1
  · simp [h1]
  · rw [ext_eq n m _ h1 (by omega)]
def steps (t : List S40) (a : Int) : Nat := if a = 0 then 0 else deep t 7 a
def extT (t : List S40) (a b : Int) : Bool :=
 if (rd_T40 t a).f0 ≠ (rd_T40 t b).f0 then false
 else if (rd_T40 t a).f0 = 10 then extF t 6 (rd_T40 t a).f4 (rd_T40 t b).f4
 else if (rd_T40 t a).f0 = 9 then extF t 6 a b
 else false
theorem steps_lt {t : List S40} {a : Int} (h : BaseCh t 6 a) (h0 : a ≠ 0) : steps t (rd_T40 t a).f5 < steps t a := by
 have e : deep t 7 a = if (rd_T40 t a).f5 = 0 then 1 else 1 + deep t 6 (rd_T40 t a).f5 := rfl
 unfold steps
 rw [if_neg h0, e]
 split
 · omega
 ·
  rename_i h5
  rcases h.2.2 with h1 | h1
  · exact absurd h1 h5
  · rw [deep_eq 5 7 _ h1 (by omega), deep_eq 5 6 _ h1 (by omega)]; omega
theorem ext_next {t : List S40} {a b : Int} (h : BaseCh t 6 a) (hs : sameT t a b = false) : ((rd_T40 t a).f5 = 0 ∧ extF t 6 a b = false) ∨ (BaseCh t 6 (rd_T40 t a).f5 ∧ extF t 6 a b = extF t 6 (rd_T40 t a).f5 b) := by
 by_cases h5 : (rd_T40 t a).f5 = 0
 · exact .inl ⟨h5, by rw [extF, hs]; simp [h5]⟩
 ·
  rcases h.2.2 with h1 | h1
  · exact absurd h1 h5
  ·
   refine .inr ⟨chain_up _ _ h1, ?_⟩
   rw [extF, hs, ext_eq 5 6 _ h1 (by omega)]
   simp [h5]
theorem ext_hit {t : List S40} {a b : Int} (hs : sameT t a b = true) : extF t 6 a b = true := by rw [extF, hs]; rfl
set_option maxHeartbeats 16000000 in
set_option maxRecDepth 100000 in
theorem ext_rec_calls {w : World} {A : Option Addr} {c : Nat} {t : List S40} (hC : Kd.C k40 w A t.length t) (hc : t.length ≤ c) (hpm : Parms t) (hg : GoodR t) (a b : Int) (ha : BaseCh t 6 a) (hb : InT t b) (hb9 : (rd_T40 t b).f0 = 9) :
 Calls Try.prog 48 #[.slice A t.length c, .int .i64 a, .int .i64 b] w fun e w' => e = .returned (.bool (extF t 6 a b)) ∧ Below w.heap.size w w' := by
 have HC := Aside0.mk hC
 have HG := Aside0.mk hg
 have HP := Aside0.mk hpm
 have HA := Aside0.mk ha
 obtain ⟨⟨ha0, ha1⟩, ha9, -⟩ := ha
 obtain ⟨hb0, hb1⟩ := hb
 obtain ⟨ad, A6, c6, A7, c7, hA, p0, -, -, -, -, -, -, -, -, -, -, -, -, -⟩ := at_T40 hC a ha0 ha1
 subst hA
 obtain ⟨ad', B6, d6, B7, d7, hA, q0, -, -, -, -, -, -, -, -, -, -, -, -, -⟩ := at_T40 hC b hb0 hb1
 cases hA
 rw [ha9] at p0
 rw [hb9] at q0
 clear hC hg hpm hb9 ha9
 go_enter Try.func48, Try.ntmps48
 go_wp2
 go_quiet (fail)
 go_wp2
 clear p0 q0
 have HB0 : Aside0 (Below w.heap.size w w.drew) := ⟨below_drew (Below.refl _ _)⟩
 go_loopw [1] (fun i wr => ∃ (a1 : Int), i = .int .i64 a1 ∧ Aside0 ((a1 = 0 ∧ extF t 6 a b = false) ∨ (BaseCh t 6 a1 ∧ extF t 6 a b = extF t 6 a1 b)) ∧ Aside0 (Below w.heap.size w wr)) (fun i _ => steps t (intOf i))
 case atStart => exact ⟨a, rfl, ⟨.inr ⟨HA.out, rfl⟩⟩, ⟨by first | exact pw_below_drewN (Below.refl _ _) _ | exact HB0.out⟩⟩
 case round =>
  clear HB0
  obtain ⟨wo, rfl⟩ : ∃ wo : World, wo = wr := ⟨_, rfl⟩
  obtain ⟨a1, rfl, HR, HB⟩ := hrel
  by_cases h0 : a1 = 0
  ·
   subst h0
   have R : Aside0 (extF t 6 a b = false) := ⟨by
    rcases HR.out with h | h
    · exact h.2
    ·
     have := (gd_rec HG.out h.1.1 h.1.2.1).1
     omega⟩
   go_wp2
   go_ret
   rw [R.out]
   exact ⟨rfl, HB.out⟩
  ·
   have b0 : (a1 != 0) = true := by simp [h0]
   have HR2 : Aside0 (BaseCh t 6 a1 ∧ extF t 6 a b = extF t 6 a1 b) := ⟨by
    rcases HR.out with h | h
    · exact absurd h.1 h0
    · exact h⟩
   have hin := HR2.out.1.1
   obtain ⟨i0, i1⟩ := hin
   obtain ⟨ad', D6, e6, D7, e7, hA, -, -, -, -, -, r5, -, -, -, -, -, -, -, -⟩ := at_T40 HC.out a1 i0 i1
   cases hA
   have HI : Aside0 (Inner t) := ⟨gd_inner HG.out⟩
   have HN := Aside0.mk (steps_lt HR2.out.1 h0)
   have hnx := Aside0.mk (fun (hs : sameT t a1 b = false) => ext_next HR2.out.1 hs)
   have hht := Aside0.mk (fun (hs : sameT t a1 b = true) => ext_hit hs)
   generalize (rd_T40 t a1).f5 = v5 at r5 HN hnx
   have R5 := Aside0.mk r5
   clear r5 HR
   have HT := Aside0.mk (Same_calls (Kd.C_below HC.out HB.out) hc HP.out HI.out a1 b ⟨i0, i1⟩ ⟨hb0, hb1⟩)
   replace h0 := Aside0.mk h0
   cases hs : sameT t a1 b with
   | true =>
    rw [hs] at HT
    have R : Aside0 (extF t 6 a b = true) := ⟨HR2.out.2.trans (hht.out hs)⟩
    clear hs hnx hht
    go_wp2_with (go_at_call 47; refine HT.out.mono ?_; rintro e w4 ⟨rfl, hb4⟩)
    go_ret
    rw [R.out]
    exact ⟨rfl, HB.out.trans (hb4.mono HB.out.size)⟩
   | false =>
    rw [hs] at HT
    have R := Aside0.mk (hnx.out hs)
    clear hs hnx hht
    go_wp2_with (go_at_call 47; refine HT.out.mono ?_; rintro e w4 ⟨rfl, hb4⟩; have HB4 := Aside0.mk (HB.out.trans (hb4.mono HB.out.size)); clear hb4; have r5 := (HB4.out.cell (World.block_lt_of_cell? w _ R5.out)).trans R5.out)
    go_roundw
    case rel => exact ⟨v5, rfl, ⟨by
     rcases R.out with h | h
     · exact .inl ⟨h.1, HR2.out.2.trans h.2⟩
     · exact .inr ⟨h.1, HR2.out.2.trans h.2⟩⟩, HB4⟩
    case measure => exact HN.out
set_option maxHeartbeats 16000000 in
set_option maxRecDepth 100000 in
theorem Extends_calls {w : World} {A : Option Addr} {c : Nat} {t : List S40} (hC : Kd.C k40 w A t.length t) (hc : t.length ≤ c) (hpm : Parms t) (hg : GoodR t) (a b : Int) (ha : InT t a) (hb : InT t b) :
 Calls Try.prog 48 #[.slice A t.length c, .int .i64 a, .int .i64 b] w fun e w' => e = .returned (.bool (extT t a b)) ∧ Below w.heap.size w w' := by
 have HC := Aside0.mk hC
 have HG := Aside0.mk hg
 have HP := Aside0.mk hpm
 obtain ⟨ha0, ha1⟩ := ha
 obtain ⟨hb0, hb1⟩ := hb
 by_cases hab : (rd_T40 t a).f0 = (rd_T40 t b).f0
 ·
  by_cases h9 : (rd_T40 t a).f0 = 9
  ·
   have e : extT t a b = extF t 6 a b := by unfold extT; rw [if_neg (fun h => h hab), if_neg (by omega), if_pos h9]
   rw [e]
   exact ext_rec_calls hC hc hpm hg a b (gd_chain hg ⟨ha0, ha1⟩ h9) ⟨hb0, hb1⟩ (hab ▸ h9)
  obtain ⟨ad, A6, c6, A7, c7, hA, p0, -, -, -, p4, -, -, -, -, -, -, -, -, -⟩ := at_T40 hC a ha0 ha1
  subst hA
  obtain ⟨ad', B6, d6, B7, d7, hA, q0, -, -, -, q4, -, -, -, -, -, -, -, -, -⟩ := at_T40 hC b hb0 hb1
  cases hA
  rw [← hab] at q0
  by_cases h10 : (rd_T40 t a).f0 = 10
  ·
   have R : Aside0 (extT t a b = extF t 6 (rd_T40 t a).f4 (rd_T40 t b).f4) := ⟨by unfold extT; rw [if_neg (fun h => h hab), if_pos h10]⟩
   obtain ⟨ea, ea9⟩ := gd_ptr hg ⟨ha0, ha1⟩ h10
   obtain ⟨eb, eb9⟩ := gd_ptr hg ⟨hb0, hb1⟩ (hab ▸ h10)
   rw [form_in ea] at ea9
   rw [form_in eb] at eb9
   have HE := Aside0.mk (gd_chain hg ea ea9)
   have EB := Aside0.mk eb
   have EB9 := Aside0.mk eb9
   rw [h10] at p0 q0
   clear hC hg hpm hab h9 h10 ea ea9 eb eb9
   generalize (rd_T40 t a).f4 = a4 at p4 HE R
   generalize (rd_T40 t b).f4 = b4 at q4 EB EB9 R
   go_enter Try.func48, Try.ntmps48
   go_wp2
   go_quiet (fail)
   go_wp2
   have KP : Aside0 (∀ w9, Below w.heap.size w w9 → w9.cell? ⟨(ad.add (a.toNat * 10)).block, (ad.add (a.toNat * 10)).off + 4, none⟩ = some (.int .i64 a4) ∧ w9.cell? ⟨(ad.add (b.toNat * 10)).block, (ad.add (b.toNat * 10)).off + 4, none⟩ = some (.int .i64 b4)) := ⟨fun w9 hb => ⟨(hb.cell (World.block_lt_of_cell? w _ p4)).trans p4, (hb.cell (World.block_lt_of_cell? w _ q4)).trans q4⟩⟩
   go_region_held3 (fun w7 => w7.cell? ⟨(ad.add (a.toNat * 10)).block, (ad.add (a.toNat * 10)).off + 4, none⟩ = some (.int .i64 a4) ∧ w7.cell? ⟨(ad.add (b.toNat * 10)).block, (ad.add (b.toNat * 10)).off + 4, none⟩ = some (.int .i64 b4)) (first | go_keep | exact ⟨p4, q4⟩ | exact KP.out _ hB4.out) ((go_at_call 48; refine (ext_rec_calls (Kd.C_below HC.out (by first | exact pw_below_drewN (Below.refl _ _) _ | exact below_drew (pw_below_drewN (Below.refl _ _) _) | exact below_drew (Below.refl _ _))) hc HP.out HG.out a4 b4 HE.out EB.out EB9.out).mono ?_; rintro e w4 ⟨rfl, hb4⟩; have hB4 := Aside0.mk (Below.trans (by first | exact pw_below_drewN (Below.refl _ _) _ | exact below_drew (pw_below_drewN (Below.refl _ _) _) | exact below_drew (Below.refl _ _) : Below w.heap.size w _) hb4); clear hb4))
   all_goals
    go_wp2
    go_ret
    rw [R.out]
    exact ⟨rfl, hB4.out⟩
  ·
   have R : Aside0 (extT t a b = false) := ⟨by unfold extT; rw [if_neg (fun h => h hab), if_neg h10, if_neg h9]⟩
   have b9 : ((rd_T40 t a).f0 == 9) = false := by simp [h9]
   have b10 : ((rd_T40 t a).f0 == 10) = false := by simp [h10]
   have bn : ((rd_T40 t a).f0 != (rd_T40 t a).f0) = false := by simp
   clear hC hg hpm hab h9 h10 p4 q4
   generalize (rd_T40 t a).f0 = f at p0 q0 b9 b10 bn
   go_enter Try.func48, Try.ntmps48
   go_wp2
   go_quiet (fail)
   go_wp2
   go_ret
   rw [R.out]
   exact ⟨rfl, by first | exact pw_below_drewN (Below.refl _ _) _ | exact below_drew (Below.refl _ _)⟩
 ·
  have R : Aside0 (extT t a b = false) := ⟨by unfold extT; rw [if_pos hab]⟩
  obtain ⟨ad, A6, c6, A7, c7, hA, p0, -, -, -, -, -, -, -, -, -, -, -, -, -⟩ := at_T40 hC a ha0 ha1
  subst hA
  obtain ⟨ad', B6, d6, B7, d7, hA, q0, -, -, -, -, -, -, -, -, -, -, -, -, -⟩ := at_T40 hC b hb0 hb1
  cases hA
  have bn : ((rd_T40 t a).f0 != (rd_T40 t b).f0) = true := by simp [hab]
  clear hC hg hpm hab
  generalize (rd_T40 t a).f0 = f at p0 bn
  generalize (rd_T40 t b).f0 = f2 at q0 bn
  go_enter Try.func48, Try.ntmps48
  go_wp2
  go_quiet (fail)
  go_wp2
  go_ret
  rw [R.out]
  exact ⟨rfl, by first | exact pw_below_drewN (Below.refl _ _) _ | exact below_drew (Below.refl _ _)⟩
end Go.Proofs.Ytgnbemgeiloegaa.Tg
namespace Go.Proofs.Ytgnbemgeiloegaa.Tg
open Go.RowKit Go.Maps Go.WideMaps
open Go.Proofs.YtgnbemgeiloegaaW.PrintWords Go.Proofs.YtgnbemgeiloegaaW.PrintLast Go.Proofs.YtgnbemgeiloegaaW.PrintMore
set_option linter.unusedVariables false
set_option linter.unusedSimpArgs false
open Go.Proofs.Ytgnbemgeiloegaa.PTypesGoods (S40 S42 S47 k40 k42 k47 rd_T40 rd_T42 rd_T47 at_T40 at_T42 at_T47)
def HeldD (ax ay : Addr) (x y : S40) (A6 : Option Addr) (c6 : Nat) (A7 : Option Addr) (c7 : Nat) (B6 : Option Addr) (d6 : Nat) (B7 : Option Addr) (d7 : Nat) (w : World) : Prop :=
 CellsX w ax x A6 c6 A7 c7 ∧ CellsX w ay y B6 d6 B7 d7
structure DB (w : World) (bx b_y : Nat) (xs ys : Array Value) (wr : World) : Prop where
 x : wr.heap[bx]? = some (.cells xs 40 (0, 0))
 y : wr.heap[b_y]? = some (.cells ys 40 (0, 0))
 nx : w.heap.size ≤ bx
 ny : w.heap.size ≤ b_y
 ne : bx ≠ b_y
 below : Below w.heap.size w wr
section
variable {w wr : World} {bx b_y : Nat} {xs ys : Array Value}
theorem DB.on (h : DB w bx b_y xs ys wr) {w2 : World} (hb : Below wr.heap.size wr w2) : DB w bx b_y xs ys w2 :=
 ⟨(hb.block _ (blk_lt h.x)).trans h.x, (hb.block _ (blk_lt h.y)).trans h.y, h.nx, h.ny, h.ne, h.below.trans (hb.mono h.below.size)⟩
theorem DB.cx (h : DB w bx b_y xs ys wr) (k : Nat) (v : Value) (hk : xs[k]? = some v) : wr.cell? ⟨bx, k, none⟩ = some v := by rw [cell_of_row wr _ _ _ _ _ h.x]; exact hk
theorem DB.cy (h : DB w bx b_y xs ys wr) (k : Nat) (v : Value) (hk : ys[k]? = some v) : wr.cell? ⟨b_y, k, none⟩ = some v := by rw [cell_of_row wr _ _ _ _ _ h.y]; exact hk
theorem below_cells {W : World} (hb : Below w.heap.size w W) {b : Nat} (h : w.heap.size ≤ b) (zs : List Value) : Below w.heap.size w (W.setCells b 0 zs) := by
 obtain ⟨s1, s2, s3, s4⟩ := setCells_same b zs 0 W
 exact hb.trans ⟨s1, s2, s3, by rw [s4]; exact Nat.le_refl _, fun k hk => setCells_far zs 0 k (by omega)⟩
theorem DB.putx (h : DB w bx b_y xs ys wr) (zs : List Value) (hl : zs.length = xs.size) : DB w bx b_y zs.toArray ys (wr.setCells bx 0 zs) :=
 ⟨box_whole zs h.x hl, (setCells_far zs 0 _ (Ne.symm h.ne)).trans h.y, h.nx, h.ny, h.ne, below_cells h.below h.nx zs⟩
theorem DB.puty (h : DB w bx b_y xs ys wr) (zs : List Value) (hl : zs.length = ys.size) : DB w bx b_y xs zs.toArray (wr.setCells b_y 0 zs) :=
 ⟨(setCells_far zs 0 _ h.ne).trans h.x, box_whole zs h.y hl, h.nx, h.ny, h.ne, below_cells h.below h.ny zs⟩
theorem DB.held (h : DB w bx b_y xs ys wr) {ax ay : Addr} {x y : S40} {A6 : Option Addr} {c6 : Nat} {A7 : Option Addr} {c7 : Nat} {B6 : Option Addr} {d6 : Nat} {B7 : Option Addr} {d7 : Nat}
 (hx : CellsX w ax x A6 c6 A7 c7) (hy : CellsX w ay y B6 d6 B7 d7) : HeldD ax ay x y A6 c6 A7 c7 B6 d6 B7 d7 wr := ⟨hx.on h.below, hy.on h.below⟩
theorem HeldD.on {ax ay : Addr} {x y : S40} {A6 : Option Addr} {c6 : Nat} {A7 : Option Addr} {c7 : Nat} {B6 : Option Addr} {d6 : Nat} {B7 : Option Addr} {d7 : Nat} {w2 : World}
 (h : HeldD ax ay x y A6 c6 A7 c7 B6 d6 B7 d7 w) (hb : Below w.heap.size w w2) : HeldD ax ay x y A6 c6 A7 c7 B6 d6 B7 d7 w2 := ⟨h.1.on hb, h.2.on hb⟩
theorem DB.made {wa : World} (hb : Below w.heap.size w wa) (o : Bool) :
 DB w (if o then wa.heap.size else wa.heap.size + 1) (if o then wa.heap.size + 1 else wa.heap.size) zeroX zeroX ((wa.alloc (.cells zeroX 40)).alloc (.cells zeroX 40)) := by
 have hB : Below wa.heap.size wa ((wa.alloc (.cells zeroX 40)).alloc (.cells zeroX 40)) := below_alloc (below_alloc (Below.refl _ _) _) _
 have e1 : ((wa.alloc (.cells zeroX 40)).alloc (.cells zeroX 40)).heap[wa.heap.size]? = some (.cells zeroX 40 (0, 0)) := by
  rw [Below.heap_alloc _ _ _ (by simp)]
  exact heap_alloc_new _ _
 have e2 : ((wa.alloc (.cells zeroX 40)).alloc (.cells zeroX 40)).heap[wa.heap.size + 1]? = some (.cells zeroX 40 (0, 0)) := by
  have := heap_alloc_new (wa.alloc (.cells zeroX 40)) (.cells zeroX 40)
  rwa [World.size_alloc] at this
 have hz := hb.size
 refine ⟨?_, ?_, ?_, ?_, ?_, hb.trans (hB.mono hz)⟩
 · cases o <;> assumption
 · cases o <;> assumption
 · cases o <;> simp <;> omega
 · cases o <;> simp <;> omega
 · cases o <;> simp
end
end Go.Proofs.Ytgnbemgeiloegaa.Tg
