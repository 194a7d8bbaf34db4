import Derived.Test.YtgnbemgeiloegaaMLyPv
import Derived.Test.YtgnbemgeiloegaaMEW
import Derived.Test.YtgnbemgeiloegaaMEPTypesGoodsx3
import Derived.Test.YtgnbemgeiloegaaMETgOpn
namespace Go.Proofs.Ytgnbemgeiloegaa.Ly
open Go.RowKit Go.Proofs.Ytgnbemgeiloegaa.Tg
open Go.Proofs.YtgnbemgeiloegaaW.PrintWords Go.Proofs.YtgnbemgeiloegaaW.PrintLast Go.Proofs.YtgnbemgeiloegaaW.PrintMore
set_option linter.unusedVariables false
set_option linter.unusedSimpArgs false
open Go.Proofs.Ytgnbemgeiloegaa.PTypesGoods
theorem same_run (l : List Int) (hl : l.length ≤ 1000000) : ∀ (n i : Nat), i + n = l.length → Ev (fun k => spinetkeep_Same.l0 k l l (i : Int)) true
 | 0, i, hi => Ev.one fun k => by rw [spinetkeep_Same.l0, if_neg (by omega)]
 | n + 1, i, hi => by
  have hw : wrap64 ((i : Int) + 1) = ((i + 1 : Nat) : Int) := by rw [wr_64 (by omega)]; omega
  refine Ev.step (fun k => ?_) (same_run l hl n (i + 1) (by omega))
  rw [spinetkeep_Same.l0, if_pos (by omega), if_pos (by omega), if_pos (by omega), if_pos rfl, hw]
theorem same_is (l : List Int) (hl : l.length ≤ 1000000) : Ev (fun k => spinetkeep_Same.f k l l) true := by
 refine Ev.congr (f := fun k => spinetkeep_Same.l0 k l l 0) (fun k => ?_) (same_run l hl l.length 0 (by omega))
 rw [spinetkeep_Same.f, if_pos rfl]
section
variable {t : List S40} {S : Int → Int}
theorem endsR_big : ∀ (l : List Int) (m : Int), 32769 ≤ m → (∀ a ∈ l, 0 ≤ S a) → 32769 ≤ endsR t S m l
 | [], m, h, _ => h
 | a :: l, m, h, hs => by
  have h1 := plcAt_le (t := t) (n := m) (a := a) (by omega)
  have h2 := hs a (by simp)
  refine endsR_big l _ ?_ (fun b hb => hs b (by simp [hb]))
  unfold plcEndR mn
  split <;> omega
theorem varF_is (Z : Sizes t S) : ∀ (l : List Int) (n : Int) (out : List Int), 0 ≤ n → n ≤ 32768 → varF t S l n out = if l.all (inb t) = true ∧ endsR t S n l ≤ 32768 then some (out ++ atsR t S n l, endsR t S n l) else none
 | [], n, out, h0, h1 => by
  rw [if_pos ⟨rfl, h1⟩]
  show some (out, n) = some (out ++ [], n)
  rw [List.append_nil]
 | a :: r, n, out, h0, h1 => by
  rw [varF]
  by_cases hi : inb t a = true
  ·
   rw [if_pos hi]
   have hI : InT t a := by
    by_cases h : InT t a
    · exact h
    · rw [inb_no h] at hi; cases hi
   have hs := Z.lo a hI
   have hp := plcAt_le (t := t) (n := n) (a := a) h0
   have hall : (a :: r).all (inb t) = r.all (inb t) := by rw [List.all_cons, hi, Bool.true_and]
   have he : endsR t S n (a :: r) = endsR t S (plcEndR t S n a) r := rfl
   have ha : atsR t S n (a :: r) = plcAt t n a :: atsR t S (plcEndR t S n a) r := rfl
   by_cases hb : plcEnd t S n a > 32768
   ·
    rw [if_pos hb]
    have hb2 : 32769 ≤ plcEndR t S n a := by
     unfold plcEnd cutP mn at hb
     unfold plcEndR mn
     split at hb <;> split <;> omega
    rw [if_neg]
    rintro ⟨k1, k2⟩
    rw [hall] at k1
    have := endsR_big (t := t) r _ hb2 (fun b hb => Z.lo b (by
     have := (List.all_eq_true.1 k1) b hb
     by_cases h : InT t b
     · exact h
     · rw [inb_no h] at this; cases this))
    rw [he] at k2
    omega
   ·
    rw [if_neg hb]
    have e : plcEnd t S n a = plcEndR t S n a := by
     unfold plcEnd cutP mn at hb ⊢
     unfold plcEndR mn
     split at hb <;> split <;> omega
    rw [varF_is Z r _ _ (by rw [e]; exact (plcEndR_in h0 hs).1) (by omega), hall, he, ha, e, List.append_assoc]
    rfl
  ·
   rw [if_neg hi, if_neg]
   rintro ⟨k1, _⟩
   rw [List.all_cons, Bool.and_eq_true] at k1
   exact hi k1.1
end
theorem vars_same (t : List S40) (l : List Int) : varG t l = varR t l := by
 unfold varG varR
 cases hg : goodR t with
 | false => rfl
 | true =>
  rw [if_pos rfl, if_pos rfl, varF_is (szG_sizes (good_of hg)) l 0 [] (by omega) (by omega)]
  have hu : upP (endsR t (szG t) 0 l) > 32768 ↔ ¬ endsR t (szG t) 0 l ≤ 32768 := by unfold upP; omega
  by_cases h1 : l.all (inb t) = true
  ·
   by_cases h2 : endsR t (szG t) 0 l ≤ 32768
   · rw [if_pos ⟨h1, h2⟩, if_pos h1, if_neg (fun h => (hu.1 h) h2)]; rfl
   · rw [if_neg (fun h => h2 h.2), if_pos h1, if_pos (hu.2 h2)]
  · rw [if_neg (fun h => h1 h.1), if_neg h1]
theorem varR_len (t : List S40) (l : List Int) : (varR t l).1.length ≤ l.length := by
 unfold varR
 repeat' split
 all_goals first | exact Nat.zero_le _ | exact Nat.le_of_eq (atsR_len l 0)
theorem wake14_end : Ev (fun k => (spinetlaw14_wakes.f k).bind fun t => some t) true := Ev.bind wakes14_is (Ev.eq rfl)
theorem vars_wakes (t : List S40) (l : List Int) : Ev (fun k => spinetlaw14_LayoutVars.j0 k t l true) true :=
 Ev.step (f := fun k => (spinetlaw14_wakes.f k).bind fun t => some t) (fun k => by rw [spinetlaw14_LayoutVars.j0, if_pos rfl]) wake14_end
theorem vars_main {t : List S40} (h : Fine t) (h3 : t.length ≤ 4000) (l : List Int) (hl : l.length ≤ 300) : Ev (fun k => spinetlaw14_LayoutVars.j0 k t l false) true := by
 have hc : spinetref13_Copy.f t = some t := copy_is h.parms h3
 have hlen := varR_len t l
 refine Ev.step (f := fun k => ((layout_Vars.f t l).bind fun bt250 => ((spinetref14_Vars.f t l).bind fun bt254 => (if bt250.2 = bt254.2 then ((spinetkeep_Same.f k bt250.1 bt254.1).bind fun t258 => (if t258 = true then ((spinetkeep_Same.f k l l).bind fun t259 => (if t259 = true then ((spinetlaw14_wakes.f k).bind fun t260 => (some t260)) else (some false))) else (some false))) else (some false))))) (fun k => ?_) ?_
 ·
  rw [spinetlaw14_LayoutVars.j0, if_neg (by decide), hc]
  show (if ([] : List Int).length + l.length < 17592186044416 then _ else _) = _
  rw [if_pos (by simp; omega)]
  rfl
 have e1 : layout_Vars.f t l = some (varR t l) := by unfold layout_Vars.f; rw [if_pos ⟨h, by omega⟩, vars_same]
 have e2 : spinetref14_Vars.f t l = some (varR t l) := by unfold spinetref14_Vars.f; rw [if_pos ⟨h, by omega⟩]
 rw [e1, e2]
 generalize varR t l = p at hlen
 refine Ev.congr (f := fun k => (spinetkeep_Same.f k p.1 p.1).bind fun t258 => (if t258 = true then ((spinetkeep_Same.f k l l).bind fun t259 => (if t259 = true then ((spinetlaw14_wakes.f k).bind fun t260 => (some t260)) else (some false))) else (some false))) (fun k => ?_) ?_
 ·
  show (if p.2 = p.2 then _ else _) = _
  rw [if_pos rfl]
 refine Ev.bind (same_is p.1 (by omega)) ?_
 simp only [eq_self, if_true]
 refine Ev.bind (same_is l (by omega)) ?_
 simp only [eq_self, if_true]
 exact wake14_end
theorem vars_is {t : List S40} (hL : Lim t) (l : List Int) : Ev (fun k => spinetlaw14_LayoutVars.f k t l) true := by
 obtain ⟨r, hr, hp⟩ := large_is hL
 unfold spinetlaw14_LayoutVars.f
 refine Ev.bind hr ?_
 cases r with
 | true =>
  simp only [eq_self, if_true]
  exact vars_wakes t l
 | false =>
  obtain ⟨h3, hp⟩ := hp rfl
  have hF : Fine t := ⟨lim_sized hL, hp⟩
  simp only [Bool.false_eq_true, if_false]
  by_cases h1 : (l.length : Int) > 300
  · rw [decide_eq_true h1]; exact vars_wakes t l
  · rw [decide_eq_false h1]; exact vars_main hF (by omega) l (by omega)
theorem vars_calls {w : World} {A : Option Addr} {c : Nat} {t : List S40} (hC : Kd.C k40 w A t.length t) (hc : t.length ≤ c) (hL : Lim t) {A1 : Option Addr} {c1 : Nat} {l : List Int} (hC1 : Kd.C (Kd.int .i64) w A1 l.length l) (hc1 : l.length ≤ c1) :
 Calls Try.prog 5 #[.slice A t.length c, .slice A1 l.length c1] w fun e w' => e = .returned (.bool true) ∧ Below w.heap.size w w' := by
 obtain ⟨k, hk⟩ := (vars_is hL l).rounds
 exact spinetlaw14_LayoutVars.calls k A c t A1 c1 l true ⟨rfl⟩ w hC hc hC1 hc1 hk
end Go.Proofs.Ytgnbemgeiloegaa.Ly
