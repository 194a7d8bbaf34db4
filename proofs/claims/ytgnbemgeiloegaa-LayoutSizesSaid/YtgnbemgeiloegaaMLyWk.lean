import Derived.Test.YtgnbemgeiloegaaMLyPw
import Derived.Test.YtgnbemgeiloegaaMTgPu
import Derived.Test.YtgnbemgeiloegaaMEW
import Derived.Test.YtgnbemgeiloegaaMEPTypesGoodsx3
import Derived.Test.YtgnbemgeiloegaaMETgOpn
namespace Go.Proofs.Ytgnbemgeiloegaa.Ly
open Go.RowKit Go.Proofs.Ytgnbemgeiloegaa.Tg
open Go.Proofs.YtgnbemgeiloegaaW.PrintWords Go.Proofs.YtgnbemgeiloegaaW.PrintLast Go.Proofs.YtgnbemgeiloegaaW.PrintMore
set_option linter.unusedVariables false
set_option linter.unusedSimpArgs false
open Go.Proofs.Ytgnbemgeiloegaa.PTypesGoods
theorem offL_congr {t : List S40} {S T : Int → Int} {s : ByteArray} : ∀ (l : List S42) (n : Int), (∀ f ∈ l, S f.f2 = T f.f2) → offL t S s n l = offL t T s n l
 | [], n, _ => rfl
 | f :: l, n, h => by
  have e : plcEnd t S n f.f2 = plcEnd t T n f.f2 := by unfold plcEnd; rw [h f (by simp)]
  show (if _ then _ else offL t S s (plcEnd t S n f.f2) l) = (if _ then _ else offL t T s (plcEnd t T n f.f2) l)
  rw [e, offL_congr l _ (fun g hg => h g (by simp [hg]))]
theorem varF_congr {t : List S40} {S T : Int → Int} : ∀ (l : List Int) (n : Int) (out : List Int), (∀ a ∈ l, S a = T a) → varF t S l n out = varF t T l n out
 | [], n, out, _ => rfl
 | a :: l, n, out, h => by
  have e : plcEnd t S n a = plcEnd t T n a := by unfold plcEnd; rw [h a (by simp)]
  rw [varF, varF, e, varF_congr l _ _ (fun b hb => h b (by simp [hb]))]
def wlX : S40 := ⟨9, ⟨#[65]⟩, ⟨#[]⟩, 0, 0, 0, [⟨⟨#[97]⟩, false, 3⟩, ⟨⟨#[98]⟩, false, 2⟩, ⟨⟨#[99]⟩, false, 1⟩, ⟨⟨#[100]⟩, false, 3⟩], [], 0, 0⟩
def wl : List S40 := basics ++ [wlX]
theorem wl_good : GoodR wl := by
 refine ⟨by decide, by decide, fun i h0 h7 => ?_, fun i h7 hl => ?_, by kernel_rfl, fun i k h7 hk hi => ?_⟩
 ·
  have : i = 0 ∨ i = 1 ∨ i = 2 ∨ i = 3 ∨ i = 4 ∨ i = 5 ∨ i = 6 := by omega
  rcases this with h | h | h | h | h | h | h <;> subst h <;> rfl
 ·
  have hl' : i < 8 := hl
  have : i = 7 := by omega
  have o7 : oneP wl 7 = true := by kernel_rfl
  subst this
  exact o7
 ·
  have hl' : i < 8 := hi
  have h1 : i = 7 := by omega
  subst h1
  omega
theorem wl_fine : Fine wl := by
 refine ⟨fun x hx => ?_, fun x hx => ?_⟩
 ·
  have : ∀ x ∈ wl, x.f1.size ≤ 1 ∧ x.f2.size ≤ 1 ∧ ∀ f ∈ x.f6, f.f0.size ≤ 1 := by
   intro x hx
   simp only [wl, basics, List.cons_append, List.nil_append, List.mem_cons, List.not_mem_nil, or_false] at hx
   rcases hx with h | h | h | h | h | h | h | h
   all_goals subst h
   rotate_right
   ·
    refine ⟨by decide, by decide, fun f hf => ?_⟩
    simp only [wlX, List.mem_cons, List.not_mem_nil, or_false] at hf
    rcases hf with h | h | h | h <;> subst h <;> decide
   all_goals exact ⟨by decide, by decide, fun f hf => by cases hf⟩
  obtain ⟨h1, h2, h3⟩ := this x hx
  exact ⟨Nat.le_trans h1 (by decide), Nat.le_trans h2 (by decide), fun f hf => Nat.le_trans (h3 f hf) (by decide)⟩
 ·
  simp only [wl, basics, List.cons_append, List.nil_append, List.mem_cons, List.not_mem_nil, or_false] at hx
  rcases hx with h | h | h | h | h | h | h | h <;> subst h <;> exact ⟨by decide, by decide⟩
theorem wl_7 : InT wl 7 := ⟨by decide, by decide⟩
def wT : Int → Int := szF wl 2
theorem wS0 : szG wl 0 = wT 0 := (szG_sizes wl_good).eq 0 ⟨by decide, by decide⟩
theorem wS1 : szG wl 1 = wT 1 := (szG_sizes wl_good).eq 1 ⟨by decide, by decide⟩
theorem wS2 : szG wl 2 = wT 2 := (szG_sizes wl_good).eq 2 ⟨by decide, by decide⟩
theorem wS3 : szG wl 3 = wT 3 := (szG_sizes wl_good).eq 3 ⟨by decide, by decide⟩
theorem w_fields : ∀ f ∈ (rd_T40 wl 7).f6, szG wl f.f2 = wT f.f2 := by
 intro f hf
 have hf : f ∈ wlX.f6 := hf
 simp only [wlX, List.mem_cons, List.not_mem_nil, or_false] at hf
 rcases hf with h | h | h | h <;> subst h
 · exact wS3
 · exact wS2
 · exact wS1
 · exact wS3
theorem wS7 : szG wl 7 = 12 := by
 have e : szG wl 7 = cutP (upP (endsP wl (szG wl) (szG wl (rd_T40 wl 7).f5) (rd_T40 wl 7).f6)) := (szG_sizes wl_good).eq 7 wl_7
 rw [e, endsP_congr _ _ w_fields, show (rd_T40 wl 7).f5 = 0 from rfl, wS0]
 show cutP (upP (endsP wl wT (wT 0) (rd_T40 wl 7).f6)) = 12
 decide
theorem wl_size : sizeG wl 7 = 12 := by
 unfold sizeG
 rw [inb_yes wl_7, good_true wl_good]
 exact wS7
theorem wl_off : offG wl 7 ⟨#[99]⟩ = (4, 1, true) := by
 unfold offG
 rw [inb_yes wl_7, good_true wl_good, Bool.and_self, if_pos rfl, wS7, if_neg (by decide), offF, if_pos (show (rd_T40 wl 7).f0 = 9 from rfl), show (rd_T40 wl 7).f5 = 0 from rfl, wS0, offL_congr _ _ w_fields]
 kernel_rfl
theorem wl_vars : varG wl [3, 3, 1] = ([0, 1, 4], 8) := by
 unfold varG
 rw [good_true wl_good, if_pos rfl, varF_congr (S := szG wl) (T := wT) [3, 3, 1] 0 [] (fun a ha => by
  simp only [List.mem_cons, List.not_mem_nil, or_false] at ha
  rcases ha with h | h | h <;> subst h
  · exact wS3
  · exact wS3
  · exact wS1)]
 have i3 : inb wl 3 = true := inb_yes ⟨by decide, by decide⟩
 have i1 : inb wl 1 = true := inb_yes ⟨by decide, by decide⟩
 rw [varF, if_pos i3, if_neg (by decide), varF, if_pos i3, if_neg (by decide), varF, if_pos i1, if_neg (by decide), varF]
 first | exact rfl | decide
theorem refBasic14 : Ev (fun k => spinetref13_Basic.f k) basics := Ev.of (fun k => spinetref13_Basic.mono k) basic_is
theorem wakes14_is : Ev (fun k => spinetlaw14_wakes.f k) true := by
 unfold spinetlaw14_wakes.f
 refine Ev.bind refBasic14 ?_
 refine Ev.congr (f := fun k => (layout_Offset.f wl 7 (⟨#[99]⟩ : ByteArray)).bind fun bt121 => ((layout_Vars.f wl (([3, 3, 1] : List Int))).bind fun bt127 => ((layout_Size.f wl 7).bind fun t131 => (if t131 = 12 then (if bt121.2.2 = true then (if bt121.1 = 4 then (if bt121.2.1 = 1 then (if bt127.2 = 8 then ((spinetkeep_Same.f k bt127.1 (([0, 1, 4] : List Int))).bind fun t135 => (some t135)) else (some false)) else (some false)) else (some false)) else (some false)) else (some false))))) (fun k => rfl) ?_
 refine Ev.bind (f := fun k (bt121 : Int × Int × Bool) => ((layout_Vars.f wl (([3, 3, 1] : List Int))).bind fun bt127 => ((layout_Size.f wl 7).bind fun t131 => (if t131 = 12 then (if bt121.2.2 = true then (if bt121.1 = 4 then (if bt121.2.1 = 1 then (if bt127.2 = 8 then ((spinetkeep_Same.f k bt127.1 (([0, 1, 4] : List Int))).bind fun t135 => (some t135)) else (some false)) else (some false)) else (some false)) else (some false)) else (some false))))) (a := (4, 1, true)) ?_ ?_
 · exact Ev.eq (by unfold layout_Offset.f; rw [if_pos wl_fine, wl_off])
 refine Ev.bind (f := fun k (bt127 : List Int × Int) => ((layout_Size.f wl 7).bind fun t131 => (if t131 = 12 then (if ((4, 1, true) : Int × Int × Bool).2.2 = true then (if ((4, 1, true) : Int × Int × Bool).1 = 4 then (if ((4, 1, true) : Int × Int × Bool).2.1 = 1 then (if bt127.2 = 8 then ((spinetkeep_Same.f k bt127.1 (([0, 1, 4] : List Int))).bind fun t135 => (some t135)) else (some false)) else (some false)) else (some false)) else (some false)) else (some false)))) (a := ([0, 1, 4], 8)) ?_ ?_
 · exact Ev.eq (by unfold layout_Vars.f; rw [if_pos ⟨wl_fine, by decide⟩, wl_vars])
 refine Ev.bind (f := fun k (t131 : Int) => (if t131 = 12 then (if ((4, 1, true) : Int × Int × Bool).2.2 = true then (if ((4, 1, true) : Int × Int × Bool).1 = 4 then (if ((4, 1, true) : Int × Int × Bool).2.1 = 1 then (if (([0, 1, 4], 8) : List Int × Int).2 = 8 then ((spinetkeep_Same.f k (([0, 1, 4], 8) : List Int × Int).1 (([0, 1, 4] : List Int))).bind fun t135 => (some t135)) else (some false)) else (some false)) else (some false)) else (some false)) else (some false))) (a := 12) ?_ ?_
 · exact Ev.eq (by unfold layout_Size.f; rw [if_pos wl_fine, wl_size])
 refine Ev.congr (f := fun k => (spinetkeep_Same.f k [0, 1, 4] [0, 1, 4]).bind fun t135 => some t135) (fun k => rfl) ?_
 exact Ev.bind (Ev.of (fun k => spinetkeep_Same.mono _ _ k) (k := 9) (by kernel_rfl)) (Ev.eq rfl)
theorem wakes14_det {k : Nat} {r : Bool} (h : spinetlaw14_wakes.f k = some r) : r = true := by
 obtain ⟨K, hK⟩ := wakes14_is
 obtain ⟨K2, hK2⟩ := Ev.of (fun k => spinetlaw14_wakes.mono k) h
 have a1 := hK (max K K2) (Nat.le_max_left _ _)
 have a2 := hK2 (max K K2) (Nat.le_max_right _ _)
 exact Option.some.inj (a2.symm.trans a1)
end Go.Proofs.Ytgnbemgeiloegaa.Ly
namespace Go.Proofs.Ytgnbemgeiloegaa.PTypesGoods
open Go.RowKit Go.Proofs.Ytgnbemgeiloegaa.Tg
theorem spinetlaw14_wakes.calls (k : Nat) (r : Bool) (w : World) (h : spinetlaw14_wakes.f k = some r) :
 Calls Try.prog 13 #[] w fun e w' => e = .returned (.bool r) ∧ Below w.heap.size w w' :=
 spinetlaw14_wakes.calls0 k r ⟨Ly.wakes14_det h⟩ w h
end Go.Proofs.Ytgnbemgeiloegaa.PTypesGoods
