import Derived.Test.YtgnbemgeiloegaaMLyPs
import Derived.Test.YtgnbemgeiloegaaMEW
import Derived.Test.YtgnbemgeiloegaaMEPTypesGoodsx3
import Derived.Test.YtgnbemgeiloegaaMETgOpn
namespace Go.Proofs.Ytgnbemgeiloegaa.Ly
open Go.RowKit Go.Proofs.Ytgnbemgeiloegaa.Tg
open Go.Proofs.YtgnbemgeiloegaaW.PrintWords Go.Proofs.YtgnbemgeiloegaaW.PrintLast Go.Proofs.YtgnbemgeiloegaaW.PrintMore
set_option linter.unusedVariables false
set_option linter.unusedSimpArgs false
open Go.Proofs.Ytgnbemgeiloegaa.PTypesGoods
theorem wakeEnd : Ev (fun k => (spinetlaw14_wakes.f k).bind fun t => some t) true := Ev.bind wakes14_is (Ev.eq rfl)
theorem sizes_is {t : List S40} (hL : Lim t) (a : Int) : Ev (fun k => spinetlaw14_LayoutSizes.f k t a) true := by
 obtain ⟨r, hr, hp⟩ := large_is hL
 unfold spinetlaw14_LayoutSizes.f
 refine Ev.bind hr ?_
 cases r with
 | true =>
  simp only [eq_self, if_true]
  exact wakeEnd
 | false =>
  obtain ⟨h3, hp⟩ := hp rfl
  have hF : Fine t := ⟨lim_sized hL, hp⟩
  have hc : spinetref13_Copy.f t = some t := copy_is hF.parms (by omega)
  have e1 : layout_Size.f t a = some (sizeG t a) := by unfold layout_Size.f; rw [if_pos hF]
  have e2 : spinetref14_Size.f t a = some (sizeG t a) := by unfold spinetref14_Size.f; rw [if_pos hF]
  refine Ev.congr (f := fun k => (sameTabs.f k t t).bind fun t225 => (if t225 = true then ((spinetlaw14_wakes.f k).bind fun t226 => (some t226)) else (some false))) (fun k => ?_) ?_
  ·
   rw [if_neg (by decide), hc]
   show ((layout_Size.f t a).bind _) = _
   rw [e1, e2]
   show (if sizeG t a = sizeG t a then _ else _) = _
   rw [if_pos rfl]
  refine Ev.bind (f := fun k t225 => if t225 = true then ((spinetlaw14_wakes.f k).bind fun t226 => (some t226)) else (some false)) (a := true) ?_ ?_
  ·
   have e3 : ∀ k, sameTabs.f k t t = some true := fun k => by unfold sameTabs.f; rw [if_pos ⟨rfl, hF.parms, by omega⟩]
   exact Ev.one fun k => e3 (k + 1)
  simp only [eq_self, if_true]
  exact wakeEnd
theorem sizes_calls {w : World} {A : Option Addr} {c : Nat} {t : List S40} (hC : Kd.C k40 w A t.length t) (hc : t.length ≤ c) (hL : Lim t) (a : Int) :
 Calls Try.prog 3 #[.slice A t.length c, .int .i64 a] w fun e w' => e = .returned (.bool true) ∧ Below w.heap.size w w' := by
 obtain ⟨k, hk⟩ := (sizes_is hL a).rounds
 exact spinetlaw14_LayoutSizes.calls k A c t a true ⟨rfl⟩ w hC hc hk
end Go.Proofs.Ytgnbemgeiloegaa.Ly
