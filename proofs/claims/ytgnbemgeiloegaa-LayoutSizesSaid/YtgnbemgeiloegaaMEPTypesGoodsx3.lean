import Derived.Test.YtgnbemgeiloegaaMPTypesGoodsx3
namespace Go.Proofs.Ytgnbemgeiloegaa.PTypesGoods
open Go.RowKit Go.Proofs.YtgnbemgeiloegaaW.PrintWords Go.Proofs.YtgnbemgeiloegaaW.PrintLast Go.Proofs.YtgnbemgeiloegaaW.PrintMore
attribute [local go_sem] max2_int min2_int max_two min_two max_three min_three max_four min_four
set_option linter.unusedVariables false
set_option linter.unusedSimpArgs false
theorem spinetref13_Basic.mono_l : ∀ k, (∀ y0 y1, LeO (spinetref13_Basic.l0 k y0 y1) (spinetref13_Basic.l0 (k + 1) y0 y1))
 | 0 => fun _ _ r h => by simp [spinetref13_Basic.l0] at h
 | k + 1 => by
  have ih0 := spinetref13_Basic.mono_l k
  ·
   intro y0 y1
   unfold spinetref13_Basic.l0
   repeat' first
   | (with_reducible exact ih0 _ _)
   | (with_reducible exact LeO.refl _)
   | (with_reducible exact LeO.none _)
   | (with_reducible refine LeO.ite ?_ ?_)
   | (with_reducible refine LeO.bind ?_ (fun _ => ?_))
   | exact ih0 _ _
   | exact LeO.none _
   | refine LeO.ite ?_ ?_
   | refine LeO.bind ?_ (fun _ => ?_)
theorem spinetref13_Basic.mono : ∀ k, LeO (spinetref13_Basic.f k ) (spinetref13_Basic.f (k + 1) ) := by
 intro  k
 have ih0 := spinetref13_Basic.mono_l k
 unfold spinetref13_Basic.f
 repeat' first
  | (with_reducible exact ih0 _ _)
  | (with_reducible exact LeO.refl _)
  | (with_reducible exact LeO.none _)
  | (with_reducible refine LeO.ite ?_ ?_)
  | (with_reducible refine LeO.bind ?_ (fun _ => ?_))
  | exact ih0 _ _
  | exact LeO.none _
  | refine LeO.ite ?_ ?_
  | refine LeO.bind ?_ (fun _ => ?_)
end Go.Proofs.Ytgnbemgeiloegaa.PTypesGoods
