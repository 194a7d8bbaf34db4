import Derived.Test.YtchkimmhallckaaScM
namespace Go.Proofs.Ytchkimmhallckaa.Sc
open Go.RowKit Go.Maps Go.WideMaps Go.Proofs.Ytchkimmhallckaa
open Go.Proofs.YtchkimmhallckaaW.PrintWords Go.Proofs.YtchkimmhallckaaW.PrintLast Go.Proofs.YtchkimmhallckaaW.PrintMore
set_option linter.unusedVariables false
set_option linter.unusedSimpArgs false

set_option maxHeartbeats 1000000 in
theorem none_calls (w : World) (s : ByteArray) (n : Int) : Calls Try.prog 6 #[.string s, .int .i64 n] w fun e w' => e = .returned (.bool true) ∧ Below w.heap.size w w' := by
  go_enter Try.func6, Try.ntmps6
  go_wp2_with fail
  refine (find_nil w s).mono ?_
  rintro e w1 ⟨rfl, rfl⟩
  rw [findV_none]
  go_wp2_with fail
  refine (open_nil _).mono ?_
  rintro e w1 ⟨rfl, rfl⟩
  go_wp2_with fail
  refine (close_nil _).mono ?_
  rintro e w1 ⟨rfl, rfl⟩
  go_wp2_with fail
  refine (declare_nil _ s n).mono ?_
  rintro e w1 ⟨rfl, rfl⟩
  go_wp2_with fail
  refine (Here_nil _).mono ?_
  rintro e w1 ⟨rfl, rfl⟩
  go_wp2_with fail
  refine (depth_nil _).mono ?_
  rintro e w1 ⟨rfl, rfl⟩
  go_wp2_with fail
  refine (wakes_calls _).mono ?_
  rintro e w2 ⟨rfl, hb⟩
  go_wp2
  go_ret
  exact ⟨rfl, hb⟩
end Go.Proofs.Ytchkimmhallckaa.Sc
