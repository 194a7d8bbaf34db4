import Derived.Test.YtgnbemgeiloegaaMLyV
import Derived.Test.YtgnbemgeiloegaaMLyK
import Derived.Test.YtgnbemgeiloegaaMFLyK
import Derived.Test.YtgnbemgeiloegaaMEW
import Derived.Test.YtgnbemgeiloegaaMEPTypesGoodsx3
import Derived.Test.YtgnbemgeiloegaaMETgOpn
namespace Go.Proofs.Ytgnbemgeiloegaa.PTypesGoods
open Go.RowKit Go.Proofs.Ytgnbemgeiloegaa.Tg Go.Proofs.Ytgnbemgeiloegaa.Ly
open Go.Proofs.YtgnbemgeiloegaaW.PrintWords Go.Proofs.YtgnbemgeiloegaaW.PrintLast Go.Proofs.YtgnbemgeiloegaaW.PrintMore
set_option linter.unusedVariables false
open Classical
noncomputable def spinetref14_Size.f (l : List S40) (a : Int) : Option Int := if Fine l then some (sizeG l a) else none
theorem spinetref14_Size.calls (A0 : Option Addr) (c0 : Nat) (l0 : List S40) (a1 : Int) (r : Int) (w : World) (hr0 : Kd.C k40 w A0 l0.length l0) (hc0 : l0.length ≤ c0) (h : spinetref14_Size.f l0 a1 = some r) :
 Calls Try.prog 16 #[.slice A0 l0.length c0, .int .i64 a1] w fun e w' => e = .returned (.int .i64 r) ∧ Below w.heap.size w w' := by
 unfold spinetref14_Size.f at h
 split at h
 ·
  rename_i hh
  cases h
  exact size16 hh hr0 hc0 a1
 · cases h
end Go.Proofs.Ytgnbemgeiloegaa.PTypesGoods
