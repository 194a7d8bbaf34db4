import Derived.Test.YtgnbemgeiloegaaMTgOpn
namespace Go.Proofs.Ytgnbemgeiloegaa.Tg
open Go.RowKit Go.Proofs.Ytgnbemgeiloegaa
open Go.Proofs.YtgnbemgeiloegaaW.PrintWords Go.Proofs.YtgnbemgeiloegaaW.PrintLast Go.Proofs.YtgnbemgeiloegaaW.PrintMore
open Go.ChangeShapes Go.WideShapes
set_option linter.unusedVariables false
set_option linter.unusedSimpArgs false
open Go.Proofs.Ytgnbemgeiloegaa.PTypesGoods (S40 S42 S47 k40 k42 k47 rd_T40 rd_T42 rd_T47 at_T40 at_T42 at_T47 k40_mk k42_mk k47_mk)
theorem bo3 : 1 ≤ Try.prog.bytesOf 3 := of_decide_eq_true (by kernel_rfl)
section
variable {H : Type} {enc : TypeId × Value → H} {W : World} {sp : Nat → Bool} {held : Bool}
end
end Go.Proofs.Ytgnbemgeiloegaa.Tg
