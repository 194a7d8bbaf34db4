import Derived.Test.YtgnbemgeiloegaaMTgOpn
import Derived.Test.YtgnbemgeiloegaaMETgOpn
import Derived.Test.YtgnbemgeiloegaaMEW
import Derived.Test.YtgnbemgeiloegaaMEPTypesGoodsx3
namespace Go.Proofs.Ytgnbemgeiloegaa.Tg
open Go.RowKit Go.Proofs.Ytgnbemgeiloegaa
open Go.ChangeShapes Go.WideShapes
open Go.Proofs.YtgnbemgeiloegaaW.PrintWords Go.Proofs.YtgnbemgeiloegaaW.PrintLast Go.Proofs.YtgnbemgeiloegaaW.PrintMore
open Go.Proofs.Ytgnbemgeiloegaa.PTypesGoods
set_option linter.unusedVariables false
section
variable {H : Type} {enc : TypeId × Value → H} {W : World} {sp : Nat → Bool} {held : Bool}
theorem el3 (n : Nat) (cs : List Value) (x : DataW H × List MemPlace) (h : DataW.trod enc Try.prog W 0 sp held n 3 cs = some x) (hw : Wt 3 x.1) : ∃ e : Int, (Kd.int .i64).K W e cs ∧ True := by
 obtain ⟨a, r, _⟩ := DataW.trod_int Try.underlying3 h
 exact ⟨a, r, trivial⟩
theorem ints_of {v : Value} {b0 : Nat} {d : DataW H} {p : List MemPlace} (hv : Value.okWide Try.prog W .any b0 32 v) (h : DataW.Trod enc Try.prog W 0 (fun _ => true) true 32 v d p) (hw : Wt 32 d) :
 ∃ (A : Option Addr) (l : List Int) (c : Nat), v = .slice A l.length c ∧ l.length ≤ c ∧ Kd.C (Kd.int .i64) W A l.length l := by
 obtain ⟨a, len, cap, rfl⟩ := okWide_slice Try.underlying32 hv
 obtain ⟨n, hn⟩ := h
 obtain ⟨A, l, c, hcs, hlc, hC, _, hq⟩ := slice_of (k := Kd.int .i64) Try.underlying32 co3 bo3 el3 hn hw
 simp [Value.cells] at hcs
 obtain ⟨rfl, rfl, rfl⟩ := hcs
 exact ⟨_, l, _, rfl, hlc, hC⟩
end
end Go.Proofs.Ytgnbemgeiloegaa.Tg
