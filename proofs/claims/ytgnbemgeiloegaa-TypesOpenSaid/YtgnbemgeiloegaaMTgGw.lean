import Derived.Test.YtgnbemgeiloegaaMTgPr
import Derived.Test.YtgnbemgeiloegaaMTgLc
namespace Go.Proofs.Ytgnbemgeiloegaa.PTypesGoods
open Go.RowKit Go.Proofs.Ytgnbemgeiloegaa.Tg
open Go.Proofs.YtgnbemgeiloegaaW.PrintWords Go.Proofs.YtgnbemgeiloegaaW.PrintLast Go.Proofs.YtgnbemgeiloegaaW.PrintMore
set_option linter.unusedVariables false
open Classical
noncomputable def tables_Fits.f (l : List S40) (a : Int) (v : Bool) (b : Int) : Option Bool := if h : Parms l ∧ GoodR l ∧ InT l a ∧ InT l b then some (fitT l (Classical.choose (gd_deep h.2.1)) a b v) else none
theorem tables_Fits.calls (A0 : Option Addr) (c0 : Nat) (l0 : List S40) (a1 : Int) (v : Bool) (a2 : Int) (r : Bool) (w : World) (hr0 : Kd.C k40 w A0 l0.length l0) (hc0 : l0.length ≤ c0) (h : tables_Fits.f l0 a1 v a2 = some r) :
 Calls Try.prog 51 #[.slice A0 l0.length c0, .int .i64 a1, .agg #[.bool v, .int .i64 a2]] w fun e w' => e = .returned (.bool r) ∧ Below w.heap.size w w' := by
 unfold tables_Fits.f at h
 split at h
 ·
  rename_i hh
  cases h
  exact Fits_calls hr0 hc0 hh.1 hh.2.1 _ (Classical.choose_spec (gd_deep hh.2.1)) a1 a2 v hh.2.2.1 hh.2.2.2
 · cases h
theorem tables_Fits.is {l : List S40} {a b : Int} (v : Bool) (hp : Parms l) (hg : GoodR l) (ha : InT l a) (hb : InT l b) {n : Nat} (hn : Deep (insP l) n b) : tables_Fits.f l a v b = some (fitT l n a b v) := by
 unfold tables_Fits.f
 rw [dif_pos ⟨hp, hg, ha, hb⟩, fitT_fuel hg v ha hb hn (Classical.choose_spec (gd_deep hg) b hb)]
end Go.Proofs.Ytgnbemgeiloegaa.PTypesGoods
