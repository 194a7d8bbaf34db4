import Derived.Test.YtgnbemgeiloegaaMTgFi
import Derived.Test.YtgnbemgeiloegaaMTgW
import Derived.Test.YtgnbemgeiloegaaMTgEq
import Derived.Test.YtgnbemgeiloegaaMTgH
import Derived.Test.YtgnbemgeiloegaaMTgV
namespace Go.Proofs.Ytgnbemgeiloegaa.PTypesGoods
open Go.RowKit Go.Proofs.Ytgnbemgeiloegaa.Tg
open Go.Proofs.YtgnbemgeiloegaaW.PrintWords Go.Proofs.YtgnbemgeiloegaaW.PrintLast Go.Proofs.YtgnbemgeiloegaaW.PrintMore
set_option linter.unusedVariables false
open Classical
noncomputable def tables_Good.f (l : List S40) : Option Bool := if Sized l ∧ Parms l then some (goodP l) else none
theorem tables_Good.calls (A0 : Option Addr) (c0 : Nat) (l0 : List S40) (r : Bool) (w : World) (hr0 : Kd.C k40 w A0 l0.length l0) (hc0 : l0.length ≤ c0) (h : tables_Good.f l0 = some r) :
 Calls Try.prog 45 #[.slice A0 l0.length c0] w fun e w' => e = .returned (.bool r) ∧ Below w.heap.size w w' := by
 unfold tables_Good.f at h
 split at h
 ·
  rename_i hh
  cases h
  exact pgood_calls hr0 hc0 hh.1 hh.2
 · cases h
noncomputable def spinetref13_Good.f (l : List S40) : Option Bool := if Sized l ∧ Parms l then some (goodR l) else none
theorem spinetref13_Good.calls (A0 : Option Addr) (c0 : Nat) (l0 : List S40) (r : Bool) (w : World) (hr0 : Kd.C k40 w A0 l0.length l0) (hc0 : l0.length ≤ c0) (h : spinetref13_Good.f l0 = some r) :
 Calls Try.prog 23 #[.slice A0 l0.length c0] w fun e w' => e = .returned (.bool r) ∧ Below w.heap.size w w' := by
 unfold spinetref13_Good.f at h
 split at h
 ·
  rename_i hh
  cases h
  exact good_calls hr0 hc0 hh.1 hh.2
 · cases h
noncomputable def spinetref13_Copy.f (l : List S40) : Option (List S40) := if Parms l ∧ l.length ≤ 4000 then some l else none
theorem spinetref13_Copy.calls (A0 : Option Addr) (c0 : Nat) (l0 : List S40) (r : List S40) (w : World) (hr0 : Kd.C k40 w A0 l0.length l0) (hc0 : l0.length ≤ c0) (h : spinetref13_Copy.f l0 = some r) :
 Calls Try.prog 14 #[.slice A0 l0.length c0] w fun e w' => ∃ v0_ : Value, e = .returned (v0_) ∧ Kd.S k40 40 w' w.heap.size (fun _ => True) v0_ r ∧ Below w.heap.size w w' := by
 unfold spinetref13_Copy.f at h
 split at h
 ·
  rename_i hh
  cases h
  exact copy_calls hr0 hc0 hh.1 hh.2
 · cases h
noncomputable def tables_Same.f (l : List S40) (a b : Int) : Option Bool := if Parms l ∧ GoodR l ∧ InT l a ∧ InT l b then some (sameT l a b) else none
theorem tables_Same.calls (A0 : Option Addr) (c0 : Nat) (l0 : List S40) (a1 a2 : Int) (r : Bool) (w : World) (hr0 : Kd.C k40 w A0 l0.length l0) (hc0 : l0.length ≤ c0) (h : tables_Same.f l0 a1 a2 = some r) :
 Calls Try.prog 47 #[.slice A0 l0.length c0, .int .i64 a1, .int .i64 a2] w fun e w' => e = .returned (.bool r) ∧ Below w.heap.size w w' := by
 unfold tables_Same.f at h
 split at h
 ·
  rename_i hh
  cases h
  exact Same_calls hr0 hc0 hh.1 (gd_inner hh.2.1) a1 a2 hh.2.2.1 hh.2.2.2
 · cases h
noncomputable def tables_Extends.f (l : List S40) (a b : Int) : Option Bool := if Parms l ∧ GoodR l ∧ InT l a ∧ InT l b then some (extT l a b) else none
theorem tables_Extends.calls (A0 : Option Addr) (c0 : Nat) (l0 : List S40) (a1 a2 : Int) (r : Bool) (w : World) (hr0 : Kd.C k40 w A0 l0.length l0) (hc0 : l0.length ≤ c0) (h : tables_Extends.f l0 a1 a2 = some r) :
 Calls Try.prog 48 #[.slice A0 l0.length c0, .int .i64 a1, .int .i64 a2] w fun e w' => e = .returned (.bool r) ∧ Below w.heap.size w w' := by
 unfold tables_Extends.f at h
 split at h
 ·
  rename_i hh
  cases h
  exact Extends_calls hr0 hc0 hh.1 hh.2.1 a1 a2 hh.2.2.1 hh.2.2.2
 · cases h
noncomputable def tables_Assign.f (l : List S40) (a b : Int) : Option Bool := if Parms l ∧ GoodR l ∧ InT l a ∧ InT l b then some (asgT l a b) else none
theorem tables_Assign.calls (A0 : Option Addr) (c0 : Nat) (l0 : List S40) (a1 a2 : Int) (r : Bool) (w : World) (hr0 : Kd.C k40 w A0 l0.length l0) (hc0 : l0.length ≤ c0) (h : tables_Assign.f l0 a1 a2 = some r) :
 Calls Try.prog 49 #[.slice A0 l0.length c0, .int .i64 a1, .int .i64 a2] w fun e w' => e = .returned (.bool r) ∧ Below w.heap.size w w' := by
 unfold tables_Assign.f at h
 split at h
 ·
  rename_i hh
  cases h
  exact Assign_calls hr0 hc0 hh.1 hh.2.1 a1 a2 hh.2.2.1 hh.2.2.2
 · cases h
end Go.Proofs.Ytgnbemgeiloegaa.PTypesGoods
