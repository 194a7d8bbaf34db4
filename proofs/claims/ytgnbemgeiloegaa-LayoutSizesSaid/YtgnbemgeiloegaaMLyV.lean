import Derived.Test.YtgnbemgeiloegaaMLyK
import Derived.Test.YtgnbemgeiloegaaMEW
import Derived.Test.YtgnbemgeiloegaaMEPTypesGoodsx3
import Derived.Test.YtgnbemgeiloegaaMETgOpn
namespace Go.Proofs.Ytgnbemgeiloegaa.PTypesGoods
open Go.RowKit Go.Proofs.Ytgnbemgeiloegaa.Tg Go.Proofs.Ytgnbemgeiloegaa.Ly
open Go.Proofs.YtgnbemgeiloegaaW.PrintWords Go.Proofs.YtgnbemgeiloegaaW.PrintLast Go.Proofs.YtgnbemgeiloegaaW.PrintMore
set_option linter.unusedVariables false
open Classical
noncomputable def layout_Size.f (l : List S40) (a : Int) : Option Int := if Fine l then some (sizeG l a) else none
theorem layout_Size.calls (A0 : Option Addr) (c0 : Nat) (l0 : List S40) (a1 : Int) (r : Int) (w : World) (hr0 : Kd.C k40 w A0 l0.length l0) (hc0 : l0.length ≤ c0) (h : layout_Size.f l0 a1 = some r) :
 Calls Try.prog 15 #[.slice A0 l0.length c0, .int .i64 a1] w fun e w' => e = .returned (.int .i64 r) ∧ Below w.heap.size w w' := by
 unfold layout_Size.f at h
 split at h
 ·
  rename_i hh
  cases h
  exact size15 hh hr0 hc0 a1
 · cases h
noncomputable def layout_Offset.f (l : List S40) (a : Int) (s : ByteArray) : Option (Int × Int × Bool) := if Fine l then some (offG l a s) else none
theorem layout_Offset.calls (A0 : Option Addr) (c0 : Nat) (l0 : List S40) (a1 : Int) (a2 : ByteArray) (r0 : Int) (r1 : Int) (r2 : Bool) (w : World) (hr0 : Kd.C k40 w A0 l0.length l0) (hc0 : l0.length ≤ c0) (h : layout_Offset.f l0 a1 a2 = some (r0, r1, r2)) :
 Calls Try.prog 18 #[.slice A0 l0.length c0, .int .i64 a1, .string a2] w fun e w' => e = .returned (.tuple #[.int .i64 r0, .int .i64 r1, .bool r2]) ∧ Below w.heap.size w w' := by
 unfold layout_Offset.f at h
 split at h
 ·
  rename_i hh
  have := offset18 hh hr0 hc0 a1 a2
  rw [Option.some.inj h] at this
  exact this
 · cases h
noncomputable def layout_Vars.f (l : List S40) (m : List Int) : Option (List Int × Int) := if Fine l ∧ m.length ≤ 1000000 then some (varG l m) else none
theorem layout_Vars.calls (A0 : Option Addr) (c0 : Nat) (l0 : List S40) (A1 : Option Addr) (c1 : Nat) (l1 : List Int) (r0 : List Int) (r1 : Int) (w : World) (hr0 : Kd.C k40 w A0 l0.length l0) (hc0 : l0.length ≤ c0) (hr1 : Kd.C (Kd.int .i64) w A1 l1.length l1) (hc1 : l1.length ≤ c1) (h : layout_Vars.f l0 l1 = some (r0, r1)) :
 Calls Try.prog 20 #[.slice A0 l0.length c0, .slice A1 l1.length c1] w fun e w' => ∃ v0_ : Value, e = .returned (.tuple #[v0_, .int .i64 r1]) ∧ Kd.R (Kd.int .i64) 3 w' w.heap.size (fun _ => True) v0_ r0 ∧ Below w.heap.size w w' := by
 unfold layout_Vars.f at h
 split at h
 ·
  rename_i hh
  have := vars20 hh.1 hr0 hc0 hr1 hc1 hh.2
  rw [Option.some.inj h] at this
  exact this
 · cases h
noncomputable def spinetref14_Vars.f (l : List S40) (m : List Int) : Option (List Int × Int) := if Fine l ∧ m.length ≤ 1000000 then some (varR l m) else none
theorem spinetref14_Vars.calls (A0 : Option Addr) (c0 : Nat) (l0 : List S40) (A1 : Option Addr) (c1 : Nat) (l1 : List Int) (r0 : List Int) (r1 : Int) (w : World) (hr0 : Kd.C k40 w A0 l0.length l0) (hc0 : l0.length ≤ c0) (hr1 : Kd.C (Kd.int .i64) w A1 l1.length l1) (hc1 : l1.length ≤ c1) (h : spinetref14_Vars.f l0 l1 = some (r0, r1)) :
 Calls Try.prog 21 #[.slice A0 l0.length c0, .slice A1 l1.length c1] w fun e w' => ∃ v0_ : Value, e = .returned (.tuple #[v0_, .int .i64 r1]) ∧ Kd.R (Kd.int .i64) 3 w' w.heap.size (fun _ => True) v0_ r0 ∧ Below w.heap.size w w' := by
 unfold spinetref14_Vars.f at h
 split at h
 ·
  rename_i hh
  have := vars21 hh.1 hr0 hc0 hr1 hc1 hh.2
  rw [Option.some.inj h] at this
  exact this
 · cases h
end Go.Proofs.Ytgnbemgeiloegaa.PTypesGoods
