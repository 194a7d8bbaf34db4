import Derived.Test.YtgnbemgeiloegaaProg
import Derived.Below
import Derived.Deep.Draws
import Derived.Deep.AppendLies
import Derived.Maps.AppendAt
import Derived.OwnWalk
import Derived.Laws.BytesArg
import Derived.Laws.MakeOwn
import Derived.Laws.OwnMore
import Derived.Deep.OwnRows
import Derived.Tactics
import Derived.Lib.ConvBytes
import Derived.Laws.Slices
import Derived.WalkKit
import Derived.KernelRfl
import Derived.RowKit3
import Derived.Deep.LoopGhost
import Derived.Deep.QuietTactic
import Derived.BigQuiet
import Derived.WideLaws
import Derived.Deep.DeepCutAuto
import Derived.Deep.CutBlock
import Derived.Deep.RegionHeld3
import Derived.Laws.Rows
import Derived.Lib.AppendStr
import Derived.ArgAppend
import Derived.Laws.IdiomCopy
import Derived.OrdersHeld
import Derived.Laws.BitsLemmas
import Derived.RowKit
import Derived.Test.YtgnbemgeiloegaaMW
import Derived.Laws.StructEq
import Derived.Maps.OwnSet
import Derived.WideKeyArgs2
import Derived.DeepKeys4
import Derived.WideKeyEntry
namespace Go.Proofs.Ytgnbemgeiloegaa.PTypesGoods
open Go.RowKit Go.Proofs.YtgnbemgeiloegaaW.PrintWords Go.Proofs.YtgnbemgeiloegaaW.PrintLast Go.Proofs.YtgnbemgeiloegaaW.PrintMore
attribute [local go_sem] max2_int min2_int max_two min_two max_three min_three max_four min_four
set_option linter.unusedVariables false
set_option linter.unusedSimpArgs false
def errW : Option Int → Value
 | none => .nilIface
 | some c => .iface 0 (.int .i64 c)
theorem errW_none : errW none = .nilIface := rfl
theorem errW_some (c : Int) : errW (some c) = .iface 0 (.int .i64 c) := rfl
theorem info3 : (Try.prog.info? 3).map (fun i => (i.zero, i.size, i.bytes)) = some (some (.int .i64 0), 1, 8) := by kernel_rfl
theorem info40 : (Try.prog.info? 40).map (fun i => (i.zero, i.size, i.bytes)) = some (some (.agg #[(.int .i64 0), (.string ⟨#[]⟩), (.string ⟨#[]⟩), (.int .i64 0), (.int .i64 0), (.int .i64 0), (.slice none 0 0), (.slice none 0 0), (.int .i64 0), (.int .i64 0)]), 10, 128) := by kernel_rfl
theorem info42 : (Try.prog.info? 42).map (fun i => (i.zero, i.size, i.bytes)) = some (some (.agg #[(.string ⟨#[]⟩), (.bool false), (.int .i64 0)]), 3, 32) := by kernel_rfl
theorem info47 : (Try.prog.info? 47).map (fun i => (i.zero, i.size, i.bytes)) = some (some (.agg #[(.bool false), (.int .i64 0)]), 2, 16) := by kernel_rfl
structure S42 where
 f0 : ByteArray
 f1 : Bool
 f2 : Int
def z42 : S42 := ⟨(⟨#[]⟩ : ByteArray), false, (0 : Int)⟩
def k42 : Kd S42 := Kd.iso (Kd.pair Kd.string (Kd.pair Kd.bool (Kd.int .i64))) (fun x : S42 => (x.f0, x.f1, x.f2))
theorem k42_open {w : World} {x : S42} {cs : List Value} (h : k42.K w x cs) : cs = [.string x.f0, .bool x.f1, .int .i64 x.f2] := by
 obtain ⟨_, _, rfl, rfl, ⟨_, _, rfl, rfl, rfl⟩⟩ := h
 exact rfl
theorem k42_mk (w : World) (x : S42)  : k42.K w x [.string x.f0, .bool x.f1, .int .i64 x.f2] := ⟨[.string x.f0], [.bool x.f1, .int .i64 x.f2], rfl, rfl, ⟨[.bool x.f1], [.int .i64 x.f2], rfl, rfl, rfl⟩⟩
theorem k42_mkM (w : World) (base : Nat) (ok : Nat → Prop) (x : S42)  : k42.M w base ok x [.string x.f0, .bool x.f1, .int .i64 x.f2] := ⟨[.string x.f0], [.bool x.f1, .int .i64 x.f2], rfl, rfl, ⟨[.bool x.f1], [.int .i64 x.f2], rfl, rfl, rfl⟩⟩
def rd_T42 (xs : List S42) (i : Int) : S42 := xs.getD i.toNat z42
theorem at_T42 {w : World} {A : Option Addr} {n : Nat} {xs : List S42} (h : Kd.C k42 w A n xs) (i : Int) (h0 : 0 ≤ i) (h1 : i < n) : ∃ ad , A = some ad ∧ w.cell? (ad.add (i.toNat * 3)) = some (.string (rd_T42 xs i).f0) ∧ w.cell? ⟨(ad.add (i.toNat * 3)).block, (ad.add (i.toNat * 3)).off + 1, none⟩ = some (.bool (rd_T42 xs i).f1) ∧ w.cell? ⟨(ad.add (i.toNat * 3)).block, (ad.add (i.toNat * 3)).off + 2, none⟩ = some (.int .i64 (rd_T42 xs i).f2) := by
 obtain ⟨ad, c, e, _, hK, hc0⟩ := Kd.C_get h z42 i h0 h1
 have hc : ∀ j u, c[j]? = some u → w.cell? (ad.add (i.toNat * 3 + j)) = some u := hc0
 obtain rfl := k42_open hK
 exact ⟨ad, e, hc 0 _ rfl, by rw [← add_field _ _ 1 (by omega)]; exact hc 1 _ rfl, by rw [← add_field _ _ 2 (by omega)]; exact hc 2 _ rfl⟩
structure S47 where
 f0 : Bool
 f1 : Int
def z47 : S47 := ⟨false, (0 : Int)⟩
def k47 : Kd S47 := Kd.iso (Kd.pair Kd.bool (Kd.int .i64)) (fun x : S47 => (x.f0, x.f1))
theorem k47_open {w : World} {x : S47} {cs : List Value} (h : k47.K w x cs) : cs = [.bool x.f0, .int .i64 x.f1] := by
 obtain ⟨_, _, rfl, rfl, rfl⟩ := h
 exact rfl
theorem k47_mk (w : World) (x : S47)  : k47.K w x [.bool x.f0, .int .i64 x.f1] := ⟨[.bool x.f0], [.int .i64 x.f1], rfl, rfl, rfl⟩
theorem k47_mkM (w : World) (base : Nat) (ok : Nat → Prop) (x : S47)  : k47.M w base ok x [.bool x.f0, .int .i64 x.f1] := ⟨[.bool x.f0], [.int .i64 x.f1], rfl, rfl, rfl⟩
def rd_T47 (xs : List S47) (i : Int) : S47 := xs.getD i.toNat z47
theorem at_T47 {w : World} {A : Option Addr} {n : Nat} {xs : List S47} (h : Kd.C k47 w A n xs) (i : Int) (h0 : 0 ≤ i) (h1 : i < n) : ∃ ad , A = some ad ∧ w.cell? (ad.add (i.toNat * 2)) = some (.bool (rd_T47 xs i).f0) ∧ w.cell? ⟨(ad.add (i.toNat * 2)).block, (ad.add (i.toNat * 2)).off + 1, none⟩ = some (.int .i64 (rd_T47 xs i).f1) := by
 obtain ⟨ad, c, e, _, hK, hc0⟩ := Kd.C_get h z47 i h0 h1
 have hc : ∀ j u, c[j]? = some u → w.cell? (ad.add (i.toNat * 2 + j)) = some u := hc0
 obtain rfl := k47_open hK
 exact ⟨ad, e, hc 0 _ rfl, by rw [← add_field _ _ 1 (by omega)]; exact hc 1 _ rfl⟩
structure S40 where
 f0 : Int
 f1 : ByteArray
 f2 : ByteArray
 f3 : Int
 f4 : Int
 f5 : Int
 f6 : (List S42)
 f7 : (List S47)
 f8 : Int
 f9 : Int
def z40 : S40 := ⟨(0 : Int), (⟨#[]⟩ : ByteArray), (⟨#[]⟩ : ByteArray), (0 : Int), (0 : Int), (0 : Int), ([] : List S42), ([] : List S47), (0 : Int), (0 : Int)⟩
def k40 : Kd S40 := Kd.iso (Kd.pair (Kd.int .i64) (Kd.pair Kd.string (Kd.pair Kd.string (Kd.pair (Kd.int .i64) (Kd.pair (Kd.int .i64) (Kd.pair (Kd.int .i64) (Kd.pair (Kd.slice 42 k42) (Kd.pair (Kd.slice 47 k47) (Kd.pair (Kd.int .i64) (Kd.int .i64)))))))))) (fun x : S40 => (x.f0, x.f1, x.f2, x.f3, x.f4, x.f5, x.f6, x.f7, x.f8, x.f9))
theorem k40_open {w : World} {x : S40} {cs : List Value} (h : k40.K w x cs) : ∃ A6 c6 A7 c7, cs = [.int .i64 x.f0, .string x.f1, .string x.f2, .int .i64 x.f3, .int .i64 x.f4, .int .i64 x.f5, .slice A6 x.f6.length c6, .slice A7 x.f7.length c7, .int .i64 x.f8, .int .i64 x.f9] ∧ x.f6.length ≤ c6 ∧ k42.C w A6 x.f6.length x.f6 ∧ x.f7.length ≤ c7 ∧ k47.C w A7 x.f7.length x.f7 := by
 obtain ⟨_, _, rfl, rfl, ⟨_, _, rfl, rfl, ⟨_, _, rfl, rfl, ⟨_, _, rfl, rfl, ⟨_, _, rfl, rfl, ⟨_, _, rfl, rfl, ⟨_, _, rfl, ⟨A6, c6, rfl, l6, g6⟩, ⟨_, _, rfl, ⟨A7, c7, rfl, l7, g7⟩, ⟨_, _, rfl, rfl, rfl⟩⟩⟩⟩⟩⟩⟩⟩⟩ := h
 exact ⟨A6, c6, A7, c7, rfl, l6, g6, l7, g7⟩
theorem k40_mk (w : World) (x : S40) {A6 : Option Addr} {c6 : Nat} (l6 : x.f6.length ≤ c6) (g6 : k42.C w A6 x.f6.length x.f6) {A7 : Option Addr} {c7 : Nat} (l7 : x.f7.length ≤ c7) (g7 : k47.C w A7 x.f7.length x.f7) : k40.K w x [.int .i64 x.f0, .string x.f1, .string x.f2, .int .i64 x.f3, .int .i64 x.f4, .int .i64 x.f5, .slice A6 x.f6.length c6, .slice A7 x.f7.length c7, .int .i64 x.f8, .int .i64 x.f9] := ⟨[.int .i64 x.f0], [.string x.f1, .string x.f2, .int .i64 x.f3, .int .i64 x.f4, .int .i64 x.f5, .slice A6 x.f6.length c6, .slice A7 x.f7.length c7, .int .i64 x.f8, .int .i64 x.f9], rfl, rfl, ⟨[.string x.f1], [.string x.f2, .int .i64 x.f3, .int .i64 x.f4, .int .i64 x.f5, .slice A6 x.f6.length c6, .slice A7 x.f7.length c7, .int .i64 x.f8, .int .i64 x.f9], rfl, rfl, ⟨[.string x.f2], [.int .i64 x.f3, .int .i64 x.f4, .int .i64 x.f5, .slice A6 x.f6.length c6, .slice A7 x.f7.length c7, .int .i64 x.f8, .int .i64 x.f9], rfl, rfl, ⟨[.int .i64 x.f3], [.int .i64 x.f4, .int .i64 x.f5, .slice A6 x.f6.length c6, .slice A7 x.f7.length c7, .int .i64 x.f8, .int .i64 x.f9], rfl, rfl, ⟨[.int .i64 x.f4], [.int .i64 x.f5, .slice A6 x.f6.length c6, .slice A7 x.f7.length c7, .int .i64 x.f8, .int .i64 x.f9], rfl, rfl, ⟨[.int .i64 x.f5], [.slice A6 x.f6.length c6, .slice A7 x.f7.length c7, .int .i64 x.f8, .int .i64 x.f9], rfl, rfl, ⟨[.slice A6 x.f6.length c6], [.slice A7 x.f7.length c7, .int .i64 x.f8, .int .i64 x.f9], rfl, ⟨A6, c6, rfl, l6, g6⟩, ⟨[.slice A7 x.f7.length c7], [.int .i64 x.f8, .int .i64 x.f9], rfl, ⟨A7, c7, rfl, l7, g7⟩, ⟨[.int .i64 x.f8], [.int .i64 x.f9], rfl, rfl, rfl⟩⟩⟩⟩⟩⟩⟩⟩⟩
theorem k40_mkM (w : World) (base : Nat) (ok : Nat → Prop) (x : S40) {v6 : Value} (g6 : k42.R 42 w base ok v6 x.f6) {v7 : Value} (g7 : k47.R 47 w base ok v7 x.f7) : k40.M w base ok x [.int .i64 x.f0, .string x.f1, .string x.f2, .int .i64 x.f3, .int .i64 x.f4, .int .i64 x.f5, v6, v7, .int .i64 x.f8, .int .i64 x.f9] := ⟨[.int .i64 x.f0], [.string x.f1, .string x.f2, .int .i64 x.f3, .int .i64 x.f4, .int .i64 x.f5, v6, v7, .int .i64 x.f8, .int .i64 x.f9], rfl, rfl, ⟨[.string x.f1], [.string x.f2, .int .i64 x.f3, .int .i64 x.f4, .int .i64 x.f5, v6, v7, .int .i64 x.f8, .int .i64 x.f9], rfl, rfl, ⟨[.string x.f2], [.int .i64 x.f3, .int .i64 x.f4, .int .i64 x.f5, v6, v7, .int .i64 x.f8, .int .i64 x.f9], rfl, rfl, ⟨[.int .i64 x.f3], [.int .i64 x.f4, .int .i64 x.f5, v6, v7, .int .i64 x.f8, .int .i64 x.f9], rfl, rfl, ⟨[.int .i64 x.f4], [.int .i64 x.f5, v6, v7, .int .i64 x.f8, .int .i64 x.f9], rfl, rfl, ⟨[.int .i64 x.f5], [v6, v7, .int .i64 x.f8, .int .i64 x.f9], rfl, rfl, ⟨[v6], [v7, .int .i64 x.f8, .int .i64 x.f9], rfl, ⟨v6, rfl, g6⟩, ⟨[v7], [.int .i64 x.f8, .int .i64 x.f9], rfl, ⟨v7, rfl, g7⟩, ⟨[.int .i64 x.f8], [.int .i64 x.f9], rfl, rfl, rfl⟩⟩⟩⟩⟩⟩⟩⟩⟩
theorem k40_mkF (W : World) (ok : Nat → Prop) (x : S40) {A6 : Option Addr} {c6 : Nat} (l6 : x.f6.length ≤ c6) (g6 : Kd.F k42 W ok A6 x.f6.length x.f6) {A7 : Option Addr} {c7 : Nat} (l7 : x.f7.length ≤ c7) (g7 : Kd.F k47 W ok A7 x.f7.length x.f7) : Kd.FK k40 W ok x [.int .i64 x.f0, .string x.f1, .string x.f2, .int .i64 x.f3, .int .i64 x.f4, .int .i64 x.f5, .slice A6 x.f6.length c6, .slice A7 x.f7.length c7, .int .i64 x.f8, .int .i64 x.f9] := fun W2 hW => k40_mk W2 x l6 (g6 W2 hW) l7 (g7 W2 hW)
def rd_T40 (xs : List S40) (i : Int) : S40 := xs.getD i.toNat z40
theorem at_T40 {w : World} {A : Option Addr} {n : Nat} {xs : List S40} (h : Kd.C k40 w A n xs) (i : Int) (h0 : 0 ≤ i) (h1 : i < n) : ∃ ad A6 c6 A7 c7, A = some ad ∧ w.cell? (ad.add (i.toNat * 10)) = some (.int .i64 (rd_T40 xs i).f0) ∧ w.cell? ⟨(ad.add (i.toNat * 10)).block, (ad.add (i.toNat * 10)).off + 1, none⟩ = some (.string (rd_T40 xs i).f1) ∧ w.cell? ⟨(ad.add (i.toNat * 10)).block, (ad.add (i.toNat * 10)).off + 2, none⟩ = some (.string (rd_T40 xs i).f2) ∧ w.cell? ⟨(ad.add (i.toNat * 10)).block, (ad.add (i.toNat * 10)).off + 3, none⟩ = some (.int .i64 (rd_T40 xs i).f3) ∧ w.cell? ⟨(ad.add (i.toNat * 10)).block, (ad.add (i.toNat * 10)).off + 4, none⟩ = some (.int .i64 (rd_T40 xs i).f4) ∧ w.cell? ⟨(ad.add (i.toNat * 10)).block, (ad.add (i.toNat * 10)).off + 5, none⟩ = some (.int .i64 (rd_T40 xs i).f5) ∧ w.cell? ⟨(ad.add (i.toNat * 10)).block, (ad.add (i.toNat * 10)).off + 6, none⟩ = some (.slice A6 (rd_T40 xs i).f6.length c6) ∧ w.cell? ⟨(ad.add (i.toNat * 10)).block, (ad.add (i.toNat * 10)).off + 7, none⟩ = some (.slice A7 (rd_T40 xs i).f7.length c7) ∧ w.cell? ⟨(ad.add (i.toNat * 10)).block, (ad.add (i.toNat * 10)).off + 8, none⟩ = some (.int .i64 (rd_T40 xs i).f8) ∧ w.cell? ⟨(ad.add (i.toNat * 10)).block, (ad.add (i.toNat * 10)).off + 9, none⟩ = some (.int .i64 (rd_T40 xs i).f9) ∧ (rd_T40 xs i).f6.length ≤ c6 ∧ k42.C w A6 (rd_T40 xs i).f6.length (rd_T40 xs i).f6 ∧ (rd_T40 xs i).f7.length ≤ c7 ∧ k47.C w A7 (rd_T40 xs i).f7.length (rd_T40 xs i).f7 := by
 obtain ⟨ad, c, e, _, hK, hc0⟩ := Kd.C_get h z40 i h0 h1
 have hc : ∀ j u, c[j]? = some u → w.cell? (ad.add (i.toNat * 10 + j)) = some u := hc0
 obtain ⟨A6, c6, A7, c7, rfl, l6, g6, l7, g7⟩ := k40_open hK
 exact ⟨ad, A6, c6, A7, c7, e, hc 0 _ rfl, by rw [← add_field _ _ 1 (by omega)]; exact hc 1 _ rfl, by rw [← add_field _ _ 2 (by omega)]; exact hc 2 _ rfl, by rw [← add_field _ _ 3 (by omega)]; exact hc 3 _ rfl, by rw [← add_field _ _ 4 (by omega)]; exact hc 4 _ rfl, by rw [← add_field _ _ 5 (by omega)]; exact hc 5 _ rfl, by rw [← add_field _ _ 6 (by omega)]; exact hc 6 _ rfl, by rw [← add_field _ _ 7 (by omega)]; exact hc 7 _ rfl, by rw [← add_field _ _ 8 (by omega)]; exact hc 8 _ rfl, by rw [← add_field _ _ 9 (by omega)]; exact hc 9 _ rfl, l6, g6, l7, g7⟩
end Go.Proofs.Ytgnbemgeiloegaa.PTypesGoods
namespace Go.Proofs.Ytgnbemgeiloegaa.Tg
open Go.RowKit Go.Maps Go.WideMaps
open Go.Proofs.YtgnbemgeiloegaaW.PrintWords Go.Proofs.YtgnbemgeiloegaaW.PrintLast Go.Proofs.YtgnbemgeiloegaaW.PrintMore
theorem keyS : Keyed Try.prog 9 := string_keyed Try.underlying9
theorem zero3 (w : World) : (zeroValue 3).run Try.prog w = .ok (.int .i64 0) w := by kernel_rfl
theorem key9 {s : ByteArray} (h2 : s.size ≤ maxLen) : ∃ kl, keyOf Try.prog 9 (.string s) = some kl := ⟨_, keyOf_string_mk Try.underlying9 h2⟩
def MapS (w : World) (mp : Value) (N : Nat) (M : ByteArray → Option Int) : Prop :=
 ∃ b, ∃ D : DataW Unit, mp = .map (some b) ∧ w.ownsMap Try.prog 9 (plainElem Try.prog 3) b N D ∧
  ∀ s kl, keyOf Try.prog 9 (.string s) = some kl → Maps.has D kl = (M s).isSome ∧ ∀ c, M s = some c → D.atKey kl (.lit (.int .i64 0)) = .lit (.int .i64 c)
theorem MapS.look {w : World} {mp : Value} {N : Nat} {M : ByteArray → Option Int} (h : MapS w mp N M) {s : ByteArray} (h2 : s.size ≤ maxLen) :
 (Instr.lookup 80 mp (.string s) false).run Try.prog w = .ok (.int .i64 ((M s).getD 0)) w := by
 obtain ⟨kl, hk⟩ := key9 h2
 obtain ⟨b, D, rfl, ho, hM⟩ := h
 obtain ⟨c, hr, hc1, _⟩ := ho.lookup_int keyS Try.underlying80 Try.underlying3 (zero3 w) hk
 rw [hr]
 obtain ⟨m1, m2⟩ := hM s kl hk
 cases hm : M s with
 | none =>
  rw [hm] at m1
  rw [Maps.atKey_of_not_has m1] at hc1
  cases hc1
  rfl
 | some x =>
  rw [m2 x hm] at hc1
  cases hc1
  rfl
def putS (M : ByteArray → Option Int) (s : ByteArray) (o : Option Int) : ByteArray → Option Int := fun b => if b = s then o else M b
theorem MapS.store {w : World} {b : Nat} {N : Nat} {M : ByteArray → Option Int} (h : MapS w (.map (some b)) N M) (hN : N < maxLen) {x : Int} {s : ByteArray} (h2 : s.size ≤ maxLen) (h3 : (Lit.int .i64 x).wf = true) :
 ∃ w', (Instr.mapUpdate 80 (.map (some b)) (.string s) (.int .i64 x)).run Try.prog w = .ok () w' ∧ MapS w' (.map (some b)) (N + 1) (putS M s (some x)) ∧ w.grownBy w' (some b) := by
 obtain ⟨kl, hk⟩ := key9 h2
 obtain ⟨b', D, hb, ho, hM⟩ := h
 cases hb
 obtain ⟨w', hr, ho', hg⟩ := ho.update keyS Try.underlying80 hN hk (plainElem_int Try.underlying3 h3)
 refine ⟨w', hr, ⟨b, _, rfl, ho', ?_⟩, hg⟩
 intro s' kl' hk'
 obtain ⟨m1, m2⟩ := hM s' kl' hk'
 by_cases e : s' = s
 ·
  subst e
  rw [hk] at hk'
  cases hk'
  have hp : putS M s' (some x) s' = some x := by simp [putS]
  rw [hp, Maps.has_put_same ho.isMap (keyS.key hk)]
  refine ⟨rfl, fun c hc => ?_⟩
  cases hc
  exact Maps.atKey_put_same ho.isMap (keyS.key hk) _ _
 ·
  have hne : kl' ≠ kl := fun e' => by
   subst e'
   have := keyS.inj hk' hk
   simp only [Value.string.injEq] at this
   exact e this
  have hp : putS M s (some x) s' = M s' := by simp only [putS]; rw [if_neg e]
  rw [hp, Maps.has_put_other hne, Maps.atKey_put_other hne]
  exact ⟨m1, m2⟩
theorem MapS.made (w : World) : MapS (w.alloc (.map #[] 0)) (.map (some w.heap.size)) 0 (fun _ => none) :=
 ⟨_, .map [], rfl, World.ownsMap_made w Try.prog 9 _, fun _ _ _ => ⟨rfl, fun c hc => by cases hc⟩⟩
theorem MapS.kept {w w' : World} {b N : Nat} {M : ByteArray → Option Int} (h : MapS w (.map (some b)) N M) (hk : w'.heap[b]? = w.heap[b]?) : MapS w' (.map (some b)) N M := by
 obtain ⟨b', D, hb, ho, hM⟩ := h
 cases hb
 refine ⟨b, D, rfl, ?_, hM⟩
 obtain ⟨es, clock, hb, r⟩ := ho
 exact ⟨es, clock, hk.trans hb, r⟩
theorem MapS.lt {w : World} {b N : Nat} {M : ByteArray → Option Int} (h : MapS w (.map (some b)) N M) : b < w.heap.size := by
 obtain ⟨b', D, hb, ho, hM⟩ := h
 cases hb
 exact ho.lt
end Go.Proofs.Ytgnbemgeiloegaa.Tg
namespace Go.Proofs.Ytgnbemgeiloegaa.Tg
open Go.RowKit Go.Maps Go.WideMaps
open Go.Proofs.YtgnbemgeiloegaaW.PrintWords Go.Proofs.YtgnbemgeiloegaaW.PrintLast Go.Proofs.YtgnbemgeiloegaaW.PrintMore
set_option linter.unusedVariables false
open Classical
theorem laidOut : laidOutB Try.prog = true := by kernel_rfl
theorem klaw72 : WideMaps.KeyLaw Try.prog 72 := deep_law_laid laidOut (m := 3) (by omega) (of_decide_eq_true (by kernel_rfl)) (by kernel_rfl) (by kernel_rfl)
theorem klaw83 : WideMaps.KeyLaw Try.prog 83 := deep_law_laid laidOut (m := 3) (by omega) (of_decide_eq_true (by kernel_rfl)) (by kernel_rfl) (by kernel_rfl)
def MapG (K : TypeId) (w : World) (mp : Value) (N : Nat) (M : Value → Option Int) : Prop :=
 ∃ b, ∃ D : DataW Unit, mp = .map (some b) ∧ w.ownsMap Try.prog K (plainElem Try.prog 3) b N D ∧
  ∀ v kl, keyOf Try.prog K v = some kl → Maps.has D kl = (M v).isSome ∧ ∀ c, M v = some c → D.atKey kl (.lit (.int .i64 0)) = .lit (.int .i64 c)
theorem MapG.look {K T : TypeId} (law : Keyed Try.prog K) (ht : Try.prog.underlying T = some (.map K 3)) {w : World} {mp : Value} {N : Nat} {M : Value → Option Int} (h : MapG K w mp N M) {v : Value} {kl : Lit} (hk : keyOf Try.prog K v = some kl) :
 (Instr.lookup T mp v false).run Try.prog w = .ok (.int .i64 ((M v).getD 0)) w := by
 obtain ⟨b, D, rfl, ho, hM⟩ := h
 obtain ⟨c, hr, hc1, _⟩ := ho.lookup_int law ht Try.underlying3 (zero3 w) hk
 rw [hr]
 obtain ⟨m1, m2⟩ := hM v kl hk
 cases hm : M v with
 | none =>
  rw [hm] at m1
  rw [Maps.atKey_of_not_has m1] at hc1
  cases hc1
  rfl
 | some x =>
  rw [m2 x hm] at hc1
  cases hc1
  rfl
noncomputable def putG (M : Value → Option Int) (v : Value) (o : Option Int) : Value → Option Int := fun u => if u = v then o else M u
theorem MapG.store {K T : TypeId} (law : Keyed Try.prog K) (ht : Try.prog.underlying T = some (.map K 3)) {w : World} {b N : Nat} {M : Value → Option Int} (h : MapG K w (.map (some b)) N M) (hN : N < maxLen) {x : Int} {v : Value} {kl : Lit} (hk : keyOf Try.prog K v = some kl) (h3 : (Lit.int .i64 x).wf = true) :
 ∃ w', (Instr.mapUpdate T (.map (some b)) v (.int .i64 x)).run Try.prog w = .ok () w' ∧ MapG K w' (.map (some b)) (N + 1) (putG M v (some x)) ∧ w.grownBy w' (some b) := by
 obtain ⟨b', D, hb, ho, hM⟩ := h
 cases hb
 obtain ⟨w', hr, ho', hg⟩ := ho.update law ht hN hk (plainElem_int Try.underlying3 h3)
 refine ⟨w', hr, ⟨b, _, rfl, ho', ?_⟩, hg⟩
 intro v' kl' hk'
 obtain ⟨m1, m2⟩ := hM v' kl' hk'
 by_cases e : v' = v
 ·
  subst e
  rw [hk] at hk'
  cases hk'
  have hp : putG M v' (some x) v' = some x := by simp [putG]
  rw [hp, Maps.has_put_same ho.isMap (law.key hk)]
  refine ⟨rfl, fun c hc => ?_⟩
  cases hc
  exact Maps.atKey_put_same ho.isMap (law.key hk) _ _
 ·
  have hne : kl' ≠ kl := fun e' => by
   subst e'
   exact e (law.inj hk' hk)
  have hp : putG M v (some x) v' = M v' := by simp only [putG]; rw [if_neg e]
  rw [hp, Maps.has_put_other hne, Maps.atKey_put_other hne]
  exact ⟨m1, m2⟩
theorem MapG.entry {K T : TypeId} (kl0 : WideMaps.KeyLaw Try.prog K) (ht : Try.prog.underlying T = some (.map K 3)) {w : World} {b N : Nat} {M : Value → Option Int} (h : MapG K w (.map (some b)) N M) (hN : N < maxLen) {x : Int} {v : Value} {kl : Lit} (hk : keyOf Try.prog K v = some kl) (h3 : (Lit.int .i64 x).wf = true) :
 ∃ (v0 : Value) (st : Nat) (wm w' : World), (Instr.mapEntry T (.map (some b)) v).run Try.prog w = .ok (.tuple #[v0, goInt st]) wm ∧ (Instr.entryStore T (.map (some b)) (goInt st) (.int .i64 x)).run Try.prog wm = .ok () w' ∧ MapG K w' (.map (some b)) (N + 1) (putG M v (some x)) ∧ w.grownBy w' (some b) ∧ ∀ a : Addr, a.block ≠ b → wm.cell? a = w.cell? a := by
 obtain ⟨w', hr, hM', hg⟩ := h.store (Keyed.of_law kl0) ht hN hk h3
 obtain ⟨b', D, hb, ho, hM⟩ := h
 cases hb
 obtain ⟨es, clock, hb, F, -, -⟩ := ho
 obtain ⟨v0, st, es1, clock1, he, -, hs⟩ := WideElems.entry_then_store kl0 ht (fun u => zero3 u) hb F hk
 have hlt : b < w.heap.size := by
  rcases Nat.lt_or_ge b w.heap.size with h' | h'
  · exact h'
  · simp [Array.getElem?_eq_none h'] at hb
 obtain ⟨es', clock', hs1, hs2⟩ := hs (Go.ChangeMaps.setBlock w b (.map es1 clock1)) (.int .i64 x) (by simp [Go.ChangeMaps.setBlock, hlt])
 rw [hs2] at hr
 have e : w' = Go.ChangeMaps.setBlock (Go.ChangeMaps.setBlock w b (.map es1 clock1)) b (.map es' clock') := by
  cases hr
  simp [Go.ChangeMaps.setBlock]
 refine ⟨v0, st, _, w', he, by rw [e]; exact hs1, hM', hg, fun a ha => ?_⟩
 unfold World.cell?
 have : (ChangeMaps.setBlock w b (.map es1 clock1)).heap[a.block]? = w.heap[a.block]? := by
  simp only [ChangeMaps.setBlock]
  rw [Array.getElem?_setIfInBounds, if_neg (Ne.symm ha)]
 rw [this]
theorem MapG.made (K : TypeId) (w : World) : MapG K (w.alloc (.map #[] 0)) (.map (some w.heap.size)) 0 (fun _ => none) :=
 ⟨_, .map [], rfl, World.ownsMap_made w Try.prog K _, fun _ _ _ => ⟨rfl, fun c hc => by cases hc⟩⟩
theorem MapG.kept {K : TypeId} {w w' : World} {b N : Nat} {M : Value → Option Int} (h : MapG K w (.map (some b)) N M) (hk : w'.heap[b]? = w.heap[b]?) : MapG K w' (.map (some b)) N M := by
 obtain ⟨b', D, hb, ho, hM⟩ := h
 cases hb
 refine ⟨b, D, rfl, ?_, hM⟩
 obtain ⟨es, clock, hb, r⟩ := ho
 exact ⟨es, clock, hk.trans hb, r⟩
theorem MapG.entry_wm {K T : TypeId} (kl0 : WideMaps.KeyLaw Try.prog K) (ht : Try.prog.underlying T = some (.map K 3)) {w : World} {b N : Nat} {M : Value → Option Int} (h : MapG K w (.map (some b)) N M) (hN : N < maxLen) {v : Value} {kl : Lit} (hk : keyOf Try.prog K v = some kl) {r : Value} {wm : World}
 (he : (Instr.mapEntry T (.map (some b)) v).run Try.prog w = .ok r wm) : (Instr.lookup T (.map (some b)) v false).run Try.prog wm = .ok (.int .i64 ((M v).getD 0)) wm := by
 have hh := h
 obtain ⟨b', D, hb, ho, hM⟩ := h
 cases hb
 obtain ⟨es, clock, hb, F, -, -⟩ := ho
 have hlt : b < w.heap.size := by
  rcases Nat.lt_or_ge b w.heap.size with h' | h'
  · exact h'
  · simp [Array.getElem?_eq_none h'] at hb
 have hz : ∀ u : World, (zeroValue 3).run Try.prog u = .ok (.int .i64 0) u := fun u => zero3 u
 rcases kl0.find w hk es.toList F.keys with ⟨h1, h2⟩ | ⟨j, e0, h1, h2, h3⟩
 ·
  have e1 : (Instr.mapEntry T (.map (some b)) v).run Try.prog w = .ok (.tuple #[.int .i64 0, goInt clock]) (ChangeMaps.setBlock w b (.map (es.push ⟨v, .int .i64 0, clock⟩) (clock + 1))) := by
   simp [Instr.mapEntry, run_underlying ht, MapKept.run_getObj_map hb, kl0.check w false hk, h1, hz, MapKept.run_setObj_map _ hb, Result.andThen, ChangeMaps.setBlock]
  have e2 : (Instr.mapUpdate T (.map (some b)) v (.int .i64 0)).run Try.prog w = .ok () (ChangeMaps.setBlock w b (.map (es.push ⟨v, .int .i64 0, clock⟩) (clock + 1))) := by
   simp [Instr.mapUpdate, run_underlying ht, MapKept.run_getObj_map hb, kl0.check w false hk, h1, MapKept.run_setObj_map _ hb, Result.andThen, ChangeMaps.setBlock]
  rw [he] at e1
  cases e1
  obtain ⟨w', hr, hM', _⟩ := hh.store (Keyed.of_law kl0) ht hN hk (x := 0) (by decide)
  rw [e2] at hr
  cases hr
  have hl := hM'.look (Keyed.of_law kl0) ht hk
  rw [hl]
  have hl0 := hh.look (Keyed.of_law kl0) ht hk
  have hl1 : (Instr.lookup T (.map (some b)) v false).run Try.prog w = .ok (.int .i64 0) w := by
   simp [Instr.lookup, run_underlying ht, MapKept.run_getObj_map hb, kl0.check w _ hk, h1, hz, Result.andThen]
  rw [hl1] at hl0
  have hc : (M v).getD 0 = 0 := by
   injection hl0 with q1
   injection q1 with q2 q3
   exact q3.symm
  rw [hc]
  simp [putG]
 ·
  have hj : es[j]? = some e0 := by simpa using h2
  have hsame : es.modify j (fun e => { e with key := v }) = es := by
   apply Array.ext'
   rw [Array.toList_modify, ChangeMaps.modify_eq_set _ _ _ _ h2]
   have : ({ e0 with key := v } : MapEntry) = e0 := by rw [← h3]
   rw [this]
   exact WideElems.set_self _ _ _ h2
  have e1 : (Instr.mapEntry T (.map (some b)) v).run Try.prog w = .ok (.tuple #[e0.val, goInt e0.born]) (ChangeMaps.setBlock w b (.map es clock)) := by
   simp [Instr.mapEntry, run_underlying ht, MapKept.run_getObj_map hb, kl0.check w false hk, h1, hj, h3, kl0.stays w hk, hsame, MapKept.run_setObj_map _ hb, Result.andThen, ChangeMaps.setBlock]
  rw [he] at e1
  cases e1
  exact (hh.kept (by rw [hb]; simp [ChangeMaps.setBlock, hlt])).look (Keyed.of_law kl0) ht hk
theorem MapG.more {K : TypeId} {w : World} {mp : Value} {N : Nat} {M : Value → Option Int} (h : MapG K w mp N M) : MapG K w mp (N + 1) M := by
 obtain ⟨b, D, hb, ho, hM⟩ := h
 exact ⟨b, D, hb, ho.mono (Nat.le_succ _), hM⟩
theorem MapG.lt {K : TypeId} {w : World} {b N : Nat} {M : Value → Option Int} (h : MapG K w (.map (some b)) N M) : b < w.heap.size := by
 obtain ⟨b', D, hb, ho, hM⟩ := h
 cases hb
 exact ho.lt
def keyR (s : ByteArray) (d : Int) : Value := .agg #[.string s, .int .i64 d]
theorem key72 {d : Int} {s : ByteArray} (h1 : (Lit.int .i64 d).wf = true) (h2 : s.size ≤ maxLen) : ∃ kl, keyOf Try.prog 72 (keyR s d) = some kl := by
 have e1 : Try.prog.keyType 72 = true := by kernel_rfl
 have c3 : Try.prog.cellsOf 72 = 2 := by kernel_rfl
 have c1 : Try.prog.cellsOf 3 = 1 := by kernel_rfl
 have c2 : Try.prog.cellsOf 9 = 1 := by kernel_rfl
 have e2 : (keyR s d).formed Try.prog 72 = true := by
  obtain ⟨fs, hu⟩ : ∃ fs, Try.prog.underlying 72 = some (.struct fs) := ⟨_, Try.underlying72⟩
  simp [keyR, Value.formed, hu, c3]
 have e3 : ∃ ls, Try.prog.keyLits (Try.prog.types.size + 1) 72 (keyR s d).cells.toList = some ls := by
  obtain ⟨n, hn⟩ : ∃ n, Try.prog.types.size + 1 = n + 2 := by
   have : (72 : Nat) < Try.prog.types.size := of_decide_eq_true (by kernel_rfl)
   exact ⟨Try.prog.types.size - 1, by omega⟩
  rw [hn]
  simp only [keyR, Value.cells]
  unfold Program.keyLits
  simp only [Try.underlying72]
  rw [if_pos (by constructor <;> simp [c3])]
  simp [Program.keyLits, c1, c2, Try.underlying3, Try.underlying9, h1, h2]
 obtain ⟨ls, e3⟩ := e3
 exact ⟨_, by simp only [keyOf, Try.underlying72]; rw [e1, e2, e3]; rfl⟩
def keyP (a b : Int) : Value := .agg #[.int .i64 a, .int .i64 b]
theorem key83 {a b : Int} (h1 : (Lit.int .i64 a).wf = true) (h2 : (Lit.int .i64 b).wf = true) : ∃ kl, keyOf Try.prog 83 (keyP a b) = some kl := by
 have e1 : Try.prog.keyType 83 = true := by kernel_rfl
 have c3 : Try.prog.cellsOf 83 = 2 := by kernel_rfl
 have c1 : Try.prog.cellsOf 3 = 1 := by kernel_rfl
 have e2 : (keyP a b).formed Try.prog 83 = true := by
  simp [keyP, Value.formed, Try.underlying83, c3]
 have e3 : ∃ ls, Try.prog.keyLits (Try.prog.types.size + 1) 83 (keyP a b).cells.toList = some ls := by
  obtain ⟨n, hn⟩ : ∃ n, Try.prog.types.size + 1 = n + 2 := by
   have : (72 : Nat) < Try.prog.types.size := of_decide_eq_true (by kernel_rfl)
   exact ⟨Try.prog.types.size - 1, by omega⟩
  rw [hn]
  simp only [keyP, Value.cells]
  unfold Program.keyLits
  simp only [Try.underlying83]
  simp [Program.keyLits, c1, c3, Try.underlying3, h1, h2, show List.range 2 = [0, 1] from rfl]
 obtain ⟨ls, e3⟩ := e3
 exact ⟨_, by simp only [keyOf, Try.underlying83]; rw [e1, e2, e3]; rfl⟩
end Go.Proofs.Ytgnbemgeiloegaa.Tg
