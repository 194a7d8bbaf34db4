import Derived.Test.YtgnbemgeiloegaaKTgD
import Derived.Deep.DeepCutAuto
namespace Go.Proofs.Ytgnbemgeiloegaa.Tg
open Go.RowKit Go.Maps Go.WideMaps
open Go.Proofs.YtgnbemgeiloegaaW.PrintWords Go.Proofs.YtgnbemgeiloegaaW.PrintLast Go.Proofs.YtgnbemgeiloegaaW.PrintMore
set_option linter.unusedVariables false
set_option linter.unusedSimpArgs false
open Go.Proofs.Ytgnbemgeiloegaa.PTypesGoods (S40 S42 S47 k40 k42 k47 rd_T40 rd_T42 rd_T47 at_T40 at_T42 at_T47)
/-- is a text without letters? -/
def nul (s : ByteArray) : Bool := s.toList.isEmpty
/-- what makes a type behind the first seven no type: its number, its module and its name -/
def bad2 (x : S40) : Bool := (decide (x.f0 ≠ 9) && (decide (x.f9 ≠ 0) || (nul x.f1 != nul x.f2))) || (decide (x.f0 = 9) && (nul x.f1 || decide (x.f9 < -1) || decide (x.f9 > 63)))
/-- its module or its name is no name -/
def bad4 (x : S40) : Bool := (!nul x.f1 && !isName x.f1) || (!nul x.f2 && !isName x.f2)
/-- what stands where its form has nothing -/
def bad6 (x : S40) : Bool := (((decide (x.f0 ≠ 7) && decide (x.f3 ≠ 0)) || (decide (x.f0 ≠ 7) && decide (x.f0 ≠ 8) && decide (x.f0 ≠ 10) && decide (x.f4 ≠ 0))) || (decide (x.f0 ≠ 9) && (decide (x.f5 ≠ 0) || decide ((x.f6.length : Int) > 0)))) || (decide (x.f0 ≠ 11) && (decide ((x.f7.length : Int) > 0) || decide (x.f8 ≠ 0)))
/-- may a parameter be of it? -/
def parP (t : List S40) (i : Int) : Bool := holdsP t i || (placeP t i && decide (form t i = 8))
def parsP (t : List S40) (l : List S47) : Bool := l.all fun p => parP t p.f1
def resP (t : List S40) (i : Int) : Bool := decide (i = 0) || (holdsP t i && decide (form t i ≠ 7) && decide (form t i ≠ 9))
/-- what a type of its form has -/
def caseP (t : List S40) (a : Int) (x : S40) : Bool :=
  if x.f0 = 7 then decide (1 ≤ x.f3) && decide (x.f3 ≤ 4096) && holdsP t x.f4
  else if x.f0 = 8 then holdsP t x.f4 || (placeP t x.f4 && decide (form t x.f4 = 8))
  else if x.f0 = 10 then placeP t x.f4 && decide (form t x.f4 = 9)
  else if x.f0 = 9 then recordP t a
  else if x.f0 = 11 then parsP t x.f7 && decide (x.f7.length ≤ 64) && resP t x.f8
  else false
def oneX (t : List S40) (a : Int) (x : S40) : Bool := !bad2 x && !bad4 x && !bad6 x && caseP t a x
/-- may it be a type behind the first seven? -/
def oneP (t : List S40) (a : Int) : Bool := oneX t a (rd_T40 t a)
/-- the type in its box -/
structure Box (w wx : World) (x : S40) (A6 : Option Addr) (c6 : Nat) (A7 : Option Addr) (c7 : Nat) : Prop where
  b0 : wx.cell? ⟨w.heap.size, 0, none⟩ = some (.int .i64 x.f0)
  b1 : wx.cell? ⟨w.heap.size, 1, none⟩ = some (.string x.f1)
  b2 : wx.cell? ⟨w.heap.size, 2, none⟩ = some (.string x.f2)
  b3 : wx.cell? ⟨w.heap.size, 3, none⟩ = some (.int .i64 x.f3)
  b4 : wx.cell? ⟨w.heap.size, 4, none⟩ = some (.int .i64 x.f4)
  b5 : wx.cell? ⟨w.heap.size, 5, none⟩ = some (.int .i64 x.f5)
  b6 : wx.cell? ⟨w.heap.size, 6, none⟩ = some (.slice A6 x.f6.length c6)
  b7 : wx.cell? ⟨w.heap.size, 7, none⟩ = some (.slice A7 x.f7.length c7)
  b8 : wx.cell? ⟨w.heap.size, 8, none⟩ = some (.int .i64 x.f8)
  b9 : wx.cell? ⟨w.heap.size, 9, none⟩ = some (.int .i64 x.f9)
  lt : w.heap.size < wx.heap.size
  below : Below w.heap.size w wx
theorem Box.made (w : World) (x : S40) (A6 : Option Addr) (c6 : Nat) (A7 : Option Addr) (c7 : Nat) :
    Box w (w.alloc (.cells #[.int .i64 x.f0, .string x.f1, .string x.f2, .int .i64 x.f3, .int .i64 x.f4, .int .i64 x.f5, .slice A6 x.f6.length c6, .slice A7 x.f7.length c7, .int .i64 x.f8, .int .i64 x.f9] 40)) x A6 c6 A7 c7 := by
  refine ⟨?_, ?_, ?_, ?_, ?_, ?_, ?_, ?_, ?_, ?_, ?_, ?_⟩
  all_goals first | exact below_alloc (Below.refl _ _) _ | (go_simp; done) | rfl
theorem Box.on {w wx w2 : World} {x : S40} {A6 : Option Addr} {c6 : Nat} {A7 : Option Addr} {c7 : Nat} (h : Box w wx x A6 c6 A7 c7) (hb : Below wx.heap.size wx w2) : Box w w2 x A6 c6 A7 c7 :=
  have k : ∀ o, w2.cell? ⟨w.heap.size, o, none⟩ = wx.cell? ⟨w.heap.size, o, none⟩ := fun o => hb.cell h.lt
  ⟨(k 0).trans h.b0, (k 1).trans h.b1, (k 2).trans h.b2, (k 3).trans h.b3, (k 4).trans h.b4, (k 5).trans h.b5, (k 6).trans h.b6, (k 7).trans h.b7, (k 8).trans h.b8, (k 9).trans h.b9, Nat.lt_of_lt_of_le h.lt hb.size, h.below.trans (hb.mono (Nat.le_of_lt h.lt))⟩
theorem Box.drewN {w wx : World} {x : S40} {A6 : Option Addr} {c6 : Nat} {A7 : Option Addr} {c7 : Nat} (h : Box w wx x A6 c6 A7 c7) (n : Nat) : Box w (wx.drewN n) x A6 c6 A7 c7 :=
  h.on ⟨rfl, rfl, rfl, Nat.le_refl _, fun _ _ => rfl⟩
/-- not too much in a type -/
def Parms (t : List S40) : Prop := ∀ x ∈ t, x.f7.length ≤ 4000 ∧ x.f6.length ≤ 4000
theorem rd_in {t : List S40} {a : Int} (h0 : 0 ≤ a) (h1 : a < t.length) : rd_T40 t a ∈ t := by
  have h : a.toNat < t.length := by omega
  have e : rd_T40 t a = t[a.toNat] := by unfold rd_T40; simp [List.getD_eq_getElem?_getD, List.getElem?_eq_getElem h]
  rw [e]
  exact List.getElem_mem h
end Go.Proofs.Ytgnbemgeiloegaa.Tg
