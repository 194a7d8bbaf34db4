import Derived.Test.YtgnbemgeiloegaaMTgQ
import Derived.WalkSpells
import Derived.Test.YtgnbemgeiloegaaMTgG
namespace Go.Proofs.Ytgnbemgeiloegaa.Tg
open Go.RowKit Go.Maps Go.WideMaps
open Go.Proofs.YtgnbemgeiloegaaW.PrintWords Go.Proofs.YtgnbemgeiloegaaW.PrintLast Go.Proofs.YtgnbemgeiloegaaW.PrintMore
set_option linter.unusedVariables false
set_option linter.unusedSimpArgs false
open Go.Proofs.Ytgnbemgeiloegaa.PTypesGoods (S40 S42 S47 k40 k42 k47 rd_T40 rd_T42 rd_T47 at_T40 at_T42 at_T47)
def namesP : List ByteArray → List S42 → Option (List ByteArray)
 | S, [] => some S
 | S, f :: r => if met S f.f0 = true then none else namesP (S ++ [f.f0]) r
theorem namesP_app : ∀ (xs ys : List S42) (S : List ByteArray), namesP S (xs ++ ys) = (namesP S xs).bind fun S' => namesP S' ys
 | [], ys, S => by simp [namesP]
 | x :: xs, ys, S => by
  simp only [List.cons_append, namesP]
  split
  · rfl
  · exact namesP_app xs ys _
def fieldedP (t : List S40) : Nat → S40 → List ByteArray → Bool
 | 0, _, _ => false
 | n + 1, x, S => match namesP S x.f6 with
  | none => false
  | some S' => if x.f5 = 0 then true else fieldedP t n (rd_T40 t x.f5) S'
structure Fl (w wr : World) (xs : List Value) (S : List ByteArray) (N : Nat) : Prop where
 box : wr.heap[w.heap.size]? = some (.cells xs.toArray 40 (0, 0))
 map : MapS wr (.map (some (w.heap.size + 1))) N (metM S)
 below : Below w.heap.size w wr
theorem Fl.cell {w wr : World} {xs : List Value} {S : List ByteArray} {N : Nat} (h : Fl w wr xs S N) (k : Nat) (v : Value) (hk : xs[k]? = some v) : wr.cell? ⟨w.heap.size, k, none⟩ = some v := by
 rw [cell_of_row wr _ _ _ _ _ h.box]
 simpa using hk
theorem Fl.on {w wr w2 : World} {xs : List Value} {S : List ByteArray} {N : Nat} (h : Fl w wr xs S N) (hb : Below wr.heap.size wr w2) : Fl w w2 xs S N :=
 ⟨(hb.block _ (blk_lt h.box)).trans h.box, h.map.kept (hb.block _ h.map.lt), h.below.trans (hb.mono h.below.size)⟩
theorem Fl.put {w wr w1 : World} {xs : List Value} {S : List ByteArray} {N : Nat} {s : ByteArray} (h : Fl w wr xs S N) (hm : MapS w1 (.map (some (w.heap.size + 1))) (N + 1) (putS (metM S) s (some 1))) (hg : wr.grownBy w1 (some (w.heap.size + 1))) : Fl w w1 xs (S ++ [s]) (N + 1) :=
 ⟨(hg.block _ (blk_lt h.box) (fun e => by have := Option.some.inj e; omega)).trans h.box, by rw [← metM_put]; exact hm, h.below.grown hg h.below.size (fun k e => by cases e; omega)⟩
theorem Fl.store {w wr : World} {xs ys : List Value} {S : List ByteArray} {N : Nat} (h : Fl w wr xs S N) (hl : xs.length = 10) (hl2 : ys.length = 10) (h1 : ∀ q ∈ ys, q.oneCell' = true) (u : Value) (hu : u.cells.toList = ys) :
 ∃ w1, (Instr.storeAt 40 (.pointer (some ⟨w.heap.size, 0, none⟩)) u).run Try.prog wr = .ok () w1 ∧ Fl w w1 ys S N := by
 refine ⟨_, run_store_run 40 u ys h.box hu (by rw [hl2]; kernel_rfl) (by simp [hl, hl2]) h1, ?_⟩
 obtain ⟨s1, s2, s3, s4⟩ := setCells_same w.heap.size ys 0 wr
 obtain ⟨cur', b1, b2, b3⟩ := setCells_row ys 0 wr _ h.box (by simp [hl, hl2])
 refine ⟨?_, h.map.kept (setCells_far ys 0 _ (by omega)), h.below.trans ⟨s1, s2, s3, by rw [s4]; exact Nat.le_refl _, fun k hk => setCells_far ys 0 k (by omega)⟩⟩
 rw [b1]
 have e : cur' = ys.toArray := by
  apply Array.toList_inj.1
  rw [b3]
  simp [hl, hl2]
 rw [e]
theorem store_wp {P : Program} {ops : Array Oper} {rest : List Oper} {o : Oper} {a : Act} {Q : Exit → Act → World → Prop} {W w1 : World} {t : TypeId} {p x : Operand} {pv u : Value} (hgd : o.guard = none) (hN : o.dst = none) (ho : o.op = .store t p x) (haddr : a.eval p = pv) (hx : a.eval x = u)
 (hrun : (Instr.storeAt t pv u).run P W = .ok () w1) (h : wpList P ops Q rest a w1) : wpList P ops Q (o :: rest) a W := by
 refine wpList_plain hgd fun K hK => ?_
 unfold Oper.wp execOp
 simp only [ho, haddr, hx, Sem.run_bind, Sem.run_pure, Result.andThen_ok, hrun]
 show K (a.put o.dst undef) _
 rw [hN]
 exact hK _ _ h
set_option maxHeartbeats 16000000 in
set_option maxRecDepth 100000 in
theorem fielded_calls {w : World} {A : Option Addr} {c : Nat} {t : List S40} (hC : Kd.C k40 w A t.length t) (hc : t.length ≤ c) (hz : Sized t) (hpm : Parms t)
 (hch : ∀ a : Int, 0 ≤ a → a < t.length → (rd_T40 t a).f0 = 9 → (rd_T40 t a).f5 = 0 ∨ form t (rd_T40 t a).f5 = 9) (x : S40) {A6 A7 : Option Addr} {c6 c7 : Nat} (hx : x ∈ t) (hx5 : x.f5 = 0 ∨ form t x.f5 = 9)
 (C6 : Kd.C k42 w A6 x.f6.length x.f6) (l6 : x.f6.length ≤ c6) (C7 : Kd.C k47 w A7 x.f7.length x.f7) (l7 : x.f7.length ≤ c7) :
 Calls Try.prog 64 #[.slice A t.length c, .agg #[.int .i64 x.f0, .string x.f1, .string x.f2, .int .i64 x.f3, .int .i64 x.f4, .int .i64 x.f5, .slice A6 x.f6.length c6, .slice A7 x.f7.length c7, .int .i64 x.f8, .int .i64 x.f9]] w fun e w' => e = .returned (.bool (fieldedP t 5 x [])) ∧ Below w.heap.size w w' := by
 have hCx := Aside0.mk hC
 have hC6 := Aside0.mk C6
 have HCH := Aside0.mk hch
 have hX5 := Aside0.mk hx5
 clear hC C6 C7 hch hx5 l6 l7
 have hmm := @run_makeMap Try.prog
 have HF0 : Aside0 (Fl w ((w.alloc (.cells #[.int .i64 x.f0, .string x.f1, .string x.f2, .int .i64 x.f3, .int .i64 x.f4, .int .i64 x.f5, .slice A6 x.f6.length c6, .slice A7 x.f7.length c7, .int .i64 x.f8, .int .i64 x.f9] 40)).alloc (.map #[] 0)) (cellsOf x A6 c6 A7 c7) [] 0) := ⟨by
  refine ⟨?_, ?_, below_alloc (below_alloc (Below.refl _ _) _) _⟩
  ·
   rw [Below.heap_alloc _ _ _ (by simp)]
   exact heap_alloc_new _ _
  ·
   have h := MapS.made (w.alloc (.cells #[.int .i64 x.f0, .string x.f1, .string x.f2, .int .i64 x.f3, .int .i64 x.f4, .int .i64 x.f5, .slice A6 x.f6.length c6, .slice A7 x.f7.length c7, .int .i64 x.f8, .int .i64 x.f9] 40))
   have e : metM [] = fun _ => none := by funext b; simp [metM, met]
   rw [e]
   simpa using h⟩
 go_enter Try.func64, Try.ntmps64
 go_wp2
 clear hmm
 have hF : Aside0 (fieldedP t 5 x [] = fieldedP t (5 - 0) x []) := ⟨rfl⟩
 go_loopw [6] (fun s6 wr => ∃ (i0 : Nat) (y : S40) (S : List ByteArray) (N : Nat) (A6 : Option Addr) (c6 : Nat) (A7 : Option Addr) (c7 : Nat), i0 ≤ 5 ∧ s6 = .int .i64 i0 ∧ N ≤ 5000 * i0 ∧ Aside0 (fieldedP t 5 x [] = fieldedP t (5 - i0) y S) ∧ Aside0 (Fl w wr (cellsOf y A6 c6 A7 c7) S N) ∧ Aside0 (Kd.C k42 w A6 y.f6.length y.f6) ∧ Aside0 (y ∈ t) ∧ Aside0 (y.f5 = 0 ∨ form t y.f5 = 9)) (fun i _ => 5 - (intOf i).toNat)
 case atStart => exact ⟨0, x, [], 0, A6, c6, A7, c7, by omega, rfl, by omega, hF, HF0, hC6, ⟨hx⟩, hX5⟩
 case round =>
  clear HF0 hF hC6 hX5 hx
  obtain ⟨wo, rfl⟩ : ∃ wo : World, wo = wr := ⟨_, rfl⟩
  obtain ⟨i0, y, S, N, A6, c6, A7, c7, hi0, rfl, hN, hF, HL, hC6, hyt, hy5⟩ := hrel
  by_cases h5 : i0 = 5
  ·
   have hx : decide ((i0 : Int) > 4) = true := decide_eq_true (by omega)
   have R : Aside0 (fieldedP t 5 x [] = false) := ⟨by rw [hF.out, h5]; rfl⟩
   clear hF h5
   go_wp2
   go_ret
   exact ⟨ret_bool R.out.symm, HL.out.below⟩
  ·
   have hx : decide ((i0 : Int) > 4) = false := decide_eq_false (by omega)
   obtain ⟨n, hn⟩ : ∃ n, 5 - i0 = n + 1 := ⟨5 - i0 - 1, by omega⟩
   have hF2 : Aside0 (fieldedP t 5 x [] = match namesP S y.f6 with | none => false | some S' => if y.f5 = 0 then true else fieldedP t n (rd_T40 t y.f5) S') := ⟨by rw [hF.out, hn]; rfl⟩
   have hn' : n = 5 - (i0 + 1) := by omega
   clear hF hn
   have hn'' := Aside0.mk hn'
   clear hn'
   have b6 := HL.out.cell 6 _ rfl
   have ly := (hpm _ hyt.out).2
   have hzy := Aside0.mk (hz _ hyt.out).2.2
   go_wp2
   clear b6 hx
   go_loopw [17] (fun i wx => ∃ (k0 N2 : Nat) (S2 : List ByteArray), k0 ≤ y.f6.length ∧ i = .int .i64 k0 ∧ N2 ≤ N + k0 ∧ Aside0 (namesP S (y.f6.take k0) = some S2) ∧ Aside0 (Fl w wx (cellsOf y A6 c6 A7 c7) S2 N2)) (fun i _ => y.f6.length - (intOf i).toNat)
   case atStart => exact ⟨0, N, S, Nat.zero_le _, rfl, by omega, ⟨by simp [namesP]⟩, HL⟩
   case round =>
    clear HL
    obtain ⟨wp, rfl⟩ : ∃ wp : World, wp = wr := ⟨_, rfl⟩
    obtain ⟨k0, N2, S2, hk0, rfl, hN2, hS, HL⟩ := hrel
    by_cases hlt : k0 < y.f6.length
    ·
     have hx : decide ((k0 : Int) < (y.f6.length : Int)) = true := decide_eq_true (by omega)
     have hin := size_in hlt
     obtain ⟨fd, hfA, r0, r1, r2⟩ := at_T42 (Kd.C_below hC6.out HL.out.below) (k0 : Int) (by omega) (by omega)
     obtain rfl := hfA
     have hk00 : ((k0 : Nat) : Int).toNat = k0 := by omega
     have hrd : rd_T42 y.f6 (k0 : Int) = y.f6[k0] := by unfold rd_T42; simp [List.getD_eq_getElem?_getD, List.getElem?_eq_getElem hlt]
     rw [hk00, hrd] at r0 r1 r2
     have htk : y.f6.take (k0 + 1) = y.f6.take k0 ++ [y.f6[k0]] := by rw [List.take_add_one, List.getElem?_eq_getElem hlt]; rfl
     have hstep : Aside0 (namesP S (y.f6.take (k0 + 1)) = if met S2 (y.f6[k0]).f0 = true then none else some (S2 ++ [(y.f6[k0]).f0])) := ⟨by rw [htk, namesP_app, hS.out]; simp [namesP]⟩
     have hno : Aside0 (namesP S (y.f6.take (k0 + 1)) = none → fieldedP t 5 x [] = false) := ⟨fun h => by
      have e : y.f6 = y.f6.take (k0 + 1) ++ y.f6.drop (k0 + 1) := (List.take_append_drop _ _).symm
      have e2 : namesP S y.f6 = none := by rw [e, namesP_app, h]; rfl
      rw [hF2.out, e2]⟩
     have hsz := hzy.out _ (List.getElem_mem hlt)
     clear htk hrd hk00 hS
     generalize y.f6[k0] = f at r0 r1 r2 hstep hsz
     have hml := HL.out.map.lt
     have HLa := Aside0.mk (HL.out.on (below_alloc (Below.refl _ _) (.cells #[.string f.f0, .bool f.f1, .int .i64 f.f2] 42)))
     have hlook := HLa.out.map.look hsz
     clear HL
     cases hmet : met S2 f.f0 with
     | true =>
      rw [show (metM S2 f.f0).getD 0 = 1 by simp [metM, hmet]] at hlook
      obtain ⟨w6, hst, hm6, hg6⟩ := HLa.out.map.store (x := 2) (by unfold maxLen; omega) hsz (by decide)
      have hlook2 := hm6.look hsz
      rw [show (putS (metM S2) f.f0 (some 2) f.f0).getD 0 = 2 by simp [putS]] at hlook2
      have hgb := Aside0.mk (HLa.out.below.grown hg6 HLa.out.below.size (fun k e => by cases e; omega))
      have R : Aside0 (fieldedP t 5 x [] = false) := ⟨hno.out (by rw [hstep.out, if_pos hmet])⟩
      have c0 : w6.cell? ⟨wp.heap.size, 0, none⟩ = some (.string f.f0) := (hg6.cell_far _ (by simp) (fun e => by have := Option.some.inj e; simp at this; omega)).trans (by go_simp)
      clear hm6 hg6 HLa hmet hno hstep
      go_wp2
      go_ret
      exact ⟨ret_bool R.out.symm, hgb.out⟩
     | false =>
      rw [show (metM S2 f.f0).getD 0 = 0 by simp [metM, hmet]] at hlook
      obtain ⟨w6, hst, hm6, hg6⟩ := HLa.out.map.store (x := 1) (by unfold maxLen; omega) hsz (by decide)
      have hlook2 := hm6.look hsz
      rw [show (putS (metM S2) f.f0 (some 1) f.f0).getD 0 = 1 by simp [putS]] at hlook2
      have HL6 := Aside0.mk (HLa.out.put hm6 hg6)
      have hs2 : Aside0 (namesP S (y.f6.take (k0 + 1)) = some (S2 ++ [f.f0])) := ⟨by rw [hstep.out, hmet]; rfl⟩
      have c0 : w6.cell? ⟨wp.heap.size, 0, none⟩ = some (.string f.f0) := (hg6.cell_far _ (by simp) (fun e => by have := Option.some.inj e; simp at this; omega)).trans (by go_simp)
      clear hm6 hg6 HLa hmet hno hstep
      go_wp2
      go_roundw
      case rel => exact ⟨k0 + 1, N2 + 1, S2 ++ [f.f0], by omega, by go_num, by omega, hs2, HL6⟩
      case measure => simp [intOf]; omega
    ·
     have hx : decide ((k0 : Int) < (y.f6.length : Int)) = false := decide_eq_false (by omega)
     have hS2 : Aside0 (namesP S y.f6 = some S2) := ⟨by have := hS.out; rwa [List.take_of_length_le (by omega)] at this⟩
     have hF3 : Aside0 (fieldedP t 5 x [] = if y.f5 = 0 then true else fieldedP t n (rd_T40 t y.f5) S2) := ⟨by rw [hF2.out, hS2.out]⟩
     clear hS hS2 hF2
     have b5 := HL.out.cell 5 _ rfl
     by_cases h0 : y.f5 = 0
     ·
      have h0b : (y.f5 == 0) = true := by simpa using h0
      have R : Aside0 (fieldedP t 5 x [] = true) := ⟨by rw [hF3.out, if_pos h0]⟩
      replace h0 := Aside0.mk h0
      go_wp2
      go_ret
      exact ⟨ret_bool R.out.symm, HL.out.below⟩
     ·
      have h0b : (y.f5 == 0) = false := by simpa using h0
      have h9 : form t y.f5 = 9 := hy5.out.resolve_left h0
      have hpl : 0 ≤ y.f5 ∧ y.f5 < (t.length : Int) := by
       by_cases h : 0 ≤ y.f5 ∧ y.f5 < (t.length : Int)
       · exact h
       · unfold form at h9; rw [if_neg h] at h9; omega
      obtain ⟨p51, p52⟩ := hpl
      have h90 : (rd_T40 t y.f5).f0 = 9 := by unfold form at h9; rwa [if_pos ⟨p51, p52⟩] at h9
      have hz5 := Aside0.mk (HCH.out _ p51 p52 h90)
      have hmem := Aside0.mk (rd_in (t := t) p51 p52)
      have hF4 : Aside0 (fieldedP t 5 x [] = fieldedP t n (rd_T40 t y.f5) S2) := ⟨by rw [hF3.out, if_neg h0]⟩
      obtain ⟨ad, B6, d6, B7, d7, hA, p0, p1, p2, p3, p4, p5, p6, p7, p8, p9, m6, D6, m7, D7⟩ := at_T40 hCx.out y.f5 p51 p52
      subst hA
      have HD6 := Aside0.mk D6
      have KC := fun (a : Addr) (v : Value) (h : w.cell? a = some v) => (HL.out.below.cell (p := a) (World.block_lt_of_cell? w _ h)).trans h
      replace p0 := KC _ _ p0
      replace p1 := KC _ _ p1
      replace p2 := KC _ _ p2
      replace p3 := KC _ _ p3
      replace p4 := KC _ _ p4
      replace p5 := KC _ _ p5
      replace p6 := KC _ _ p6
      replace p7 := KC _ _ p7
      replace p8 := KC _ _ p8
      replace p9 := KC _ _ p9
      clear KC h9 h90 hF3 h0 D6 D7 m6 m7
      generalize rd_T40 t y.f5 = z at p0 p1 p2 p3 p4 p5 p6 p7 p8 p9 HD6 hz5 hmem hF4
      obtain ⟨w6, hst, HL6⟩ := HL.out.store (ys := cellsOf z B6 d6 B7 d7) rfl rfl (by intro q hq; simp [cellsOf] at hq; rcases hq with h | h | h | h | h | h | h | h | h | h <;> subst h <;> rfl) (.agg #[.int .i64 z.f0, .string z.f1, .string z.f2, .int .i64 z.f3, .int .i64 z.f4, .int .i64 z.f5, .slice B6 z.f6.length d6, .slice B7 z.f7.length d7, .int .i64 z.f8, .int .i64 z.f9]) (by rfl)
      have HL7 := Aside0.mk HL6
      have hFn : Aside0 (fieldedP t 5 x [] = fieldedP t (5 - (i0 + 1)) z S2) := ⟨by rw [hF4.out, hn''.out]⟩
      clear HL6 HL hF4
      go_wp2_with ((with_reducible refine gate_store (t := 40) (p := 3) rfl ?_); refine store_wp rfl rfl rfl rfl rfl hst ?_; clear hst)
      go_roundw
      case rel => exact ⟨i0 + 1, z, S2, N2, B6, d6, B7, d7, by omega, by go_num, by omega, hFn, HL7, HD6, hmem, hz5⟩
      case measure => simp [intOf]; omega
end Go.Proofs.Ytgnbemgeiloegaa.Tg
namespace Go.Proofs.Ytgnbemgeiloegaa.Tg
open Go.RowKit Go.Maps Go.WideMaps
open Go.Proofs.YtgnbemgeiloegaaW.PrintWords Go.Proofs.YtgnbemgeiloegaaW.PrintLast Go.Proofs.YtgnbemgeiloegaaW.PrintMore
set_option linter.unusedVariables false
set_option linter.unusedSimpArgs false
open Go.Proofs.Ytgnbemgeiloegaa.PTypesGoods (S40 S42 S47 k40 k42 k47 rd_T40 rd_T42 rd_T47 at_T40 at_T42 at_T47)
def badF (t : List S40) (x : S40) : Bool := decide (x.f0 = 9) && !fieldedP t 5 x []
def Chain (t : List S40) : Prop := ∀ a : Int, 0 ≤ a → a < t.length → (rd_T40 t a).f0 = 9 → (rd_T40 t a).f5 = 0 ∨ form t (rd_T40 t a).f5 = 9
set_option maxHeartbeats 16000000 in
theorem good1_calls {w : World} {A : Option Addr} {c : Nat} {t : List S40} (hC : Kd.C k40 w A t.length t) (hc : t.length ≤ c) (hz : Sized t) (hpm : Parms t)
 (hch : Chain t) (bx : Addr) (hb : w.cell? bx = some (.slice A t.length c)) (x : S40) {A6 A7 : Option Addr} {c6 c7 : Nat} (hx : x ∈ t) (hx5 : x.f0 = 9 → x.f5 = 0 ∨ form t x.f5 = 9)
 (C6 : Kd.C k42 w A6 x.f6.length x.f6) (l6 : x.f6.length ≤ c6) (C7 : Kd.C k47 w A7 x.f7.length x.f7) (l7 : x.f7.length ≤ c7) :
 Calls Try.prog 63 #[.agg #[.int .i64 x.f0, .string x.f1, .string x.f2, .int .i64 x.f3, .int .i64 x.f4, .int .i64 x.f5, .slice A6 x.f6.length c6, .slice A7 x.f7.length c7, .int .i64 x.f8, .int .i64 x.f9], .pointer (some bx)] w fun e w' => e = .returned (.bool (badF t x)) ∧ Below w.heap.size w w' := by
 have hlt := World.block_lt_of_cell? w _ hb
 by_cases h9 : x.f0 = 9
 ·
  have hbel := below_alloc (Below.refl w.heap.size w) (.cells #[.int .i64 9, .string x.f1, .string x.f2, .int .i64 x.f3, .int .i64 x.f4, .int .i64 x.f5, .slice A6 x.f6.length c6, .slice A7 x.f7.length c7, .int .i64 x.f8, .int .i64 x.f9] 40)
  have HB := Aside0.mk hbel
  have R : Aside0 (badF t x = !fieldedP t 5 x []) := ⟨by unfold badF; rw [decide_eq_true h9, Bool.true_and]⟩
  have hF := fielded_calls (Kd.C_below hC hbel) hc hz hpm hch x hx (hx5 h9) (Kd.C_below C6 hbel) l6 (Kd.C_below C7 hbel) l7
  have hb2 := (hbel.cell (p := bx) hlt).trans hb
  clear hC hb hbel C6 C7 hch
  rw [h9] at hF ⊢
  replace h9 := Aside0.mk h9
  go_enter Try.func63, Try.ntmps63
  go_wp2_with fail
  refine hF.mono ?_
  rintro e w4 ⟨rfl, hb4⟩
  have HB4 := Aside0.mk (HB.out.trans (hb4.mono HB.out.size))
  clear hb4
  go_wp2
  go_ret
  exact ⟨ret_bool R.out.symm, HB4.out⟩
 ·
  have h9b : (x.f0 == 9) = false := by simpa using h9
  have R : Aside0 (badF t x = false) := ⟨by unfold badF; rw [decide_eq_false h9, Bool.false_and]⟩
  clear hC hb C6 C7 h9
  go_enter Try.func63, Try.ntmps63
  go_wp2
  go_ret
  exact ⟨ret_bool R.out.symm, below_alloc (Below.refl _ _) _⟩
theorem chain_at {t : List S40} (h : Chain t) {x : S40} (a : Int) (h0 : 0 ≤ a) (h1 : a < t.length) (e : rd_T40 t a = x) : x.f0 = 9 → x.f5 = 0 ∨ form t x.f5 = 9 := fun h9 => by
 subst e
 exact h a h0 h1 h9
set_option maxHeartbeats 16000000 in
theorem index2_calls {w : World} {A : Option Addr} {c : Nat} {t : List S40} (hC : Kd.C k40 w A t.length t) (hc : t.length ≤ c) (hz : Sized t) (hpm : Parms t) (hl : t.length ≤ 256)
 (hch : Chain t) (bx : Addr) (hb : w.cell? bx = some (.slice A t.length c)) :
 Calls Try.prog 73 #[.slice A t.length c, .func (.func 63) #[] #[.pointer (some bx)]] w fun e w' => ∃ j, e = .returned (.int .i64 j) ∧ decide (j ≥ 0) = t.any (badF t) ∧ Below w.heap.size w w' := by
 have hlt := World.block_lt_of_cell? w _ hb
 have hCx := Aside0.mk hC
 have hBx := Aside0.mk hb
 have HCH := Aside0.mk hch
 clear hC hb hch
 go_enter Try.func73, Try.ntmps73
 go_wp2
 go_loopw [8] (fun i wr => ∃ i0 : Nat, i0 ≤ t.length ∧ i = .int .i64 i0 ∧ Aside0 ((t.take i0).any (badF t) = false) ∧ Aside0 (Below w.heap.size w wr)) (fun i _ => t.length - (intOf i).toNat)
 case atStart => exact ⟨0, Nat.zero_le _, rfl, ⟨rfl⟩, ⟨Below.refl _ _⟩⟩
 case round =>
  obtain ⟨wo, rfl⟩ : ∃ wo : World, wo = wr := ⟨_, rfl⟩
  obtain ⟨i0, hi0, rfl, hS, HB⟩ := hrel
  by_cases hlt : i0 < t.length
  ·
   have hx : decide ((i0 : Int) < (t.length : Int)) = true := decide_eq_true (by omega)
   have hin := size_in hlt
   obtain ⟨ad, A6, c6, A7, c7, hA, p0, p1, p2, p3, p4, p5, p6, p7, p8, p9, l6, C6, l7, C7⟩ := at_T40 (Kd.C_below hCx.out HB.out) (i0 : Int) (by omega) (by omega)
   subst hA
   have hk00 : ((i0 : Nat) : Int).toNat = i0 := by omega
   have hget : rd_T40 t (i0 : Int) = t[i0] := by unfold rd_T40; simp [List.getD_eq_getElem?_getD, List.getElem?_eq_getElem hlt]
   have htk : t.take (i0 + 1) = t.take i0 ++ [t[i0]] := by rw [List.take_add_one, List.getElem?_eq_getElem hlt]; rfl
   have hstep : Aside0 ((t.take (i0 + 1)).any (badF t) = badF t (rd_T40 t (i0 : Int))) := ⟨by rw [htk, List.any_append, hS.out, hget]; simp⟩
   have hyes : Aside0 (badF t (rd_T40 t (i0 : Int)) = true → t.any (badF t) = true) := ⟨fun h => List.any_eq_true.2 ⟨_, List.getElem_mem hlt, by rw [← hget]; exact h⟩⟩
   have hmem := Aside0.mk (rd_in (t := t) (a := (i0 : Int)) (by omega) (by omega))
   have hx5 := Aside0.mk (chain_at HCH.out (i0 : Int) (by omega) (by omega) rfl)
   rw [hk00] at p0 p1 p2 p3 p4 p5 p6 p7 p8 p9
   clear hget htk hk00 hS
   have hc6 := Aside0.mk C6
   have hc7 := Aside0.mk C7
   clear C6 C7
   generalize rd_T40 t (i0 : Int) = x at p0 p1 p2 p3 p4 p5 p6 p7 p8 p9 l6 l7 hc6 hc7 hstep hyes hmem hx5
   have hB2 := Aside0.mk ((HB.out.cell (p := bx) (World.block_lt_of_cell? w _ hBx.out)).trans hBx.out)
   go_wp2_with fail
   refine (good1_calls (Kd.C_below hCx.out HB.out) hc hz hpm HCH.out bx hB2.out x hmem.out hx5.out hc6.out l6 hc7.out l7).mono ?_
   rintro e w4 ⟨rfl, hb4⟩
   have HB4 := Aside0.mk (HB.out.trans (hb4.mono HB.out.size))
   clear hb4 p0 p1 p2 p3 p4 p5 p6 p7 p8 p9
   cases hbd : badF t x with
   | true =>
    have R : Aside0 (t.any (badF t) = true) := ⟨hyes.out hbd⟩
    go_wp2
    go_ret
    exact ⟨_, rfl, by rw [R.out]; simp, HB4.out⟩
   | false =>
    have hS2 : Aside0 ((t.take (i0 + 1)).any (badF t) = false) := ⟨by rw [hstep.out, hbd]⟩
    clear hstep hyes
    go_wp2
    go_roundw
    case rel => exact ⟨i0 + 1, by omega, by go_num, hS2, HB4⟩
    case measure => simp [intOf]; omega
  ·
   have hx : decide ((i0 : Int) < (t.length : Int)) = false := decide_eq_false (by omega)
   have R : Aside0 (t.any (badF t) = false) := ⟨by have := hS.out; rwa [List.take_of_length_le (by omega)] at this⟩
   clear hS
   go_wp2
   go_ret
   exact ⟨_, rfl, by rw [R.out]; rfl, HB.out⟩
theorem contains2_calls {w : World} {A : Option Addr} {c : Nat} {t : List S40} (hC : Kd.C k40 w A t.length t) (hc : t.length ≤ c) (hz : Sized t) (hpm : Parms t) (hl : t.length ≤ 256)
 (hch : Chain t) (bx : Addr) (hb : w.cell? bx = some (.slice A t.length c)) :
 Calls Try.prog 62 #[.slice A t.length c, .func (.func 63) #[] #[.pointer (some bx)]] w fun e w' => e = .returned (.bool (t.any (badF t))) ∧ Below w.heap.size w w' := by
 have hI := index2_calls hC hc hz hpm hl hch bx hb
 clear hC hch hb
 go_enter Try.func62, Try.ntmps62
 go_wp2_with fail
 refine hI.mono ?_
 rintro e w' ⟨j, rfl, hj, hb⟩
 have HJ := Aside0.mk hj
 have HB := Aside0.mk hb
 clear hj hb
 go_wp2
 go_ret
 exact ⟨ret_bool HJ.out, HB.out⟩
end Go.Proofs.Ytgnbemgeiloegaa.Tg
namespace Go.Proofs.Ytgnbemgeiloegaa.Tg
open Go.RowKit
open Go.Proofs.YtgnbemgeiloegaaW.PrintWords Go.Proofs.YtgnbemgeiloegaaW.PrintLast Go.Proofs.YtgnbemgeiloegaaW.PrintMore
set_option linter.unusedVariables false
set_option linter.unusedSimpArgs false
open Go.Proofs.Ytgnbemgeiloegaa.PTypesGoods (S40 S42 S47 k40 k42 k47 rd_T40 rd_T42 rd_T47 at_T40 at_T42 at_T47)
open Classical
def TwinP (x y : S40) : Prop := x.f0 = 9 ∧ y.f0 = 9 ∧ x.f1 = y.f1 ∧ x.f9 = y.f9 ∧ 0 ≤ x.f9
structure Formed (t : List S40) : Prop where
 lo : 7 ≤ t.length
 bas : ∀ i : Int, 0 ≤ i → i < 7 → rd_T40 t i = bas i
 frm : ∀ i : Int, 7 ≤ i → i < t.length → formedP t (rd_T40 t i) = true
structure GoodP (t : List S40) : Prop where
 hi : t.length ≤ 256
 formed : Formed t
 sea : searchP t = true
 twin : ∀ i k : Int, 0 ≤ k → k < i → i < t.length → ¬ TwinP (rd_T40 t i) (rd_T40 t k)
 fld : t.any (badF t) = false
noncomputable def goodP (t : List S40) : Bool := decide (GoodP t)
theorem bare_is (x : S40) (i : Int) : PTypesGoods.tables_bare.f x.f0 x.f1 x.f2 x.f3 x.f4 x.f5 x.f6 x.f7 x.f8 x.f9 i = some (decide (x = bas i)) := by
 have e0 : (⟨#[]⟩ : ByteArray).toList = [] := by rw [ByteArray.toList_eq]
 have no : (¬ x = bas i) → some false = some (decide (x = bas i)) := fun h => by rw [decide_eq_false h]
 unfold PTypesGoods.tables_bare.f
 by_cases h0 : x.f0 = i
 rotate_left
 · rw [if_neg h0]; exact no (fun h => h0 (by rw [h]; rfl))
 rw [if_pos h0]
 by_cases h1 : x.f1.toList = ([] : List UInt8)
 rotate_left
 · rw [if_neg h1]; exact no (fun h => h1 (by rw [h]; exact e0))
 rw [if_pos h1]
 by_cases h2 : x.f2.toList = ([] : List UInt8)
 rotate_left
 · rw [if_neg h2]; exact no (fun h => h2 (by rw [h]; exact e0))
 rw [if_pos h2]
 by_cases h3 : x.f3 = 0
 rotate_left
 · rw [if_neg h3]; exact no (fun h => h3 (by rw [h]; rfl))
 rw [if_pos h3]
 by_cases h4 : x.f4 = 0
 rotate_left
 · rw [if_neg h4]; exact no (fun h => h4 (by rw [h]; rfl))
 rw [if_pos h4]
 by_cases h5 : x.f5 = 0
 rotate_left
 · rw [if_neg h5]; exact no (fun h => h5 (by rw [h]; rfl))
 rw [if_pos h5]
 by_cases h8 : x.f8 = 0
 rotate_left
 · rw [if_neg h8]; exact no (fun h => h8 (by rw [h]; rfl))
 rw [if_pos h8]
 by_cases h9 : x.f9 = 0
 rotate_left
 · rw [if_neg h9]; exact no (fun h => h9 (by rw [h]; rfl))
 rw [if_pos h9]
 by_cases h6 : (x.f6.length : Int) = 0
 rotate_left
 · rw [if_neg h6]; exact no (fun h => h6 (by rw [h]; rfl))
 rw [if_pos h6]
 by_cases h7 : (x.f7.length : Int) = 0
 rotate_left
 ·
  rw [decide_eq_false (fun h => h7 (by rw [h]; rfl))]
  simpa using h7
 have g1 := bytes_eq (h1.trans e0.symm)
 have g2 := bytes_eq (h2.trans e0.symm)
 have g6 : x.f6 = [] := by cases h : x.f6 with | nil => rfl | cons a b => rw [h] at h6; simp at h6; omega
 have g7 : x.f7 = [] := by cases h : x.f7 with | nil => rfl | cons a b => rw [h] at h7; simp at h7; omega
 have e : x = bas i := by
  cases x
  simp only at *
  subst h0 g1 g2 h3 h4 h5 h8 h9 g6 g7
  rfl
 rw [decide_eq_true e]
 simp [h7]
theorem bare_calls {w : World} (x : S40) (i : Int) {A6 A7 : Option Addr} {c6 c7 : Nat} (C6 : Kd.C k42 w A6 x.f6.length x.f6) (l6 : x.f6.length ≤ c6) (C7 : Kd.C k47 w A7 x.f7.length x.f7) (l7 : x.f7.length ≤ c7) :
 Calls Try.prog 59 #[.agg #[.int .i64 x.f0, .string x.f1, .string x.f2, .int .i64 x.f3, .int .i64 x.f4, .int .i64 x.f5, .slice A6 x.f6.length c6, .slice A7 x.f7.length c7, .int .i64 x.f8, .int .i64 x.f9], .int .i64 i] w fun e w' => e = .returned (.bool (decide (x = bas i))) ∧ Below w.heap.size w w' :=
 PTypesGoods.tables_bare.calls _ _ _ _ _ _ _ _ _ _ _ _ _ _ i _ w C6 l6 C7 l7 (bare_is x i)
theorem formed_parts {t : List S40} {x : S40} (h : formedP t x = true) : okP t x = true ∧ namedP x = true ∧ x.f9 = (wantP x).f9 ∧ x.f3 = (wantP x).f3 ∧ x.f4 = (wantP x).f4 ∧ x.f5 = (wantP x).f5 ∧ x.f8 = (wantP x).f8 ∧ x.f6.length = (wantP x).f6.length ∧ x.f7.length = (wantP x).f7.length := by
 unfold formedP at h
 simp only [Bool.and_eq_true, decide_eq_true_eq] at h
 obtain ⟨h1, h2, h3, h4, h5, h6, h7, h8, h9⟩ := h
 exact ⟨h1, h2, h3, h4, h5, h6, h7, h8, h9⟩
theorem formed_rec {t : List S40} {x : S40} (h : formedP t x = true) (h9 : x.f0 = 9) : (x.f5 = 0 ∨ form t x.f5 = 9) ∧ x.f6.length ≤ 64 ∧ -1 ≤ x.f9 ∧ x.f9 < 64 ∧ ∀ f ∈ x.f6, isName f.f0 = true ∧ partP (form t f.f2) = true := by
 obtain ⟨h1, -⟩ := formed_parts h
 unfold okP at h1
 rw [if_neg (by omega), if_neg (by omega), if_pos h9] at h1
 unfold rec1P fieldsQ at h1
 simp only [Bool.and_eq_true, Bool.or_eq_true, decide_eq_true_eq, List.all_eq_true] at h1
 obtain ⟨⟨⟨⟨a, b⟩, c⟩, d⟩, e⟩ := h1
 exact ⟨a, b, c, d, e⟩
theorem formed_form {t : List S40} {x : S40} (h : formedP t x = true) : x.f0 = 7 ∨ x.f0 = 8 ∨ x.f0 = 9 ∨ x.f0 = 10 ∨ x.f0 = 11 := by
 obtain ⟨h1, -⟩ := formed_parts h
 by_cases h7 : x.f0 = 7
 · exact .inl h7
 by_cases h8 : x.f0 = 8
 · exact .inr (.inl h8)
 by_cases h9 : x.f0 = 9
 · exact .inr (.inr (.inl h9))
 by_cases h10 : x.f0 = 10
 · exact .inr (.inr (.inr (.inl h10)))
 by_cases h11 : x.f0 = 11
 · exact .inr (.inr (.inr (.inr h11)))
 ·
  unfold okP at h1
  rw [if_neg h7, if_neg h8, if_neg h9, if_neg h10, if_neg h11] at h1
  cases h1
theorem formed_f9 {t : List S40} {x : S40} (h : formedP t x = true) : -1 ≤ x.f9 ∧ x.f9 < 64 := by
 by_cases h9 : x.f0 = 9
 · exact ⟨(formed_rec h h9).2.2.1, (formed_rec h h9).2.2.2.1⟩
 ·
  obtain ⟨-, -, h3, -⟩ := formed_parts h
  rw [show (wantP x).f9 = 0 from if_neg h9] at h3
  omega
theorem part_at {t : List S40} {i : Int} (h : partP (form t i) = true) : At t.length i := by
 unfold partP at h
 have h' := of_decide_eq_true h
 unfold form at h'
 by_cases e : 0 ≤ i ∧ i < (t.length : Int)
 · exact e
 · rw [if_neg e] at h'; omega
theorem form_at {t : List S40} {i k : Int} (h : form t i = k) (hk : 0 ≤ k) : At t.length i := by
 unfold form at h
 by_cases e : 0 ≤ i ∧ i < (t.length : Int)
 · exact e
 · rw [if_neg e] at h; omega
theorem Formed.basics {t : List S40} (h : Formed t) : Basics t := ⟨h.lo, fun i h0 h7 => by rw [h.bas i h0 h7]; rfl⟩
theorem Formed.f9 {t : List S40} (h : Formed t) (a : Int) (h0 : 0 ≤ a) (h1 : a < t.length) : -1 ≤ (rd_T40 t a).f9 ∧ (rd_T40 t a).f9 < 64 := by
 by_cases h7 : a < 7
 · rw [h.bas a h0 h7]; exact ⟨(by decide : (-1 : Int) ≤ 0), (by decide : (0 : Int) < 64)⟩
 · exact formed_f9 (h.frm a (by omega) h1)
theorem Formed.chain {t : List S40} (h : Formed t) : Chain t := fun a h0 h1 h9 => by
 by_cases h7 : a < 7
 ·
  rw [h.bas a h0 h7] at h9
  simp only [Tg.bas] at h9
  omega
 · exact (formed_rec (h.frm a (by omega) h1) h9).1
theorem Formed.within {t : List S40} (h : Formed t) : Within t := by
 have hlo := h.lo
 refine ⟨fun a ha b hb => ?_, fun a ha => ?_⟩
 ·
  by_cases h7 : a < 7
  ·
   rw [h.basics.insP a ha.1 h7] at hb
   cases hb
  ·
   have hf := h.frm a (by omega) ha.2
   obtain ⟨h1, -⟩ := formed_parts hf
   unfold insP at hb
   by_cases e : (rd_T40 t a).f0 = 7 ∨ (rd_T40 t a).f0 = 8
   ·
    rw [if_pos e] at hb
    rw [List.mem_singleton] at hb
    subst hb
    unfold okP at h1
    rcases e with e | e
    ·
     rw [if_pos e] at h1
     simp only [Bool.and_eq_true] at h1
     exact part_at h1.2
    ·
     rw [if_neg (by omega), if_pos e] at h1
     simp only [Bool.or_eq_true, decide_eq_true_eq] at h1
     rcases h1 with h1 | h1
     · exact part_at h1
     · exact form_at h1 (by omega)
   ·
    rw [if_neg e] at hb
    by_cases h9 : (rd_T40 t a).f0 = 9
    ·
     rw [if_pos h9] at hb
     obtain ⟨r1, -, -, -, r5⟩ := formed_rec hf h9
     rcases List.mem_cons.1 hb with rfl | hb
     ·
      rcases r1 with r1 | r1
      · rw [r1]; exact ⟨by omega, by omega⟩
      · exact form_at r1 (by omega)
     ·
      rw [List.mem_map] at hb
      obtain ⟨f, hf, rfl⟩ := hb
      exact part_at (r5 f hf).2
    ·
     rw [if_neg h9] at hb
     cases hb
 ·
  by_cases h7 : a < 7
  · rw [h.bas a ha.1 h7]; exact Nat.zero_le _
  ·
   have hf := h.frm a (by omega) ha.2
   by_cases h9 : (rd_T40 t a).f0 = 9
   · exact (formed_rec hf h9).2.1
   ·
    obtain ⟨-, -, -, -, -, -, -, h6, -⟩ := formed_parts hf
    rw [show (wantP (rd_T40 t a)).f6 = [] from if_neg h9] at h6
    simp at h6
    rw [h6]
    exact Nat.zero_le _
end Go.Proofs.Ytgnbemgeiloegaa.Tg
