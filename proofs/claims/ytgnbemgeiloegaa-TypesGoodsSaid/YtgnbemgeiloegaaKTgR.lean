import Derived.Test.YtgnbemgeiloegaaKTgQ
import Derived.WalkSpells
namespace Go.Proofs.Ytgnbemgeiloegaa.Tg
open Go.RowKit Go.Maps Go.WideMaps
open Go.Proofs.YtgnbemgeiloegaaW.PrintWords Go.Proofs.YtgnbemgeiloegaaW.PrintLast Go.Proofs.YtgnbemgeiloegaaW.PrintMore
set_option linter.unusedVariables false
set_option linter.unusedSimpArgs false
open Go.Proofs.Ytgnbemgeiloegaa.PTypesGoods (S40 S42 S47 k40 k42 k47 rd_T40 rd_T42 rd_T47 at_T40 at_T42 at_T47)
/-! THE PROGRAM's 'fielded' -/
def namesP : List ByteArray → List S42 → Option (List ByteArray)
  | S, [] => some S
  | S, f :: r => if met S f.f0 = true then none else namesP (S ++ [f.f0]) r
theorem namesP_app : ∀ (xs ys : List S42) (S : List ByteArray), namesP S (xs ++ ys) = (namesP S xs).bind fun S' => namesP S' ys
  | [], ys, S => by simp [namesP]
  | x :: xs, ys, S => by
    simp only [List.cons_append, namesP]
    split
    · rfl
    · exact namesP_app xs ys _
def fieldedP (t : List S40) : Nat → S40 → List ByteArray → Bool
  | 0, _, _ => false
  | n + 1, x, S => match namesP S x.f6 with
    | none => false
    | some S' => if x.f5 = 0 then true else fieldedP t n (rd_T40 t x.f5) S'
structure Fl (w wr : World) (xs : List Value) (S : List ByteArray) (N : Nat) : Prop where
  box : wr.heap[w.heap.size]? = some (.cells xs.toArray 40 (0, 0))
  map : MapS wr (.map (some (w.heap.size + 1))) N (metM S)
  below : Below w.heap.size w wr
theorem Fl.cell {w wr : World} {xs : List Value} {S : List ByteArray} {N : Nat} (h : Fl w wr xs S N) (k : Nat) (v : Value) (hk : xs[k]? = some v) : wr.cell? ⟨w.heap.size, k, none⟩ = some v := by
  rw [cell_of_row wr _ _ _ _ _ h.box]
  simpa using hk
theorem Fl.on {w wr w2 : World} {xs : List Value} {S : List ByteArray} {N : Nat} (h : Fl w wr xs S N) (hb : Below wr.heap.size wr w2) : Fl w w2 xs S N :=
  ⟨(hb.block _ (blk_lt h.box)).trans h.box, h.map.kept (hb.block _ h.map.lt), h.below.trans (hb.mono h.below.size)⟩
theorem Fl.put {w wr w1 : World} {xs : List Value} {S : List ByteArray} {N : Nat} {s : ByteArray} (h : Fl w wr xs S N) (hm : MapS w1 (.map (some (w.heap.size + 1))) (N + 1) (putS (metM S) s (some 1))) (hg : wr.grownBy w1 (some (w.heap.size + 1))) : Fl w w1 xs (S ++ [s]) (N + 1) :=
  ⟨(hg.block _ (blk_lt h.box) (fun e => by have := Option.some.inj e; omega)).trans h.box, by rw [← metM_put]; exact hm, h.below.grown hg h.below.size (fun k e => by cases e; omega)⟩
theorem Fl.store {w wr : World} {xs ys : List Value} {S : List ByteArray} {N : Nat} (h : Fl w wr xs S N) (hl : xs.length = 10) (hl2 : ys.length = 10) (h1 : ∀ q ∈ ys, q.oneCell' = true) (u : Value) (hu : u.cells.toList = ys) :
    ∃ w1, (Instr.storeAt 40 (.pointer (some ⟨w.heap.size, 0, none⟩)) u).run Try.prog wr = .ok () w1 ∧ Fl w w1 ys S N := by
  refine ⟨_, run_store_run 40 u ys h.box hu (by rw [hl2]; kernel_rfl) (by simp [hl, hl2]) h1, ?_⟩
  obtain ⟨s1, s2, s3, s4⟩ := setCells_same w.heap.size ys 0 wr
  obtain ⟨cur', b1, b2, b3⟩ := setCells_row ys 0 wr _ h.box (by simp [hl, hl2])
  refine ⟨?_, h.map.kept (setCells_far ys 0 _ (by omega)), h.below.trans ⟨s1, s2, s3, by rw [s4]; exact Nat.le_refl _, fun k hk => setCells_far ys 0 k (by omega)⟩⟩
  rw [b1]
  have e : cur' = ys.toArray := by
    apply Array.toList_inj.1
    rw [b3]
    simp [hl, hl2]
  rw [e]
theorem store_wp {P : Program} {ops : Array Oper} {rest : List Oper} {o : Oper} {a : Act} {Q : Exit → Act → World → Prop} {W w1 : World} {t : TypeId} {p x : Operand} {pv u : Value} (hgd : o.guard = none) (hN : o.dst = none) (ho : o.op = .store t p x) (haddr : a.eval p = pv) (hx : a.eval x = u)
    (hrun : (Instr.storeAt t pv u).run P W = .ok () w1) (h : wpList P ops Q rest a w1) : wpList P ops Q (o :: rest) a W := by
  refine wpList_plain hgd fun K hK => ?_
  unfold Oper.wp execOp
  simp only [ho, haddr, hx, Sem.run_bind, Sem.run_pure, Result.andThen_ok, hrun]
  show K (a.put o.dst undef) _
  rw [hN]
  exact hK _ _ h
set_option maxHeartbeats 16000000 in
set_option maxRecDepth 100000 in
theorem fielded_calls {w : World} {A : Option Addr} {c : Nat} {t : List S40} (hC : Kd.C k40 w A t.length t) (hc : t.length ≤ c) (hz : Sized t) (hpm : Parms t)
    (hch : ∀ a : Int, 0 ≤ a → a < t.length → (rd_T40 t a).f0 = 9 → (rd_T40 t a).f5 = 0 ∨ form t (rd_T40 t a).f5 = 9) (x : S40) {A6 A7 : Option Addr} {c6 c7 : Nat} (hx : x ∈ t) (hx5 : x.f5 = 0 ∨ form t x.f5 = 9)
    (C6 : Kd.C k42 w A6 x.f6.length x.f6) (l6 : x.f6.length ≤ c6) (C7 : Kd.C k47 w A7 x.f7.length x.f7) (l7 : x.f7.length ≤ c7) :
    Calls Try.prog 64 #[.slice A t.length c, .agg #[.int .i64 x.f0, .string x.f1, .string x.f2, .int .i64 x.f3, .int .i64 x.f4, .int .i64 x.f5, .slice A6 x.f6.length c6, .slice A7 x.f7.length c7, .int .i64 x.f8, .int .i64 x.f9]] w fun e w' => e = .returned (.bool (fieldedP t 5 x [])) ∧ Below w.heap.size w w' := by
  have hCx := Aside0.mk hC
  have hC6 := Aside0.mk C6
  have HCH := Aside0.mk hch
  have hX5 := Aside0.mk hx5
  clear hC C6 C7 hch hx5 l6 l7
  have hmm := @run_makeMap Try.prog
  have HF0 : Aside0 (Fl w ((w.alloc (.cells #[.int .i64 x.f0, .string x.f1, .string x.f2, .int .i64 x.f3, .int .i64 x.f4, .int .i64 x.f5, .slice A6 x.f6.length c6, .slice A7 x.f7.length c7, .int .i64 x.f8, .int .i64 x.f9] 40)).alloc (.map #[] 0)) (cellsOf x A6 c6 A7 c7) [] 0) := ⟨by
    refine ⟨?_, ?_, below_alloc (below_alloc (Below.refl _ _) _) _⟩
    · rw [Below.heap_alloc _ _ _ (by simp)]
      exact heap_alloc_new _ _
    · have h := MapS.made (w.alloc (.cells #[.int .i64 x.f0, .string x.f1, .string x.f2, .int .i64 x.f3, .int .i64 x.f4, .int .i64 x.f5, .slice A6 x.f6.length c6, .slice A7 x.f7.length c7, .int .i64 x.f8, .int .i64 x.f9] 40))
      have e : metM [] = fun _ => none := by funext b; simp [metM, met]
      rw [e]
      simpa using h⟩
  go_enter Try.func64, Try.ntmps64
  go_wp2
  clear hmm
  have hF : Aside0 (fieldedP t 5 x [] = fieldedP t (5 - 0) x []) := ⟨rfl⟩
  go_loopw [6] (fun s6 wr => ∃ (i0 : Nat) (y : S40) (S : List ByteArray) (N : Nat) (A6 : Option Addr) (c6 : Nat) (A7 : Option Addr) (c7 : Nat), i0 ≤ 5 ∧ s6 = .int .i64 i0 ∧ N ≤ 5000 * i0 ∧ Aside0 (fieldedP t 5 x [] = fieldedP t (5 - i0) y S) ∧ Aside0 (Fl w wr (cellsOf y A6 c6 A7 c7) S N) ∧ Aside0 (Kd.C k42 w A6 y.f6.length y.f6) ∧ Aside0 (y ∈ t) ∧ Aside0 (y.f5 = 0 ∨ form t y.f5 = 9)) (fun i _ => 5 - (intOf i).toNat)
  case atStart => exact ⟨0, x, [], 0, A6, c6, A7, c7, by omega, rfl, by omega, hF, HF0, hC6, ⟨hx⟩, hX5⟩
  case round =>
    clear HF0 hF hC6 hX5 hx
    obtain ⟨wo, rfl⟩ : ∃ wo : World, wo = wr := ⟨_, rfl⟩
    obtain ⟨i0, y, S, N, A6, c6, A7, c7, hi0, rfl, hN, hF, HL, hC6, hyt, hy5⟩ := hrel
    by_cases h5 : i0 = 5
    · have hx : decide ((i0 : Int) > 4) = true := decide_eq_true (by omega)
      have R : Aside0 (fieldedP t 5 x [] = false) := ⟨by rw [hF.out, h5]; rfl⟩
      clear hF h5
      go_wp2
      go_ret
      exact ⟨ret_bool R.out.symm, HL.out.below⟩
    · have hx : decide ((i0 : Int) > 4) = false := decide_eq_false (by omega)
      obtain ⟨n, hn⟩ : ∃ n, 5 - i0 = n + 1 := ⟨5 - i0 - 1, by omega⟩
      have hF2 : Aside0 (fieldedP t 5 x [] = match namesP S y.f6 with | none => false | some S' => if y.f5 = 0 then true else fieldedP t n (rd_T40 t y.f5) S') := ⟨by rw [hF.out, hn]; rfl⟩
      have hn' : n = 5 - (i0 + 1) := by omega
      clear hF hn
      have hn'' := Aside0.mk hn'
      clear hn'
      have b6 := HL.out.cell 6 _ rfl
      have ly := (hpm _ hyt.out).2
      have hzy := Aside0.mk (hz _ hyt.out).2.2
      go_wp2
      clear b6 hx
      go_loopw [17] (fun i wx => ∃ (k0 N2 : Nat) (S2 : List ByteArray), k0 ≤ y.f6.length ∧ i = .int .i64 k0 ∧ N2 ≤ N + k0 ∧ Aside0 (namesP S (y.f6.take k0) = some S2) ∧ Aside0 (Fl w wx (cellsOf y A6 c6 A7 c7) S2 N2)) (fun i _ => y.f6.length - (intOf i).toNat)
      case atStart => exact ⟨0, N, S, Nat.zero_le _, rfl, by omega, ⟨by simp [namesP]⟩, HL⟩
      case round =>
        clear HL
        obtain ⟨wp, rfl⟩ : ∃ wp : World, wp = wr := ⟨_, rfl⟩
        obtain ⟨k0, N2, S2, hk0, rfl, hN2, hS, HL⟩ := hrel
        by_cases hlt : k0 < y.f6.length
        · have hx : decide ((k0 : Int) < (y.f6.length : Int)) = true := decide_eq_true (by omega)
          have hin := size_in hlt
          obtain ⟨fd, hfA, r0, r1, r2⟩ := at_T42 (Kd.C_below hC6.out HL.out.below) (k0 : Int) (by omega) (by omega)
          obtain rfl := hfA
          have hk00 : ((k0 : Nat) : Int).toNat = k0 := by omega
          have hrd : rd_T42 y.f6 (k0 : Int) = y.f6[k0] := by unfold rd_T42; simp [List.getD_eq_getElem?_getD, List.getElem?_eq_getElem hlt]
          rw [hk00, hrd] at r0 r1 r2
          have htk : y.f6.take (k0 + 1) = y.f6.take k0 ++ [y.f6[k0]] := by rw [List.take_add_one, List.getElem?_eq_getElem hlt]; rfl
          have hstep : Aside0 (namesP S (y.f6.take (k0 + 1)) = if met S2 (y.f6[k0]).f0 = true then none else some (S2 ++ [(y.f6[k0]).f0])) := ⟨by rw [htk, namesP_app, hS.out]; simp [namesP]⟩
          have hno : Aside0 (namesP S (y.f6.take (k0 + 1)) = none → fieldedP t 5 x [] = false) := ⟨fun h => by
            have e : y.f6 = y.f6.take (k0 + 1) ++ y.f6.drop (k0 + 1) := (List.take_append_drop _ _).symm
            have e2 : namesP S y.f6 = none := by rw [e, namesP_app, h]; rfl
            rw [hF2.out, e2]⟩
          have hsz := hzy.out _ (List.getElem_mem hlt)
          clear htk hrd hk00 hS
          generalize y.f6[k0] = f at r0 r1 r2 hstep hsz
          have hml := HL.out.map.lt
          have HLa := Aside0.mk (HL.out.on (below_alloc (Below.refl _ _) (.cells #[.string f.f0, .bool f.f1, .int .i64 f.f2] 42)))
          have hlook := HLa.out.map.look hsz
          clear HL
          cases hmet : met S2 f.f0 with
          | true =>
            rw [show (metM S2 f.f0).getD 0 = 1 by simp [metM, hmet]] at hlook
            obtain ⟨w6, hst, hm6, hg6⟩ := HLa.out.map.store (x := 2) (by unfold maxLen; omega) hsz (by decide)
            have hlook2 := hm6.look hsz
            rw [show (putS (metM S2) f.f0 (some 2) f.f0).getD 0 = 2 by simp [putS]] at hlook2
            have hgb := Aside0.mk (HLa.out.below.grown hg6 HLa.out.below.size (fun k e => by cases e; omega))
            have R : Aside0 (fieldedP t 5 x [] = false) := ⟨hno.out (by rw [hstep.out, if_pos hmet])⟩
            have c0 : w6.cell? ⟨wp.heap.size, 0, none⟩ = some (.string f.f0) := (hg6.cell_far _ (by simp) (fun e => by have := Option.some.inj e; simp at this; omega)).trans (by go_simp)
            clear hm6 hg6 HLa hmet hno hstep
            go_wp2
            go_ret
            exact ⟨ret_bool R.out.symm, hgb.out⟩
          | false =>
            rw [show (metM S2 f.f0).getD 0 = 0 by simp [metM, hmet]] at hlook
            obtain ⟨w6, hst, hm6, hg6⟩ := HLa.out.map.store (x := 1) (by unfold maxLen; omega) hsz (by decide)
            have hlook2 := hm6.look hsz
            rw [show (putS (metM S2) f.f0 (some 1) f.f0).getD 0 = 1 by simp [putS]] at hlook2
            have HL6 := Aside0.mk (HLa.out.put hm6 hg6)
            have hs2 : Aside0 (namesP S (y.f6.take (k0 + 1)) = some (S2 ++ [f.f0])) := ⟨by rw [hstep.out, hmet]; rfl⟩
            have c0 : w6.cell? ⟨wp.heap.size, 0, none⟩ = some (.string f.f0) := (hg6.cell_far _ (by simp) (fun e => by have := Option.some.inj e; simp at this; omega)).trans (by go_simp)
            clear hm6 hg6 HLa hmet hno hstep
            go_wp2
            go_roundw
            case rel => exact ⟨k0 + 1, N2 + 1, S2 ++ [f.f0], by omega, by go_num, by omega, hs2, HL6⟩
            case measure => simp [intOf]; omega
        · have hx : decide ((k0 : Int) < (y.f6.length : Int)) = false := decide_eq_false (by omega)
          have hS2 : Aside0 (namesP S y.f6 = some S2) := ⟨by have := hS.out; rwa [List.take_of_length_le (by omega)] at this⟩
          have hF3 : Aside0 (fieldedP t 5 x [] = if y.f5 = 0 then true else fieldedP t n (rd_T40 t y.f5) S2) := ⟨by rw [hF2.out, hS2.out]⟩
          clear hS hS2 hF2
          have b5 := HL.out.cell 5 _ rfl
          by_cases h0 : y.f5 = 0
          · have h0b : (y.f5 == 0) = true := by simpa using h0
            have R : Aside0 (fieldedP t 5 x [] = true) := ⟨by rw [hF3.out, if_pos h0]⟩
            replace h0 := Aside0.mk h0
            go_wp2
            go_ret
            exact ⟨ret_bool R.out.symm, HL.out.below⟩
          · have h0b : (y.f5 == 0) = false := by simpa using h0
            have h9 : form t y.f5 = 9 := hy5.out.resolve_left h0
            have hpl : 0 ≤ y.f5 ∧ y.f5 < (t.length : Int) := by
              by_cases h : 0 ≤ y.f5 ∧ y.f5 < (t.length : Int)
              · exact h
              · unfold form at h9; rw [if_neg h] at h9; omega
            obtain ⟨p51, p52⟩ := hpl
            have h90 : (rd_T40 t y.f5).f0 = 9 := by unfold form at h9; rwa [if_pos ⟨p51, p52⟩] at h9
            have hz5 := Aside0.mk (HCH.out _ p51 p52 h90)
            have hmem := Aside0.mk (rd_in (t := t) p51 p52)
            have hF4 : Aside0 (fieldedP t 5 x [] = fieldedP t n (rd_T40 t y.f5) S2) := ⟨by rw [hF3.out, if_neg h0]⟩
            obtain ⟨ad, B6, d6, B7, d7, hA, p0, p1, p2, p3, p4, p5, p6, p7, p8, p9, m6, D6, m7, D7⟩ := at_T40 hCx.out y.f5 p51 p52
            subst hA
            have HD6 := Aside0.mk D6
            have KC := fun (a : Addr) (v : Value) (h : w.cell? a = some v) => (HL.out.below.cell (p := a) (World.block_lt_of_cell? w _ h)).trans h
            replace p0 := KC _ _ p0
            replace p1 := KC _ _ p1
            replace p2 := KC _ _ p2
            replace p3 := KC _ _ p3
            replace p4 := KC _ _ p4
            replace p5 := KC _ _ p5
            replace p6 := KC _ _ p6
            replace p7 := KC _ _ p7
            replace p8 := KC _ _ p8
            replace p9 := KC _ _ p9
            clear KC h9 h90 hF3 h0 D6 D7 m6 m7
            generalize rd_T40 t y.f5 = z at p0 p1 p2 p3 p4 p5 p6 p7 p8 p9 HD6 hz5 hmem hF4
            obtain ⟨w6, hst, HL6⟩ := HL.out.store (ys := cellsOf z B6 d6 B7 d7) rfl rfl (by intro q hq; simp [cellsOf] at hq; rcases hq with h | h | h | h | h | h | h | h | h | h <;> subst h <;> rfl) (.agg #[.int .i64 z.f0, .string z.f1, .string z.f2, .int .i64 z.f3, .int .i64 z.f4, .int .i64 z.f5, .slice B6 z.f6.length d6, .slice B7 z.f7.length d7, .int .i64 z.f8, .int .i64 z.f9]) (by rfl)
            have HL7 := Aside0.mk HL6
            have hFn : Aside0 (fieldedP t 5 x [] = fieldedP t (5 - (i0 + 1)) z S2) := ⟨by rw [hF4.out, hn''.out]⟩
            clear HL6 HL hF4
            go_wp2_with ((with_reducible refine gate_store (t := 40) (p := 3) rfl ?_); refine store_wp rfl rfl rfl rfl rfl hst ?_; clear hst)
            go_roundw
            case rel => exact ⟨i0 + 1, z, S2, N2, B6, d6, B7, d7, by omega, by go_num, by omega, hFn, HL7, HD6, hmem, hz5⟩
            case measure => simp [intOf]; omega
end Go.Proofs.Ytgnbemgeiloegaa.Tg
