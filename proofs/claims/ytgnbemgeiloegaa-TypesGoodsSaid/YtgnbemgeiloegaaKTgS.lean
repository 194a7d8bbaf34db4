import Derived.Test.YtgnbemgeiloegaaKTgR
namespace Go.Proofs.Ytgnbemgeiloegaa.Tg
open Go.RowKit Go.Maps Go.WideMaps
open Go.Proofs.YtgnbemgeiloegaaW.PrintWords Go.Proofs.YtgnbemgeiloegaaW.PrintLast Go.Proofs.YtgnbemgeiloegaaW.PrintMore
set_option linter.unusedVariables false
set_option linter.unusedSimpArgs false
open Go.Proofs.Ytgnbemgeiloegaa.PTypesGoods (S40 S42 S47 k40 k42 k47 rd_T40 rd_T42 rd_T47 at_T40 at_T42 at_T47)
/-! ARE ALL RECORDS FIELDED? -/
def badF (t : List S40) (x : S40) : Bool := decide (x.f0 = 9) && !fieldedP t 5 x []
/-- records' bases are records -/
def Chain (t : List S40) : Prop := ∀ a : Int, 0 ≤ a → a < t.length → (rd_T40 t a).f0 = 9 → (rd_T40 t a).f5 = 0 ∨ form t (rd_T40 t a).f5 = 9
set_option maxHeartbeats 16000000 in
theorem good1_calls {w : World} {A : Option Addr} {c : Nat} {t : List S40} (hC : Kd.C k40 w A t.length t) (hc : t.length ≤ c) (hz : Sized t) (hpm : Parms t)
    (hch : Chain t) (bx : Addr) (hb : w.cell? bx = some (.slice A t.length c)) (x : S40) {A6 A7 : Option Addr} {c6 c7 : Nat} (hx : x ∈ t) (hx5 : x.f0 = 9 → x.f5 = 0 ∨ form t x.f5 = 9)
    (C6 : Kd.C k42 w A6 x.f6.length x.f6) (l6 : x.f6.length ≤ c6) (C7 : Kd.C k47 w A7 x.f7.length x.f7) (l7 : x.f7.length ≤ c7) :
    Calls Try.prog 63 #[.agg #[.int .i64 x.f0, .string x.f1, .string x.f2, .int .i64 x.f3, .int .i64 x.f4, .int .i64 x.f5, .slice A6 x.f6.length c6, .slice A7 x.f7.length c7, .int .i64 x.f8, .int .i64 x.f9], .pointer (some bx)] w fun e w' => e = .returned (.bool (badF t x)) ∧ Below w.heap.size w w' := by
  have hlt := World.block_lt_of_cell? w _ hb
  by_cases h9 : x.f0 = 9
  · have hbel := below_alloc (Below.refl w.heap.size w) (.cells #[.int .i64 9, .string x.f1, .string x.f2, .int .i64 x.f3, .int .i64 x.f4, .int .i64 x.f5, .slice A6 x.f6.length c6, .slice A7 x.f7.length c7, .int .i64 x.f8, .int .i64 x.f9] 40)
    have HB := Aside0.mk hbel
    have R : Aside0 (badF t x = !fieldedP t 5 x []) := ⟨by unfold badF; rw [decide_eq_true h9, Bool.true_and]⟩
    have hF := fielded_calls (Kd.C_below hC hbel) hc hz hpm hch x hx (hx5 h9) (Kd.C_below C6 hbel) l6 (Kd.C_below C7 hbel) l7
    have hb2 := (hbel.cell (p := bx) hlt).trans hb
    clear hC hb hbel C6 C7 hch
    rw [h9] at hF ⊢
    replace h9 := Aside0.mk h9
    go_enter Try.func63, Try.ntmps63
    go_wp2_with fail
    refine hF.mono ?_
    rintro e w4 ⟨rfl, hb4⟩
    have HB4 := Aside0.mk (HB.out.trans (hb4.mono HB.out.size))
    clear hb4
    go_wp2
    go_ret
    exact ⟨ret_bool R.out.symm, HB4.out⟩
  · have h9b : (x.f0 == 9) = false := by simpa using h9
    have R : Aside0 (badF t x = false) := ⟨by unfold badF; rw [decide_eq_false h9, Bool.false_and]⟩
    clear hC hb C6 C7 h9
    go_enter Try.func63, Try.ntmps63
    go_wp2
    go_ret
    exact ⟨ret_bool R.out.symm, below_alloc (Below.refl _ _) _⟩
theorem chain_at {t : List S40} (h : Chain t) {x : S40} (a : Int) (h0 : 0 ≤ a) (h1 : a < t.length) (e : rd_T40 t a = x) : x.f0 = 9 → x.f5 = 0 ∨ form t x.f5 = 9 := fun h9 => by
  subst e
  exact h a h0 h1 h9
set_option maxHeartbeats 16000000 in
theorem index2_calls {w : World} {A : Option Addr} {c : Nat} {t : List S40} (hC : Kd.C k40 w A t.length t) (hc : t.length ≤ c) (hz : Sized t) (hpm : Parms t) (hl : t.length ≤ 256)
    (hch : Chain t) (bx : Addr) (hb : w.cell? bx = some (.slice A t.length c)) :
    Calls Try.prog 73 #[.slice A t.length c, .func (.func 63) #[] #[.pointer (some bx)]] w fun e w' => ∃ j, e = .returned (.int .i64 j) ∧ decide (j ≥ 0) = t.any (badF t) ∧ Below w.heap.size w w' := by
  have hlt := World.block_lt_of_cell? w _ hb
  have hCx := Aside0.mk hC
  have hBx := Aside0.mk hb
  have HCH := Aside0.mk hch
  clear hC hb hch
  go_enter Try.func73, Try.ntmps73
  go_wp2
  go_loopw [8] (fun i wr => ∃ i0 : Nat, i0 ≤ t.length ∧ i = .int .i64 i0 ∧ Aside0 ((t.take i0).any (badF t) = false) ∧ Aside0 (Below w.heap.size w wr)) (fun i _ => t.length - (intOf i).toNat)
  case atStart => exact ⟨0, Nat.zero_le _, rfl, ⟨rfl⟩, ⟨Below.refl _ _⟩⟩
  case round =>
    obtain ⟨wo, rfl⟩ : ∃ wo : World, wo = wr := ⟨_, rfl⟩
    obtain ⟨i0, hi0, rfl, hS, HB⟩ := hrel
    by_cases hlt : i0 < t.length
    · have hx : decide ((i0 : Int) < (t.length : Int)) = true := decide_eq_true (by omega)
      have hin := size_in hlt
      obtain ⟨ad, A6, c6, A7, c7, hA, p0, p1, p2, p3, p4, p5, p6, p7, p8, p9, l6, C6, l7, C7⟩ := at_T40 (Kd.C_below hCx.out HB.out) (i0 : Int) (by omega) (by omega)
      subst hA
      have hk00 : ((i0 : Nat) : Int).toNat = i0 := by omega
      have hget : rd_T40 t (i0 : Int) = t[i0] := by unfold rd_T40; simp [List.getD_eq_getElem?_getD, List.getElem?_eq_getElem hlt]
      have htk : t.take (i0 + 1) = t.take i0 ++ [t[i0]] := by rw [List.take_add_one, List.getElem?_eq_getElem hlt]; rfl
      have hstep : Aside0 ((t.take (i0 + 1)).any (badF t) = badF t (rd_T40 t (i0 : Int))) := ⟨by rw [htk, List.any_append, hS.out, hget]; simp⟩
      have hyes : Aside0 (badF t (rd_T40 t (i0 : Int)) = true → t.any (badF t) = true) := ⟨fun h => List.any_eq_true.2 ⟨_, List.getElem_mem hlt, by rw [← hget]; exact h⟩⟩
      have hmem := Aside0.mk (rd_in (t := t) (a := (i0 : Int)) (by omega) (by omega))
      have hx5 := Aside0.mk (chain_at HCH.out (i0 : Int) (by omega) (by omega) rfl)
      rw [hk00] at p0 p1 p2 p3 p4 p5 p6 p7 p8 p9
      clear hget htk hk00 hS
      have hc6 := Aside0.mk C6
      have hc7 := Aside0.mk C7
      clear C6 C7
      generalize rd_T40 t (i0 : Int) = x at p0 p1 p2 p3 p4 p5 p6 p7 p8 p9 l6 l7 hc6 hc7 hstep hyes hmem hx5
      have hB2 := Aside0.mk ((HB.out.cell (p := bx) (World.block_lt_of_cell? w _ hBx.out)).trans hBx.out)
      go_wp2_with fail
      refine (good1_calls (Kd.C_below hCx.out HB.out) hc hz hpm HCH.out bx hB2.out x hmem.out hx5.out hc6.out l6 hc7.out l7).mono ?_
      rintro e w4 ⟨rfl, hb4⟩
      have HB4 := Aside0.mk (HB.out.trans (hb4.mono HB.out.size))
      clear hb4 p0 p1 p2 p3 p4 p5 p6 p7 p8 p9
      cases hbd : badF t x with
      | true =>
        have R : Aside0 (t.any (badF t) = true) := ⟨hyes.out hbd⟩
        go_wp2
        go_ret
        exact ⟨_, rfl, by rw [R.out]; simp, HB4.out⟩
      | false =>
        have hS2 : Aside0 ((t.take (i0 + 1)).any (badF t) = false) := ⟨by rw [hstep.out, hbd]⟩
        clear hstep hyes
        go_wp2
        go_roundw
        case rel => exact ⟨i0 + 1, by omega, by go_num, hS2, HB4⟩
        case measure => simp [intOf]; omega
    · have hx : decide ((i0 : Int) < (t.length : Int)) = false := decide_eq_false (by omega)
      have R : Aside0 (t.any (badF t) = false) := ⟨by have := hS.out; rwa [List.take_of_length_le (by omega)] at this⟩
      clear hS
      go_wp2
      go_ret
      exact ⟨_, rfl, by rw [R.out]; rfl, HB.out⟩
theorem contains2_calls {w : World} {A : Option Addr} {c : Nat} {t : List S40} (hC : Kd.C k40 w A t.length t) (hc : t.length ≤ c) (hz : Sized t) (hpm : Parms t) (hl : t.length ≤ 256)
    (hch : Chain t) (bx : Addr) (hb : w.cell? bx = some (.slice A t.length c)) :
    Calls Try.prog 62 #[.slice A t.length c, .func (.func 63) #[] #[.pointer (some bx)]] w fun e w' => e = .returned (.bool (t.any (badF t))) ∧ Below w.heap.size w w' := by
  have hI := index2_calls hC hc hz hpm hl hch bx hb
  clear hC hch hb
  go_enter Try.func62, Try.ntmps62
  go_wp2_with fail
  refine hI.mono ?_
  rintro e w' ⟨j, rfl, hj, hb⟩
  have HJ := Aside0.mk hj
  have HB := Aside0.mk hb
  clear hj hb
  go_wp2
  go_ret
  exact ⟨ret_bool HJ.out, HB.out⟩
end Go.Proofs.Ytgnbemgeiloegaa.Tg
