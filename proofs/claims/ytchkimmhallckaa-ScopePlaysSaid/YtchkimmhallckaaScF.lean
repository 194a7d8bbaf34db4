import Derived.Test.YtchkimmhallckaaScE
namespace Go.Proofs.Ytchkimmhallckaa.Sc
open Go.RowKit Go.Maps Go.WideMaps
open Go.Proofs.YtchkimmhallckaaW.PrintWords Go.Proofs.YtchkimmhallckaaW.PrintLast Go.Proofs.YtchkimmhallckaaW.PrintMore
set_option linter.unusedVariables false
set_option linter.unusedSimpArgs false

section
variable {ops : Array Oper} {rest : List Oper} {o : Oper} {a : Act} {Q : Exit → Act → World → Prop}
theorem lookSome (w : World) (hg : o.guard = none) (m x : Operand) (hop : o.op = Op.lookup 47 m x true) (mp : Value) (N : Nat) (M : Int → ByteArray → Option Int) (lv v : Int) (s : ByteArray) (h : MapIs w mp N M)
    (h1 : (Lit.int .i64 lv).wf = true) (h2 : s.size ≤ maxLen) (hM : M lv s = some v) (hm : a.eval m = mp) (hx : a.eval x = keyV lv s)
    (hK : wpList Try.prog ops Q rest (a.put o.dst (.tuple #[.int .i64 v, .bool true])) w) : wpList Try.prog ops Q (o :: rest) a w := by
  refine wpList_plain hg fun K' hK' => ?_
  have hrun := h.look h1 h2
  rw [hM] at hrun
  unfold Oper.wp
  simp [execOp, hop, hm, hx, hrun, Result.andThen]
  exact hK' _ _ hK
theorem lookNone (w : World) (hg : o.guard = none) (m x : Operand) (hop : o.op = Op.lookup 47 m x true) (mp : Value) (N : Nat) (M : Int → ByteArray → Option Int) (lv : Int) (s : ByteArray) (h : MapIs w mp N M)
    (h1 : (Lit.int .i64 lv).wf = true) (h2 : s.size ≤ maxLen) (hM : M lv s = none) (hm : a.eval m = mp) (hx : a.eval x = keyV lv s)
    (hK : wpList Try.prog ops Q rest (a.put o.dst (.tuple #[.int .i64 0, .bool false])) w) : wpList Try.prog ops Q (o :: rest) a w := by
  refine wpList_plain hg fun K' hK' => ?_
  have hrun := h.look h1 h2
  rw [hM] at hrun
  unfold Oper.wp
  simp [execOp, hop, hm, hx, hrun, Result.andThen]
  exact hK' _ _ hK
theorem dropAt (w : World) (hg : o.guard = none) (m x : Operand) (hop : o.op = Op.call { callee := Callee.builtin Builtin.delete, args := #[m, x], argTypes := #[47, 53] }) (mp : Value) (N : Nat) (M : Int → ByteArray → Option Int) (lv : Int) (s : ByteArray) (h : MapIs w mp N M)
    (h1 : (Lit.int .i64 lv).wf = true) (h2 : s.size ≤ maxLen) (hm : a.eval m = mp) (hx : a.eval x = keyV lv s)
    (hK : ∀ w', MapIs w' mp N (putM M lv s none) → w.grownBy w' (mapBlock mp) → wpList Try.prog ops Q rest (a.put o.dst (.tuple #[])) w') : wpList Try.prog ops Q (o :: rest) a w := by
  refine wpList_plain hg fun K' hK' => ?_
  obtain ⟨w', hrun, r1, r2⟩ := h.drop h1 h2 o.type
  unfold Oper.wp
  simp [execOp, hop, resolve, invoke, builtin, hm, hx, hrun, Result.andThen]
  exact hK' _ _ (hK w' r1 r2)
theorem storeAt (w : World) (hg : o.guard = none) (m x y : Operand) (hop : o.op = Op.mapUpdate 47 m x y) (b : Nat) (N : Nat) (M : Int → ByteArray → Option Int) (lv v : Int) (s : ByteArray) (h : MapIs w (.map (some b)) N M) (hN : N < maxLen)
    (h1 : (Lit.int .i64 lv).wf = true) (h2 : s.size ≤ maxLen) (h3 : (Lit.int .i64 v).wf = true) (hm : a.eval m = .map (some b)) (hx : a.eval x = keyV lv s) (hy : a.eval y = .int .i64 v)
    (hK : ∀ w', MapIs w' (.map (some b)) (N + 1) (putM M lv s (some v)) → w.grownBy w' (some b) → wpList Try.prog ops Q rest (a.put o.dst undef) w') : wpList Try.prog ops Q (o :: rest) a w := by
  refine wpList_plain hg fun K' hK' => ?_
  obtain ⟨w', hrun, r1, r2⟩ := h.store hN h1 h2 h3
  unfold Oper.wp
  simp [execOp, hop, hm, hx, hy, hrun, Result.andThen]
  exact hK' _ _ (hK w' r1 r2)
end

def findTo (St : List Lvl) (s : ByteArray) : Nat → Option (Int × Nat)
  | 0 => none
  | k + 1 => match lk (St.getD k []) s with
    | some v => some (v, k)
    | none => findTo St s k
def find (St : List Lvl) (s : ByteArray) : Option (Int × Nat) := findTo St s St.length
def findV (r : Option (Int × Nat)) : Value := .tuple #[.int .i64 ((r.map (·.1)).getD 0), .int .i64 (((r.map (·.2)).getD 0 : Nat) : Int), .bool r.isSome]

section
variable {w w' w1 : World} {F F' : Nat → Prop} {g : Nat} {M : Int → ByteArray → Option Int} {St T : List Lvl} {l : Lvl} {N : Nat} {mp lv fv : Value} {vs : List Value}

theorem find_nil (w : World) (s : ByteArray) : Calls Try.prog 13 #[.pointer none, .string s] w fun e w' => e = .returned (findV none) ∧ w' = w := by
  go_enter Try.func13, Try.ntmps13
  go_wp2_with fail
  refine (depth_nil w).mono ?_
  rintro e w1 ⟨rfl, rfl⟩
  go_wp2_with fail
  go_loopw [7] (fun i wr => i = .int .i64 (-1) ∧ wr = w1) (fun _ _ => 0)
  case atStart => exact ⟨rfl, rfl⟩
  case round =>
    obtain ⟨rfl, rfl⟩ := hrel
    go_wp2
    go_ret3
    exact ⟨rfl, rfl⟩

theorem ofSt_at (k : Nat) (s : ByteArray) : ofSt St (k : Int) s = lk (St.getD k []) s := by simp [ofSt]

set_option maxHeartbeats 1000000 in
theorem find_calls (h : Rep w F g (ofSt St) St N mp lv fv vs) (s : ByteArray) (hs : s.size ≤ maxLen) : Calls Try.prog 13 #[.pointer (some ⟨g, 0, none⟩), .string s] w fun e w' => e = .returned (findV (find St s)) ∧ w' = w := by
  have c0 := h.c0
  have hm := h.map
  obtain ⟨mb, rfl⟩ := hm.isMapV
  have hlen := Aside0.mk h.len
  have hdeep := h.deep
  go_enter Try.func13, Try.ntmps13
  go_wp2_with fail
  refine (depth_calls h).mono ?_
  clear h
  rintro e w1 ⟨rfl, rfl⟩
  go_wp2_with fail
  go_loopw [7] (fun i wr => ∃ j : Nat, j ≤ St.length ∧ i = .int .i64 ((j : Int) - 1) ∧ wr = w1 ∧ Aside0 (find St s = findTo St s j)) (fun i _ => ((intOf i) + 1).toNat)
  case atStart => exact ⟨St.length, Nat.le_refl _, by (have := hlen.out); congr 1; omega, rfl, ⟨rfl⟩⟩
  case round =>
    obtain ⟨j, hj, rfl, rfl, hf⟩ := hrel
    rcases j with _ | k
    · have hf1 : find St s = none := hf.out
      clear hf
      have hf2 := Aside0.mk hf1
      clear hf1
      go_wp2
      go_ret3
      exact ⟨by rw [hf2.out]; rfl, rfl⟩
    · have e0 : ((k + 1 : Nat) : Int) - 1 = (k : Int) := by omega
      rw [e0]
      have d0 : decide ((k : Int) ≥ 0) = true := decide_eq_true (by omega)
      have hw := wf_small (lv := (k : Int)) (by omega) (by omega)
      rcases hx : lk (St.getD k []) s with _ | v
      · have hM : ofSt St (k : Int) s = none := by rw [ofSt_at]; exact hx
        have hf1 : Aside0 (find St s = findTo St s k) := ⟨by rw [hf.out]; simp only [findTo]; rw [hx]⟩
        go_wp2_with (first | (at_lookup; refine lookNone _ rfl _ _ rfl (.map mb) N (ofSt St) (k : Int) s hm hw hs hM ?hm ?hx ?_; (case hm => rfl); (case hx => rfl)))
        go_roundw
        case rel => exact ⟨k, by omega, by go_num, by first | trivial | rfl, hf1⟩
        case measure => simp [intOf]
      · have hM : ofSt St (k : Int) s = some v := by rw [ofSt_at]; exact hx
        have hf1 : find St s = some (v, k) := by rw [hf.out]; simp only [findTo]; rw [hx]
        have hf2 := Aside0.mk hf1
        clear hf hf1
        go_wp2_with (first | (at_lookup; refine lookSome _ rfl _ _ rfl (.map mb) N (ofSt St) (k : Int) v s hm hw hs hM ?hm ?hx ?_; (case hm => rfl); (case hx => rfl)))
        go_ret3
        exact ⟨by rw [hf2.out]; rfl, rfl⟩
end
end Go.Proofs.Ytchkimmhallckaa.Sc
