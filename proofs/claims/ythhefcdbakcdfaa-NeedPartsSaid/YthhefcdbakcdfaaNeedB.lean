/- The small samples of the law's package (wakes) hold: three expressions need 3, 2 and 2 registers. No condition. -/
import Derived.Test.YthhefcdbakcdfaaNeedA
namespace Go.Proofs.Ythhefcdbakcdfaa.PNeedTells
open Go.RowKit Go.Proofs.YthhefcdbakcdfaaW.PrintWords Go.Proofs.YthhefcdbakcdfaaW.PrintLast Go.Proofs.YthhefcdbakcdfaaW.PrintMore
attribute [local go_sem] max2_int min2_int max_two min_two max_three min_three max_four min_four

theorem k24_heap : Kd.Heap k24 := Kd.heap_fix (fun _ h_ => Kd.heap_iso _ (Kd.heap_pair (Kd.heap_int _) (Kd.heap_pair (Kd.heap_int _) (Kd.heap_pair Kd.heap_string (Kd.heap_pair Kd.heap_string (Kd.heap_pair (Kd.heap_slice 24 h_) (Kd.heap_int _)))))))

/-- The value v reads as the expression e in w. -/
def Rep (w : World) (e : S24) (v : Value) : Prop :=
  ∃ A c, v = .agg #[.int .i64 e.f0, .int .i64 e.f1, .string e.f2, .string e.f3, .slice A e.f4.length c, .int .i64 e.f5] ∧ e.f4.length ≤ c ∧ k24.C w A e.f4.length e.f4
theorem Rep.below {w w' : World} {e : S24} {v : Value} (h : Rep w e v) (hb : Below w.heap.size w w') : Rep w' e v := by
  obtain ⟨A, c, rfl, hl, hc⟩ := h
  exact ⟨A, c, rfl, hl, Kd.C_below hc hb⟩

theorem below_more {w w1 w2 : World} (h : Below w.heap.size w w1) (k : Below w1.heap.size w1 w2) : Below w.heap.size w w2 := below_then h h.size k

/-- A new block that holds elements one behind the other reads as these. -/
theorem C_new {α : Type} (d : Kd α) (w : World) (t : TypeId) {xs : List α} {cs : List Value} (h : Reps (d.K w) d.sz xs cs) (hn : xs.length ≤ 9223372036854775807) :
    d.C (w.alloc (.cells cs.toArray t)) (some ⟨w.heap.size, 0, none⟩) xs.length xs := by
  refine ⟨rfl, hn, fun _ => ⟨_, rfl, fun j p hj => ⟨(cs.drop (j * d.sz)).take d.sz, ?_, d.K_below (below_alloc (Below.refl _ _) _) (h.2 j p hj), fun i u hu => ?_⟩⟩⟩
  · have hjl := (List.getElem?_eq_some_iff.1 hj).1
    have h1 : j * d.sz + d.sz ≤ cs.length := by rw [h.1, ← Nat.succ_mul]; exact Nat.mul_le_mul_right _ hjl
    rw [List.length_take, List.length_drop]
    omega
  · rw [List.getElem?_take] at hu
    split at hu
    · rw [List.getElem?_drop] at hu
      rw [add_plain, cell_of_row _ _ _ _ t (0, 0) (heap_alloc_new w _)]
      simpa using hu
    · cases hu
theorem Rep.cells {w : World} {e : S24} {v : Value} (h : Rep w e v) : ∃ cs, v = .agg cs.toArray ∧ cs.length = 6 ∧ k24.K w e cs := by
  obtain ⟨A, c, rfl, hl, hc⟩ := h
  exact ⟨_, rfl, rfl, k24_mk w e hl hc⟩

def nm (s : ByteArray) : S24 := ⟨8, 0, s, ⟨#[]⟩, [], 0⟩
def tw (a b : S24) : S24 := ⟨14, 0, ⟨#[]⟩, ⟨#[43]⟩, [a, b], 0⟩
def nf (k : Nat) (e : S24) : Option Int := need_Need.f k e.f0 e.f1 e.f2 e.f3 e.f4 e.f5

/-! ### How many registers an expression needs, as a plain function -/
mutual
def ndE : S24 → Int
  | ⟨k, _, _, _, l, _⟩ => mn (ndL k l 0 1) 128
def ndL : Int → List S24 → Int → Int → Int
  | _, [], _, n => n
  | k, e :: r, i, n => ndL k r (i + 1) (mx n (if k = 12 ∧ 0 < i then mx 2 (ndE e) else ndE e + i))
end
mutual
/-- No list within is longer than some billions. -/
def SmE : S24 → Prop
  | ⟨_, _, _, _, l, _⟩ => l.length ≤ 1000000000000 ∧ SmL l
def SmL : List S24 → Prop
  | [] => True
  | e :: r => SmE e ∧ SmL r
end
theorem mx_le (a b : Int) : a ≤ mx a b := by unfold mx; split <;> omega
theorem ndL_ge (k : Int) : ∀ (l : List S24) (i n : Int), n ≤ ndL k l i n
  | [], _, _ => by simp [ndL]
  | e :: r, i, n => by
    simp only [ndL]
    exact Int.le_trans (mx_le _ _) (ndL_ge k r _ _)
theorem ndE_bd : ∀ e : S24, 1 ≤ ndE e ∧ ndE e ≤ 128
  | ⟨k, _, _, _, l, _⟩ => by
    have := ndL_ge k l 0 1
    simp only [ndE]
    unfold mn
    split <;> omega
theorem rd_at (pre : List S24) (e : S24) (r : List S24) : rd_T24 (pre ++ e :: r) (pre.length : Int) = e := by
  simp [rd_T24]
theorem wrap_id (x : Int) (h : -9223372036854775808 ≤ x) (h' : x < 9223372036854775808) : wrap64 x = x := by unfold wrap64; omega
mutual
theorem nf_nd : ∀ e : S24, SmE e → Ev (fun k => nf k e) (ndE e)
  | ⟨K, f1, f2, f3, l, f5⟩ => fun h => by
    simp only [SmE] at h
    refine Ev.step (f := fun k => need_Need.l0 k 1 (l.length : Int) 0 K f1 f2 f3 l f5) (fun k => by unfold nf; simp only [need_Need.f]) ?_
    simp only [ndE]
    exact nl_nd K f1 f2 f3 f5 l [] 1 h.1 h.2
theorem nl_nd (K f1 : Int) (f2 f3 : ByteArray) (f5 : Int) : ∀ (suf pre : List S24) (n : Int), (pre ++ suf).length ≤ 1000000000000 → SmL suf →
    Ev (fun k => need_Need.l0 k n ((pre ++ suf).length : Int) (pre.length : Int) K f1 f2 f3 (pre ++ suf) f5) (mn (ndL K suf pre.length n) 128)
  | [], pre, n => fun hl _ => by
    refine Ev.step (f := fun _ => some (mn n 128)) (fun k => ?_) (Ev.now _)
    simp only [need_Need.l0, List.append_nil]
    rw [if_neg (by omega)]
  | e :: r, pre, n => fun hl hs => by
    simp only [SmL] at hs
    have hb := ndE_bd e
    simp only [List.length_append, List.length_cons] at hl
    have h1 := nf_nd e hs.1
    have h2 := nl_nd K f1 f2 f3 f5 r (pre ++ [e]) (mx n (if K = 12 ∧ 0 < (pre.length : Int) then mx 2 (ndE e) else ndE e + pre.length)) (by simp only [List.length_append, List.length_cons, List.length_nil]; omega) hs.2
    have hap : pre ++ [e] ++ r = pre ++ e :: r := by simp
    have hpl : ((pre ++ [e]).length : Int) = (pre.length : Int) + 1 := by simp
    rw [hap, hpl] at h2
    simp only [ndL]
    have w1 : wrap64 ((pre.length : Int) + 1) = (pre.length : Int) + 1 := wrap_id _ (by omega) (by omega)
    have w2 : wrap64 (ndE e + (pre.length : Int)) = ndE e + pre.length := wrap_id _ (by omega) (by omega)
    have w3 : wrap64 (ndE e + (pre.length : Int) - pre.length) = ndE e := by rw [wrap_id _ (by omega) (by omega)]; omega
    refine Ev.step (f := fun k => (nf k e).bind fun t => if K = 12 then (if (pre.length : Int) > 0 then need_Need.l0 k (mx n (mx 2 (wrap64 (wrap64 (t + (pre.length : Int)) - pre.length)))) ((pre ++ e :: r).length : Int) (wrap64 ((pre.length : Int) + 1)) K f1 f2 f3 (pre ++ e :: r) f5 else need_Need.l0 k (mx n (wrap64 (t + (pre.length : Int)))) ((pre ++ e :: r).length : Int) (wrap64 ((pre.length : Int) + 1)) K f1 f2 f3 (pre ++ e :: r) f5) else need_Need.l0 k (mx n (wrap64 (t + (pre.length : Int)))) ((pre ++ e :: r).length : Int) (wrap64 ((pre.length : Int) + 1)) K f1 f2 f3 (pre ++ e :: r) f5) (fun k => ?_) (Ev.bind h1 ?_)
    · rw [need_Need.l0]
      rw [if_pos (by simp; omega), if_pos (by omega), if_pos (by simp; omega), rd_at]
      rfl
    · simp only [w1, w2, w3]
      by_cases hK : K = 12
      · by_cases hp : (pre.length : Int) > 0
        · simp only [if_pos hK, if_pos hp]
          rw [if_pos ⟨hK, hp⟩] at h2 ⊢
          exact h2
        · simp only [if_pos hK, if_neg hp]
          rw [if_neg (fun h => hp h.2)] at h2 ⊢
          exact h2
      · simp only [if_neg hK]
        rw [if_neg (fun h => hK h.1)] at h2 ⊢
        exact h2
end

theorem name_any (s : ByteArray) (w : World) :
    Calls Try.prog 13 #[.string s] w fun e w' => ∃ v, e = .returned v ∧ Rep w' (nm s) v ∧ Below w.heap.size w w' := by
  refine (spinetlaw19_name.calls s _ _ _ _ _ _ w rfl).mono ?_
  rintro e w' ⟨v4, rfl, hr, hb⟩
  obtain ⟨A, c, rfl, hl, hc⟩ := Kd.R_reads hr
  exact ⟨_, rfl, ⟨A, c, rfl, hl, hc⟩, hb⟩

theorem two_any (a b : S24) (va vb : Value) (w : World) (ha : Rep w a va) (hb : Rep w b vb) :
    Calls Try.prog 12 #[va, vb] w fun e w' => ∃ v, e = .returned v ∧ Rep w' (tw a b) v ∧ Below w.heap.size w w' := by
  obtain ⟨A, c, rfl, hl, hc⟩ := ha
  obtain ⟨A', c', rfl, hl', hc'⟩ := hb
  obtain ⟨a0, a1, a2, a3, a4, a5⟩ := a
  obtain ⟨b0, b1, b2, b3, b4, b5⟩ := b
  refine (spinetlaw19_two.calls a0 a1 a2 a3 _ A c a4 a5 b0 b1 b2 b3 _ A' c' b4 b5 _ _ _ _ _ _ w (Kd.V_mk hl (Kd.C_F k24_heap hc)) (Kd.V_mk hl' (Kd.C_F k24_heap hc')) rfl).mono ?_
  rintro e w' ⟨v4, rfl, hr, hbb⟩
  obtain ⟨A2, c2, rfl, hl2, hc2⟩ := Kd.N_reads hr
  exact ⟨_, rfl, ⟨A2, c2, rfl, hl2, hc2⟩, hbb⟩

theorem need_any (e : S24) (v : Value) (w : World) (h : Rep w e v) {k : Nat} {r : Int} (hr : nf k e = some r) :
    Calls Try.prog 9 #[v] w fun e w' => e = .returned (.int .i64 r) ∧ Below w.heap.size w w' := by
  obtain ⟨A, c, rfl, hl, hc⟩ := h
  exact need_Need.calls k _ _ _ _ A c _ _ r w hc hl hr

/-- The value v reads as the expression e in w, by way of blocks in ok alone. -/
def RepF (w : World) (ok : Nat → Prop) (e : S24) (v : Value) : Prop :=
  ∃ A c, v = .agg #[.int .i64 e.f0, .int .i64 e.f1, .string e.f2, .string e.f3, .slice A e.f4.length c, .int .i64 e.f5] ∧ e.f4.length ≤ c ∧ Kd.F k24 w ok A e.f4.length e.f4
theorem RepF.below {w w' : World} {ok : Nat → Prop} {e : S24} {v : Value} (h : RepF w ok e v) (hb : Below w.heap.size w w') : RepF w' ok e v := by
  obtain ⟨A, c, rfl, hl, hc⟩ := h
  exact ⟨A, c, rfl, hl, Kd.F_below hc hb⟩
theorem RepF.step {w w' : World} {ok : Nat → Prop} {e : S24} {v : Value} (h : RepF w ok e v) (hb : ∀ k, ok k → k < w.heap.size → w'.heap[k]? = w.heap[k]?) : RepF w' ok e v := by
  obtain ⟨A, c, rfl, hl, hc⟩ := h
  exact ⟨A, c, rfl, hl, Kd.F_step hc hb⟩
theorem RepF.now {w : World} {ok : Nat → Prop} {e : S24} {v : Value} (h : RepF w ok e v) : Rep w e v := by
  obtain ⟨A, c, rfl, hl, hc⟩ := h
  exact ⟨A, c, rfl, hl, Kd.F_now hc⟩
theorem RepF.mono {w : World} {ok ok' : Nat → Prop} {e : S24} {v : Value} (h : RepF w ok e v) (hk : ∀ k, ok k → ok' k) : RepF w ok' e v := by
  obtain ⟨A, c, rfl, hl, hc⟩ := h
  exact ⟨A, c, rfl, hl, Kd.F_mono hc hk⟩
theorem Rep.old {w : World} {e : S24} {v : Value} (h : Rep w e v) : RepF w (fun k => k < w.heap.size) e v := by
  obtain ⟨A, c, rfl, hl, hc⟩ := h
  exact ⟨A, c, rfl, hl, Kd.C_F k24_heap hc⟩
theorem name_anyF (ok : Nat → Prop) (s : ByteArray) (w : World) :
    Calls Try.prog 13 #[.string s] w fun e w' => ∃ v, e = .returned v ∧ RepF w' ok (nm s) v ∧ Below w.heap.size w w' := by
  refine (spinetlaw19_name.calls s _ _ _ _ _ _ w rfl).mono ?_
  rintro e w' ⟨v4, rfl, hr, hb⟩
  obtain ⟨A, c, rfl, hl, hc⟩ := Kd.R_reads hr
  exact ⟨_, rfl, ⟨A, c, rfl, hl, fun W' _ => ⟨rfl, by simp [nm], fun h => absurd h (by simp [nm])⟩⟩, hb⟩
theorem two_anyF (ok : Nat → Prop) (a b : S24) (va vb : Value) (w : World) (hok : ∀ k, w.heap.size ≤ k → ok k) (ha : RepF w ok a va) (hb : RepF w ok b vb) :
    Calls Try.prog 12 #[va, vb] w fun e w' => ∃ v, e = .returned v ∧ RepF w' ok (tw a b) v ∧ Below w.heap.size w w' := by
  obtain ⟨A, c, rfl, hl, hc⟩ := ha
  obtain ⟨A', c', rfl, hl', hc'⟩ := hb
  obtain ⟨a0, a1, a2, a3, a4, a5⟩ := a
  obtain ⟨b0, b1, b2, b3, b4, b5⟩ := b
  refine (spinetlaw19_two.calls a0 a1 a2 a3 ok A c a4 a5 b0 b1 b2 b3 ok A' c' b4 b5 _ _ _ _ _ _ w (Kd.V_mk hl hc) (Kd.V_mk hl' hc') rfl).mono ?_
  rintro e w' ⟨v4, rfl, hr, hbb⟩
  obtain ⟨A2, c2, rfl, hl2, hc2⟩ := Kd.N_V (base' := 0) hr
  exact ⟨_, rfl, ⟨A2, c2, rfl, hl2, Kd.F_mono hc2 (fun k hk => hk.elim (fun h => h.elim id id) (hok k))⟩, hbb⟩

set_option maxHeartbeats 1000000 in
set_option maxRecDepth 100000 in
theorem wakes_any (w : World) : Calls Try.prog 7 #[] w fun e w' => e = .returned (.bool true) ∧ Below w.heap.size w w' := by
  have B := Below.refl w.heap.size w
  go_enter Try.func7, Try.ntmps7
  go_wp2_with fail
  refine (name_any _ _).mono ?_
  rintro e w1 ⟨v1, rfl, h1, b1⟩
  replace B := below_more B b1
  go_wp2_with fail
  refine (name_any _ _).mono ?_
  rintro e w2 ⟨v2, rfl, h2, b2⟩
  replace h1 := h1.below b2
  replace B := below_more B b2
  go_wp2_with fail
  refine (name_any _ _).mono ?_
  rintro e w3 ⟨v3, rfl, h3, b3⟩
  replace h1 := h1.below b3
  replace h2 := h2.below b3
  replace B := below_more B b3
  go_wp2_with fail
  refine (two_any _ _ _ _ _ h2 h3).mono ?_
  rintro e w4 ⟨v4, rfl, h4, b4⟩
  replace h1 := h1.below b4
  replace h2 := h2.below b4
  replace h3 := h3.below b4
  replace B := below_more B b4
  clear h2
  clear h3
  go_wp2_with fail
  refine (two_any _ _ _ _ _ h1 h4).mono ?_
  rintro e w5 ⟨v5, rfl, h5, b5⟩
  replace h1 := h1.below b5
  replace h4 := h4.below b5
  replace B := below_more B b5
  clear h1
  clear h4
  go_wp2_with fail
  refine (need_any _ _ _ h5 (k := 12) (r := 3) (by decide +kernel)).mono ?_
  rintro e w6 ⟨rfl, b6⟩
  replace h5 := h5.below b6
  replace B := below_more B b6
  clear h5
  go_wp2_with fail
  refine (name_any _ _).mono ?_
  rintro e w7 ⟨v7, rfl, h7, b7⟩
  replace B := below_more B b7
  go_wp2_with fail
  refine (name_any _ _).mono ?_
  rintro e w8 ⟨v8, rfl, h8, b8⟩
  replace h7 := h7.below b8
  replace B := below_more B b8
  go_wp2_with fail
  refine (two_any _ _ _ _ _ h7 h8).mono ?_
  rintro e w9 ⟨v9, rfl, h9, b9⟩
  replace h7 := h7.below b9
  replace h8 := h8.below b9
  replace B := below_more B b9
  clear h7
  clear h8
  go_wp2_with fail
  refine (name_any _ _).mono ?_
  rintro e w10 ⟨v10, rfl, h10, b10⟩
  replace h9 := h9.below b10
  replace B := below_more B b10
  go_wp2_with fail
  refine (two_any _ _ _ _ _ h9 h10).mono ?_
  rintro e w11 ⟨v11, rfl, h11, b11⟩
  replace h9 := h9.below b11
  replace h10 := h10.below b11
  replace B := below_more B b11
  clear h9
  clear h10
  go_wp2_with fail
  refine (need_any _ _ _ h11 (k := 12) (r := 2) (by decide +kernel)).mono ?_
  rintro e w12 ⟨rfl, b12⟩
  replace h11 := h11.below b12
  replace B := below_more B b12
  clear h11
  go_wp2_with fail
  refine (name_any _ _).mono ?_
  rintro e w13 ⟨v13, rfl, h13, b13⟩
  replace B := below_more B b13
  go_wp2_with fail
  refine (name_any _ _).mono ?_
  rintro e w14 ⟨v14, rfl, h14, b14⟩
  replace h13 := h13.below b14
  replace B := below_more B b14
  go_wp2_with fail
  refine (name_any _ _).mono ?_
  rintro e w15 ⟨v15, rfl, h15, b15⟩
  replace h13 := h13.below b15
  replace h14 := h14.below b15
  replace B := below_more B b15
  go_wp2_with fail
  refine (two_any _ _ _ _ _ h14 h15).mono ?_
  rintro e w16 ⟨v16, rfl, h16, b16⟩
  replace h13 := h13.below b16
  replace h14 := h14.below b16
  replace h15 := h15.below b16
  replace B := below_more B b16
  clear h14
  clear h15
  obtain ⟨A, c, rfl, hl, hc⟩ := h13
  obtain ⟨A', c', rfl, hl', hc'⟩ := h16
  have k1 := k24_mk w16 _ hl hc
  have k2 := k24_mk w16 _ hl' hc'
  have hN := C_new k24 w16 24 (Reps.snoc (Reps.snoc (Reps.none (k24.K w16) 6) k1 rfl) k2 rfl) (by simp)
  go_wp2_with fail
  refine (need_any ⟨12, 0, ⟨#[]⟩, ⟨#[]⟩, [nm ⟨#[102]⟩, tw (nm ⟨#[97]⟩) (nm ⟨#[98]⟩)], 0⟩ _ _ ⟨_, _, rfl, Nat.le_refl 2, hN⟩ (k := 12) (r := 2) (by decide +kernel)).mono ?_
  rintro e w17 ⟨rfl, b17⟩
  replace B := below_more (below_alloc B _) b17
  go_wp2
  go_ret
  exact ⟨rfl, B⟩

end Go.Proofs.Ythhefcdbakcdfaa.PNeedTells
