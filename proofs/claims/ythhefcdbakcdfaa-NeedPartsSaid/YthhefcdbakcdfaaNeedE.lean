/- A copy of a list of expressions is alike; the reference's count is the plain one. -/
import Derived.Test.YthhefcdbakcdfaaNeedD
namespace Go.Proofs.Ythhefcdbakcdfaa.PNeedTells
open Go.RowKit Go.Proofs.YthhefcdbakcdfaaW.PrintWords Go.Proofs.YthhefcdbakcdfaaW.PrintLast Go.Proofs.YthhefcdbakcdfaaW.PrintMore
attribute [local go_sem] max2_int min2_int max_two min_two max_three min_three max_four min_four

def nfr (k : Nat) (e : S24) : Option Int := spinetref19_Need.f k e.f0 e.f1 e.f2 e.f3 e.f4 e.f5
mutual
theorem nfr_nd : ∀ e : S24, SmE e → Ev (fun k => nfr k e) (ndE e)
  | ⟨K, f1, f2, f3, l, f5⟩ => fun h => by
    simp only [SmE] at h
    refine Ev.step (f := fun k => spinetref19_Need.l0 k 1 0 K f1 f2 f3 l f5) (fun k => by unfold nfr; simp only [spinetref19_Need.f]) ?_
    simp only [ndE]
    exact nlr_nd K f1 f2 f3 f5 l [] 1 h.1 h.2
theorem nlr_nd (K f1 : Int) (f2 f3 : ByteArray) (f5 : Int) : ∀ (suf pre : List S24) (n : Int), (pre ++ suf).length ≤ 1000000000000 → SmL suf →
    Ev (fun k => spinetref19_Need.l0 k n (pre.length : Int) K f1 f2 f3 (pre ++ suf) f5) (mn (ndL K suf pre.length n) 128)
  | [], pre, n => fun hl _ => by
    refine Ev.step (f := fun _ => some (mn n 128)) (fun k => ?_) (Ev.now _)
    simp only [spinetref19_Need.l0, List.append_nil]
    rw [if_neg (by omega)]
  | e :: r, pre, n => fun hl hs => by
    simp only [SmL] at hs
    have hb := ndE_bd e
    simp only [List.length_append, List.length_cons] at hl
    have h1 := nfr_nd e hs.1
    have h2 := nlr_nd K f1 f2 f3 f5 r (pre ++ [e]) (mx n (if K = 12 ∧ 0 < (pre.length : Int) then mx 2 (ndE e) else ndE e + pre.length)) (by simp only [List.length_append, List.length_cons, List.length_nil]; omega) hs.2
    have hap : pre ++ [e] ++ r = pre ++ e :: r := by simp
    have hpl : ((pre ++ [e]).length : Int) = (pre.length : Int) + 1 := by simp
    rw [hap, hpl] at h2
    simp only [ndL]
    have w1 : wrap64 ((pre.length : Int) + 1) = (pre.length : Int) + 1 := wrap_id _ (by omega) (by omega)
    have w2 : wrap64 (ndE e + (pre.length : Int)) = ndE e + pre.length := wrap_id _ (by omega) (by omega)
    refine Ev.step (f := fun k => (nfr k e).bind fun t => if K = 12 then (if (pre.length : Int) > 0 then spinetref19_Need.l0 k (mx n (mx 2 t)) (wrap64 ((pre.length : Int) + 1)) K f1 f2 f3 (pre ++ e :: r) f5 else spinetref19_Need.l0 k (mx n (wrap64 (t + (pre.length : Int)))) (wrap64 ((pre.length : Int) + 1)) K f1 f2 f3 (pre ++ e :: r) f5) else spinetref19_Need.l0 k (mx n (wrap64 (t + (pre.length : Int)))) (wrap64 ((pre.length : Int) + 1)) K f1 f2 f3 (pre ++ e :: r) f5) (fun k => ?_) (Ev.bind h1 ?_)
    · rw [spinetref19_Need.l0]
      rw [if_pos (by simp; omega), if_pos (by omega), rd_at]
      rfl
    · simp only [w1, w2]
      by_cases hK : K = 12
      · by_cases hp : (pre.length : Int) > 0
        · simp only [if_pos hK, if_pos hp]
          rw [if_pos ⟨hK, hp⟩] at h2 ⊢
          exact h2
        · simp only [if_pos hK, if_neg hp]
          rw [if_neg (fun h => hp h.2)] at h2 ⊢
          exact h2
      · simp only [if_neg hK]
        rw [if_neg (fun h => hK h.1)] at h2 ⊢
        exact h2
end

mutual
theorem copy_e : ∀ e : S24, SmE e → Ev (fun k => spinetref10_CopyExprs.f k e.f4) e.f4
  | ⟨K, f1, f2, f3, l, f5⟩ => fun h => by
    simp only [SmE] at h
    refine Ev.step (f := fun k => spinetref10_CopyExprs.l0 k l [] 0) (fun k => by simp only [spinetref10_CopyExprs.f]) ?_
    exact copy_l l [] h.1 h.2
theorem copy_l : ∀ (suf pre : List S24), (pre ++ suf).length ≤ 1000000000000 → SmL suf → Ev (fun k => spinetref10_CopyExprs.l0 k (pre ++ suf) pre (pre.length : Int)) (pre ++ suf)
  | [], pre => fun hl _ => by
    refine Ev.step (f := fun _ => some (pre ++ [])) (fun k => ?_) (Ev.now _)
    simp only [spinetref10_CopyExprs.l0, List.append_nil]
    rw [if_neg (by omega)]
  | e :: r, pre => fun hl hs => by
    simp only [SmL] at hs
    simp only [List.length_append, List.length_cons] at hl
    have h1 := copy_e e hs.1
    have h2 := copy_l r (pre ++ [e]) (by simp only [List.length_append, List.length_cons, List.length_nil]; omega) hs.2
    have hap : pre ++ [e] ++ r = pre ++ e :: r := by simp
    have hpl : ((pre ++ [e]).length : Int) = (pre.length : Int) + 1 := by simp
    rw [hap, hpl] at h2
    have w1 : wrap64 ((pre.length : Int) + 1) = (pre.length : Int) + 1 := wrap_id _ (by omega) (by omega)
    refine Ev.step (f := fun k => (spinetref10_CopyExprs.f k e.f4).bind fun t => if pre.length < 1759218604441 then spinetref10_CopyExprs.l0 k (pre ++ e :: r) (pre ++ [⟨e.f0, e.f1, e.f2, e.f3, t, e.f5⟩]) (wrap64 ((pre.length : Int) + 1)) else none) (fun k => ?_) (Ev.bind h1 ?_)
    · rw [spinetref10_CopyExprs.l0]
      rw [if_pos (by simp; omega), if_pos (by omega), rd_at]
    · simp only [w1, if_pos (show pre.length < 1759218604441 by omega)]
      have he : (⟨e.f0, e.f1, e.f2, e.f3, e.f4, e.f5⟩ : S24) = e := by cases e; rfl
      rw [he]
      exact h2
end

theorem copy_f (l : List S24) (hl : l.length ≤ 1000000000000) (h : SmL l) : Ev (fun k => spinetref10_CopyExprs.f k l) l := by
  refine Ev.step (f := fun k => spinetref10_CopyExprs.l0 k l [] 0) (fun k => by simp only [spinetref10_CopyExprs.f]) ?_
  exact copy_l l [] hl h

theorem refneed_any (e : S24) (v : Value) (w : World) (h : Rep w e v) (hs : SmE e) :
    Calls Try.prog 10 #[v] w fun x w' => x = .returned (.int .i64 (ndE e)) ∧ Below w.heap.size w w' := by
  obtain ⟨A, c, rfl, hl, hc⟩ := h
  obtain ⟨k, hk⟩ := (nfr_nd e hs).rounds
  exact spinetref19_Need.calls k _ _ _ _ A c _ _ _ w hc hl hk
theorem need_nd (e : S24) (v : Value) (w : World) (h : Rep w e v) (hs : SmE e) :
    Calls Try.prog 9 #[v] w fun x w' => x = .returned (.int .i64 (ndE e)) ∧ Below w.heap.size w w' := by
  obtain ⟨k, hk⟩ := (nf_nd e hs).rounds
  exact need_any e v w h hk
/-- The copy of a list of one. -/
theorem copy_any (l : List S24) (A : Option Addr) (c : Nat) (w : World) (hc : k24.C w A l.length l) (hl : l.length ≤ c) (hn : l.length ≤ 1000000000000) (hs : SmL l) :
    Calls Try.prog 8 #[.slice A l.length c] w fun x w' => ∃ A' c', x = .returned (.slice A' l.length c') ∧ l.length ≤ c' ∧ k24.C w' A' l.length l ∧ Below w.heap.size w w' := by
  obtain ⟨k, hk⟩ := (copy_f l hn hs).rounds
  refine (spinetref10_CopyExprs.calls k A c l l w hc hl hk).mono ?_
  rintro e w' ⟨v, rfl, hr, hb⟩
  obtain ⟨A', c', rfl, hl', hc'⟩ := Kd.R_reads hr
  exact ⟨A', c', rfl, hl', hc', hb⟩

end Go.Proofs.Ythhefcdbakcdfaa.PNeedTells
