import Derived.Test.YtgnbemgeiloegaaKTgWk
/- Which lists are tables of types: the program and the reference say the same of every list that is not too large. -/
namespace Go.Proofs.Ytgnbemgeiloegaa.Tg
open Go.RowKit
open Go.Proofs.YtgnbemgeiloegaaW.PrintWords Go.Proofs.YtgnbemgeiloegaaW.PrintLast Go.Proofs.YtgnbemgeiloegaaW.PrintMore
set_option linter.unusedVariables false
set_option linter.unusedSimpArgs false
open Go.Proofs.Ytgnbemgeiloegaa.PTypesGoods
theorem lim_sized {t : List S40} (h : Lim t) : Sized t := fun x hx => ⟨Nat.le_trans (h.f1 x hx) (by decide), Nat.le_trans (h.f2 x hx) (by decide), fun f hf => Nat.le_trans (h.n6 x hx f hf) (by decide)⟩
theorem copy_is {t : List S40} (hp : Parms t) (h : t.length ≤ 4000) : spinetref13_Copy.f t = some t := by
  unfold spinetref13_Copy.f
  rw [if_pos ⟨hp, h⟩]
theorem tables_run {t : List S40} (hp : Parms t) (h : t.length ≤ 4000) : ∀ (n i : Nat), i + n = t.length → Ev (fun k => spinetref13_Tables.l0 k t t (i : Int)) true
  | 0, i, hi => Ev.one fun k => by rw [spinetref13_Tables.l0, if_neg (by omega)]
  | n + 1, i, hi => by
    have h1 : (i : Int) < (t.length : Int) := by omega
    have h0 : 0 ≤ (i : Int) := by omega
    have hw : wrap64 ((i : Int) + 1) = ((i + 1 : Nat) : Int) := wrap_succ (by omega)
    have hm := rd_mem40 h0 h1
    have ha := alike_is (rd_T40 t (i : Int)) (rd_T40 t (i : Int)) (hp _ hm).1 (hp _ hm).2
    rw [@decide_eq_true _ (Classical.propDecidable _) rfl] at ha
    refine Ev.step (f := fun k => (spinetref13_Alike.f k ((rd_T40 t (i : Int)).f0) ((rd_T40 t (i : Int)).f1) ((rd_T40 t (i : Int)).f2) ((rd_T40 t (i : Int)).f3) ((rd_T40 t (i : Int)).f4) ((rd_T40 t (i : Int)).f5) ((rd_T40 t (i : Int)).f6) ((rd_T40 t (i : Int)).f7) ((rd_T40 t (i : Int)).f8) ((rd_T40 t (i : Int)).f9) ((rd_T40 t (i : Int)).f0) ((rd_T40 t (i : Int)).f1) ((rd_T40 t (i : Int)).f2) ((rd_T40 t (i : Int)).f3) ((rd_T40 t (i : Int)).f4) ((rd_T40 t (i : Int)).f5) ((rd_T40 t (i : Int)).f6) ((rd_T40 t (i : Int)).f7) ((rd_T40 t (i : Int)).f8) ((rd_T40 t (i : Int)).f9)).bind fun t136 => (if t136 = true then (spinetref13_Tables.l0 k t t ((i + 1 : Nat) : Int)) else (some false))) (fun k => ?_) ?_
    · rw [spinetref13_Tables.l0, if_pos h1, if_pos h0, if_pos h1, hw]
    · exact Ev.bind (f := fun k t136 => if t136 = true then (spinetref13_Tables.l0 k t t ((i + 1 : Nat) : Int)) else (some false)) (a := true) ha (tables_run hp h n (i + 1) (by omega))
theorem tables_is {t : List S40} (hp : Parms t) (h : t.length ≤ 4000) : Ev (fun k => spinetref13_Tables.f k t t) true := by
  refine Ev.congr (f := fun k => spinetref13_Tables.l0 k t t 0) (fun k => ?_) (tables_run hp h t.length 0 (by omega))
  rw [spinetref13_Tables.f, if_pos rfl]
theorem basics_parms : Parms basics := fun x hx => wak_fine.parms x (List.mem_append_left _ hx)
theorem refBasic_is : Ev (fun k => spinetref13_Basic.f k) basics := Ev.of (fun k => spinetref13_Basic.mono k) basic_is
theorem goods_is {t : List S40} (hL : Lim t) : Ev (fun k => spinetlaw13_TypesGoods.f k t) true := by
  obtain ⟨r, hr, hp⟩ := large_is hL
  unfold spinetlaw13_TypesGoods.f
  refine Ev.bind hr ?_
  cases r with
  | true => exact Ev.bind wakes_is (Ev.eq rfl)
  | false =>
    obtain ⟨h3, hp⟩ := hp rfl
    have hF : Fine t := ⟨lim_sized hL, hp⟩
    simp only [Bool.false_eq_true, if_false]
    refine Ev.bind (Ev.eq (copy_is hp (by omega))) ?_
    refine Ev.bind (Ev.eq (fine_good hF)) ?_
    refine Ev.bind (Ev.eq (fine_ref hF)) ?_
    simp only [beq_self_eq_true, eq_self, if_true]
    refine Ev.bind (tables_is hp (by omega)) ?_
    simp only [eq_self, if_true]
    refine Ev.bind basicP_is ?_
    refine Ev.bind refBasic_is ?_
    refine Ev.bind (tables_is basics_parms (by decide)) ?_
    simp only [eq_self, if_true]
    exact Ev.bind wakes_is (Ev.eq rfl)
theorem goods_calls {w : World} {A : Option Addr} {c : Nat} {t : List S40} (hC : Kd.C k40 w A t.length t) (hc : t.length ≤ c) (hL : Lim t) :
    Calls Try.prog 8 #[.slice A t.length c] w fun e w' => e = .returned (.bool true) ∧ Below w.heap.size w w' := by
  obtain ⟨k, hk⟩ := (goods_is hL).rounds
  exact spinetlaw13_TypesGoods.calls k A c t true w hC hc hk
end Go.Proofs.Ytgnbemgeiloegaa.Tg
