import Derived.Test.YtgnbemgeiloegaaMLyA
import Derived.Test.YtgnbemgeiloegaaMEW
import Derived.Test.YtgnbemgeiloegaaMEPTypesGoodsx3
import Derived.Test.YtgnbemgeiloegaaMETgOpn
namespace Go.Proofs.Ytgnbemgeiloegaa.Ly
open Go.RowKit Go.Proofs.Ytgnbemgeiloegaa.Tg
open Go.Proofs.YtgnbemgeiloegaaW.PrintWords Go.Proofs.YtgnbemgeiloegaaW.PrintLast Go.Proofs.YtgnbemgeiloegaaW.PrintMore
set_option linter.unusedVariables false
set_option linter.unusedSimpArgs false
open Go.Proofs.Ytgnbemgeiloegaa.PTypesGoods (S40 S42 S47 k40 k42 k47 rd_T40 rd_T42 rd_T47 at_T40 at_T42 at_T47 tables_up.f tables_cut.f tables_up.calls tables_cut.calls)
structure SZ (S : Int → Int) (m : Nat) (v : Value) (q : Nat) (w : World) : Prop where
 row : ∃ ms : List Int, w.heap[q]? = some (.cells (v :: ms.map (Value.int .i64)).toArray 64 (0, 0)) ∧ ms.length = 256 ∧ ∀ i : Nat, i < m → ms[i]? = some 0 ∨ ms[i]? = some (S i + 1)
theorem SZ.lt {S : Int → Int} {m : Nat} {v : Value} {q : Nat} {w : World} (h : SZ S m v q w) : q < w.heap.size := by
 obtain ⟨ms, h1, _⟩ := h.row
 exact blk_lt h1
theorem SZ.kept {S : Int → Int} {m : Nat} {v : Value} {q : Nat} {w w2 : World} (h : SZ S m v q w) (e : w2.heap[q]? = w.heap[q]?) : SZ S m v q w2 := by
 obtain ⟨ms, h1, h2⟩ := h.row
 exact ⟨ms, e.trans h1, h2⟩
theorem SZ.head {S : Int → Int} {m : Nat} {v : Value} {q : Nat} {w : World} (h : SZ S m v q w) : w.cell? ⟨q, 0, none⟩ = some v := by
 obtain ⟨ms, h1, _⟩ := h.row
 rw [cell_of_row w _ _ _ _ _ h1]
 simp
theorem SZ.at {S : Int → Int} {m : Nat} {v : Value} {q : Nat} {w : World} (h : SZ S m v q w) {i : Nat} (hi : i < m) : w.cell? ⟨q, 1 + i, none⟩ = some (.int .i64 0) ∨ w.cell? ⟨q, 1 + i, none⟩ = some (.int .i64 (S i + 1)) := by
 obtain ⟨ms, h1, h2, h3⟩ := h.row
 rw [cell_of_row w _ _ _ _ _ h1, Nat.add_comm 1 i]
 rcases h3 i hi with h4 | h4
 · left; simp [h4]
 · right; simp [h4]
theorem SZ.free {S : Int → Int} {m : Nat} {v : Value} {q : Nat} {w : World} (h : SZ S m v q w) (i : Nat) : w.frozen? ⟨q, i, none⟩ = false := by
 obtain ⟨ms, h1, _⟩ := h.row
 exact blk_frozen h1 i
theorem SZ.put {S : Int → Int} {m : Nat} {v : Value} {q : Nat} {w : World} (h : SZ S m v q w) {i : Nat} (hi : i < m) : SZ S m v q (w.setCell ⟨q, 1 + i, none⟩ (.int .i64 (S i + 1))) := by
 obtain ⟨ms, h1, h2, h3⟩ := h.row
 refine ⟨ms.set i (S i + 1), ?_, by simp [h2], fun j hj => ?_⟩
 ·
  rw [blk_set h1]
  congr 2
  rw [List.setIfInBounds_toArray, Nat.add_comm 1 i, List.set_cons_succ, List.map_set]
 ·
  rcases Nat.decEq i j with e | e
  · rw [List.getElem?_set_ne e]; exact h3 j hj
  ·
   subst e
   right
   rw [List.getElem?_set_self (by
    have : ms[i]? ≠ none := by rcases h3 i hi with e | e <;> rw [e] <;> simp
    exact (List.getElem?_eq_some_iff.1 (Option.ne_none_iff_exists'.1 this).choose_spec).1)]
structure WS (t : List S40) (S : Int → Int) (w0 : World) (v : Value) (q : Nat) (w : World) : Prop where
 z : SZ S t.length v q w
 below : Below w0.heap.size w0 w
theorem WS.on {t : List S40} {S : Int → Int} {w0 w w2 : World} {v : Value} {q : Nat} (h : WS t S w0 v q w) (hb : Below w.heap.size w w2) : WS t S w0 v q w2 := ⟨h.z.kept (hb.block _ h.z.lt), h.below.trans (hb.mono h.below.size)⟩
theorem WS.put {t : List S40} {S : Int → Int} {w0 w : World} {v : Value} {q : Nat} (h : WS t S w0 v q w) (hq : w0.heap.size ≤ q) {a : Int} (ha : InT t a) : WS t S w0 v q (w.setCell ⟨q, 1 + a.toNat, none⟩ (.int .i64 (S a + 1))) := by
 have ha0 := ha.1
 have ha1 := ha.2
 have e : ((a.toNat : Nat) : Int) = a := by omega
 have h2 := h.z.put (i := a.toNat) (by omega)
 rw [e] at h2
 exact ⟨h2, h.below.setCell (by exact hq) _⟩
structure Env (t : List S40) (S : Int → Int) (w0 : World) (A : Option Addr) (c q : Nat) : Prop where
 g : GoodR t
 s : Sizes t S
 C : Kd.C k40 w0 A t.length t
 hc : t.length ≤ c
 hq : w0.heap.size ≤ q
def At34 (t : List S40) (S : Int → Int) (w0 : World) (A : Option Addr) (c q d : Nat) : Prop :=
 ∀ (a : Int) (w : World), InT t a → Deep (insP t) d a → WS t S w0 (.slice A t.length c) q w →
  Calls Try.prog 34 #[.pointer (some ⟨q, 0, none⟩), .int .i64 a] w fun e w' => e = .returned (.int .i64 (S a)) ∧ WS t S w0 (.slice A t.length c) q w' ∧ KeepBut w w' q none
def At52 (t : List S40) (S : Int → Int) (w0 : World) (A : Option Addr) (c q d : Nat) : Prop :=
 ∀ (a : Int) (w : World), InT t a → Deep (insP t) d a → WS t S w0 (.slice A t.length c) q w →
  Calls Try.prog 52 #[.pointer (some ⟨q, 0, none⟩), .int .i64 a] w fun e w' => e = .returned (.int .i64 (S a)) ∧ WS t S w0 (.slice A t.length c) q w' ∧ KeepBut w w' q none
set_option maxHeartbeats 16000000 in
set_option maxRecDepth 100000 in
theorem size34 {t : List S40} {S : Int → Int} {w0 : World} {A : Option Addr} {c q d : Nat} (E : Env t S w0 A c q) (h52 : At52 t S w0 A c q d) : At34 t S w0 A c q d := by
 intro a w ha hd hw
 have HS := Aside0.mk h52
 have HE := Aside0.mk E
 have HI := Aside0.mk ha
 have HD := Aside0.mk hd
 have HW := Aside0.mk hw
 have h256 := E.g.hi
 have hs0 := E.s.lo a ha
 have hs1 := E.s.hi a ha
 obtain ⟨ha0, ha1⟩ := ha
 have ha2 : a < 256 := by omega
 have hlt : a.toNat < t.length := by omega
 have e0 : ((a.toNat : Nat) : Int) = a := by omega
 have hat := hw.z.at hlt
 rw [e0] at hat
 clear h52 E hd hw h256 e0
 rcases hat with hat | hat
 ·
  have hb0 : ((0 : Int) == 0) = true := rfl
  have hwp : wrap64 (S a + 1) = S a + 1 := wr_64 (by omega)
  have hwk : IntKind.i64.wrap (S a + 1) = S a + 1 := Go.IntWalk.i64_in _ (by omega)
  have hwm : wrap64 (S a + 1 - 1) = S a := by rw [wr_64 (by omega)]; omega
  go_enter Try.func34, Try.ntmps34
  go_upto_region 2 with fail
  clear hat
  refine start_ (n := 10) (S := (fun _ : World => True)) (ds := [9]) #[false, false, false, false, false, false, false, false, false, false] (by kernel_rfl) rfl rfl (trivial) (fun hHeld => ?_)
  refine pure_ (i := 0) (N := some 12) (v := ?_) (a' := ?_) #[true, false, false, false, false, false, false, false, false, false] rfl rfl (by kernel_rfl) (fun _ _ _ h => h) (Or.inl ⟨by rfl, ?_⟩) ?_ ?_
  rotate_left
  · intro w'; go_simp; try with_reducible rfl
  rotate_left
  · simp only [Act.put, List.setIfInBounds_toArray, List.set_cons_zero, List.set_cons_succ]; rfl
  refine pure_ (i := 1) (N := some 13) (v := ?_) (a' := ?_) #[true, true, false, false, false, false, false, false, false, false] rfl rfl (by kernel_rfl) (fun _ _ _ h => h) (Or.inl ⟨by rfl, ?_⟩) ?_ ?_
  rotate_left
  · intro w'; go_simp; try with_reducible rfl
  rotate_left
  · simp only [Act.put, List.setIfInBounds_toArray, List.set_cons_zero, List.set_cons_succ]; rfl
  refine pure_ (i := 2) (N := some 14) (v := ?_) (a' := ?_) #[true, true, true, false, false, false, false, false, false, false] rfl rfl (by kernel_rfl) (fun _ _ _ h => h) (Or.inl ⟨by rfl, ?_⟩) ?_ ?_
  rotate_left
  · intro w'; go_simp; try with_reducible rfl
  rotate_left
  · simp only [Act.put, List.setIfInBounds_toArray, List.set_cons_zero, List.set_cons_succ]; rfl
  refine pure_ (i := 3) (N := some 15) (v := ?_) (a' := ?_) #[true, true, true, true, false, false, false, false, false, false] rfl rfl (by kernel_rfl) (fun _ _ _ h => h) (Or.inl ⟨by rfl, ?_⟩) ?_ ?_
  rotate_left
  · intro w'; go_simp; try with_reducible rfl
  rotate_left
  · simp only [Act.put, List.setIfInBounds_toArray, List.set_cons_zero, List.set_cons_succ]; rfl
  refine pure_ (i := 6) (N := some 18) (v := ?_) (a' := ?_) #[true, true, true, true, false, false, true, false, false, false] rfl rfl (by kernel_rfl) (fun _ _ _ h => h) (Or.inl ⟨by rfl, ?_⟩) ?_ ?_
  rotate_left
  · intro w'; go_simp; try with_reducible rfl
  rotate_left
  · simp only [Act.put, List.setIfInBounds_toArray, List.set_cons_zero, List.set_cons_succ]; rfl
  refine pure_ (i := 7) (N := some 19) (v := ?_) (a' := ?_) #[true, true, true, true, false, false, true, true, false, false] rfl rfl (by kernel_rfl) (fun _ _ _ h => h) (Or.inl ⟨by rfl, ?_⟩) ?_ ?_
  rotate_left
  · intro w'; go_simp; try with_reducible rfl
  rotate_left
  · simp only [Act.put, List.setIfInBounds_toArray, List.set_cons_zero, List.set_cons_succ]; rfl
  refine one_ (i := 4) (N := some 16) #[true, true, true, true, true, false, true, true, false, false] rfl rfl (by kernel_rfl) (by decide) (fun K hK => ?_)
  refine goes_ Try.func52 (by kernel_rfl) rfl #[.pointer (some ⟨q, 0, none⟩), .int .i64 a] (by rfl) rfl rfl (by (try simp only [List.map_toArray, List.map_cons, List.map_nil]); first | done | rfl) ?_
  refine (HS.out a _ HI.out HD.out (by first | exact HW.out | exact HW.out.on (below_drew (Below.refl _ _)))).mono ?_
  rintro e w1 ⟨rfl, hW1, hK1⟩
  refine ⟨_, rfl, ?_⟩
  refine hK.out _ _ (trivial) (fun hHeld => ?_)
  clear hK K
  refine norm_ (a' := ?_) ?_ ?_
  rotate_left
  · show Act.put _ (some 16) _ = _; simp only [Act.put, List.setIfInBounds_toArray, List.set_cons_zero, List.set_cons_succ]; rfl
  refine pure_ (i := 5) (N := some 17) (v := ?_) (a' := ?_) #[true, true, true, true, true, true, true, true, false, false] rfl rfl (by kernel_rfl) (fun _ _ _ h => h) (Or.inl ⟨by rfl, ?_⟩) ?_ ?_
  rotate_left
  · intro w'; go_simp; try with_reducible rfl
  rotate_left
  · simp only [Act.put, List.setIfInBounds_toArray, List.set_cons_zero, List.set_cons_succ]; rfl
  refine pure_ (i := 8) (N := some 20) (v := ?_) (a' := ?_) #[true, true, true, true, true, true, true, true, true, false] rfl rfl (by kernel_rfl) (fun _ _ _ h => h) (Or.inl ⟨by rfl, ?_⟩) ?_ ?_
  rotate_left
  · intro w'; go_simp; try with_reducible rfl
  rotate_left
  · simp only [Act.put, List.setIfInBounds_toArray, List.set_cons_zero, List.set_cons_succ]; rfl
  obtain ⟨cv, hcv⟩ : ∃ cv, w1.cell? ⟨q, 1 + a.toNat, none⟩ = some cv := by rcases hW1.z.at hlt with h | h <;> exact ⟨_, h⟩
  have hfz := hW1.z.free (1 + a.toNat)
  have hcell : ∃ cv, w1.cell? ⟨q, 1 + a.toNat, none⟩ = some cv := ⟨cv, hcv⟩
  refine last_ (i := 9) (N := none) #[true, true, true, true, true, true, true, true, true, true] rfl rfl (by kernel_rfl) (by decide) (fun K hK => ?_)
  rw [if_pos (by rfl)]
  go_simp
  refine hK.out _ _ ?_
  clear hK K
  refine done_ (by kernel_rfl) ?_
  have HW2 := Aside0.mk (hW1.put HE.out.hq HI.out)
  have HK2 : Aside0 (KeepBut w (w1.setCell ⟨q, 1 + a.toNat, none⟩ (.int .i64 (S a + 1))) q none) := ⟨KeepBut.set_ (by first | exact hK1 | exact (KeepBut.of_below (below_drew (Below.refl _ _)) q none).trans hK1 (.inl rfl)) _ _⟩
  have hat2 : (w1.setCell ⟨q, 1 + a.toNat, none⟩ (.int .i64 (S a + 1))).cell? ⟨q, 1 + a.toNat, none⟩ = some (.int .i64 (S a + 1)) := by rcases hcell with ⟨_, hc⟩; exact (World.cell?_setCell_same' _ _ _ (by rw [hc]; rfl))
  clear hW1 hK1 hcell hfz
  generalize (w1.setCell ⟨q, 1 + a.toNat, none⟩ (.int .i64 (S a + 1))) = w2 at HW2 HK2 hat2 ⊢
  go_wp2
  go_ret
  exact ⟨rfl, HW2.out, HK2.out⟩
 ·
  have hne : (S a + 1 == 0) = false := by simp; omega
  have hw1 : wrap64 (S a + 1 - 1) = S a := by rw [wr_64 (by omega)]; omega
  go_enter Try.func34, Try.ntmps34
  go_wp2
  go_ret
  exact ⟨rfl, by first | exact HW.out | exact HW.out.on (pw_below_drewN (Below.refl _ _) _), KeepBut.refl _ _ _⟩
end Go.Proofs.Ytgnbemgeiloegaa.Ly
