import Derived.Test.YtgnbemgeiloegaaMTgX
import Derived.Deep.AppendSrc
namespace Go.Proofs.Ytgnbemgeiloegaa.Tg
open Go.RowKit Go.Maps Go.WideMaps
open Go.Proofs.YtgnbemgeiloegaaW.PrintWords Go.Proofs.YtgnbemgeiloegaaW.PrintLast Go.Proofs.YtgnbemgeiloegaaW.PrintMore
set_option linter.unusedVariables false
set_option linter.unusedSimpArgs false
open Go.Proofs.Ytgnbemgeiloegaa.PTypesGoods (S40 S42 S47 k40 k42 k47 rd_T40 rd_T42 rd_T47 at_T40 at_T42 at_T47 k40_mkM)
def Flat {α : Type} (d : Kd α) : Prop := ∀ (W W' : World) (base : Nat) (ok : Nat → Prop) (x : α) (cs : List Value), d.K W x cs → d.M W' base ok x cs
theorem flat42 : Flat k42 := fun W W' base ok x cs h => by
 obtain rfl := PTypesGoods.k42_open h
 exact PTypesGoods.k42_mkM W' base ok x
theorem flat47 : Flat k47 := fun W W' base ok x cs h => by
 obtain rfl := PTypesGoods.k47_open h
 exact PTypesGoods.k47_mkM W' base ok x
theorem heap_alloc_new2 (w : World) (o o' : Obj) : ((w.alloc o).alloc o').heap[w.heap.size + 1]? = some o' := by
 have := heap_alloc_new (w.alloc o) o'
 rwa [World.size_alloc] at this
theorem copyRun {α : Type} (d : Kd α) {W : World} (t e : TypeId) (z : Value) (bytes : Nat) (ty : TypeId) (ht : Try.prog.underlying t = some (.slice e))
 (hinfo : (Try.prog.info? e).map (fun i => (i.zero, i.size, i.bytes)) = some (some z, d.sz, bytes)) (hz : z.cells.size = d.sz) (hs0 : 0 < d.sz) (hby : bytes ≤ 1000)
 {g : Nat} {A : Option Addr} {n c : Nat} {xs : List α} (hg : W.heap[g]? = some (.cells #[] e (0, 0))) (base : Nat) (hb : base ≤ g) (hC : d.C W A n xs) (hn : n ≤ 4000) (hf : Flat d) :
 ∃ v w1, (Builtin.append_ #[t, t] ty #[.slice (some ⟨g, 0, none⟩) 0 0, .slice A n c]).run Try.prog W = .ok v w1 ∧ d.R e w1 base (fun _ => True) v xs ∧ Below W.heap.size W w1 := by
 obtain ⟨i0, hi, hzz⟩ := Option.map_eq_some_iff.1 hinfo
 simp only [Prod.mk.injEq] at hzz
 obtain ⟨hz0, hz1, hz2⟩ := hzz
 have hxl := Kd.C_len hC
 have hgl := blk_lt hg
 have hown : W.ownsRow base e d.sz (.slice (some ⟨g, 0, none⟩) 0 0) 0 [] := ⟨by simp, .inr ⟨g, 0, #[], rfl, hb, hg, Nat.le_refl _, by simp [maxLen], by simp, by simp⟩⟩
 by_cases h0 : n = 0
 ·
  subst h0
  have hx0 : xs = [] := List.eq_nil_of_length_eq_zero hxl
  subst hx0
  have hsrc : Src Try.prog i0.size t (.slice A 0 c) 0 [] W := by
   cases A with
   | none => exact Src.ofNil (w := W) ht c
   | some a => exact Src.ofSlice (w := W) ht a 0 c [] (by simp) (fun j u h => by simp at h) (fun u h => by cases h)
  have hr := run_append_room_src W t t ty e i0 ht hi g 0 0 0 (.slice A 0 c) 0 [] hsrc (Nat.le_refl _) (fun j h => by simp at h) (fun j h => by simp at h)
  exact ⟨_, _, hr, ⟨fun k hk => trivial, [], hown, Reps.none _ _⟩, Below.refl _ _⟩
 ·
  obtain ⟨ad, rfl⟩ : ∃ ad, A = some ad := by
   obtain ⟨ad, h, _⟩ := hC.2.2 (by omega)
   exact ⟨ad, h⟩
  obtain ⟨inner, hreps, hcell⟩ := ReadsRow.inner_ hC
  have hil : inner.length = n * d.sz := by rw [hreps.1, hxl]
  have hone : ∀ u ∈ inner, u.oneCell' = true := by
   intro u hu
   obtain ⟨j, hj, rfl⟩ := List.mem_iff_getElem.1 hu
   have hq : j / d.sz < xs.length := by rw [hreps.1] at hj; exact Nat.div_lt_of_lt_mul (by rw [Nat.mul_comm]; exact hj)
   have hr := hreps.2 (j / d.sz) _ (List.getElem?_eq_getElem hq)
   refine d.K_one hr _ ?_
   have e1 : j = j / d.sz * d.sz + j % d.sz := by rw [Nat.mul_comm]; exact (Nat.div_add_mod j d.sz).symm
   have e2 : ((inner.drop (j / d.sz * d.sz)).take d.sz)[j % d.sz]? = some inner[j] := by
    rw [List.getElem?_take_of_lt (Nat.mod_lt _ hs0), List.getElem?_drop, ← e1, List.getElem?_eq_getElem hj]
   exact List.mem_of_getElem? e2
  have hle : n * bytes ≤ 4000 * 1000 := Nat.mul_le_mul hn hby
  obtain ⟨v, w1, hr1, ho, -, -, -⟩ := run_append_own_at (P := Try.prog) W base t ty e i0 z d.sz bytes ht hi hz0 hz1 hz2 hz hs0 _ 0 [] hown ad n c inner hil hcell hone (by simp only [maxLen]; omega) (by rw [Nat.zero_add]; exact Nat.le_trans hle (by decide)) (Nat.le_of_lt (Nat.lt_of_le_of_lt hb hgl))
  have hsrc : Src Try.prog i0.size t (.slice (some ad) n c) n inner W := Src.ofSlice (w := W) ht ad n c inner (by rw [hz1]; exact hil) hcell hone
  have hr2 := run_append_grow_src W t t ty e i0 z ht hi hz0 (some ⟨g, 0, none⟩) 0 0 [] (run_firstCells_some W.drew i0.size 0 ⟨g, 0, none⟩ 0 0 [] (by simp) (fun j u h => by simp at h)) (.slice (some ad) n c) n inner hsrc (by omega) (by omega) (by
   rw [hz2]
   have hc : Builtin.nextslicecap (0 + n) 0 ≤ 4000 := by unfold Builtin.nextslicecap; rw [if_pos (by omega)]; omega
   exact Nat.le_trans (Nat.mul_le_mul hc hby) (by decide))
  rw [hr1] at hr2
  injection hr2 with q1 q2
  refine ⟨v, w1, hr1, ⟨fun k hk => trivial, inner, ?_, ?_⟩, ?_⟩
  ·
   rw [Nat.zero_add, List.nil_append] at ho
   rw [hxl]
   exact ho
  · exact hreps.imp_ fun p cs h => hf _ _ _ _ _ _ h
  ·
   rw [q2]
   exact below_alloc (below_drew (Below.refl _ _)) _
section
variable {ops : Array Oper} {o : Oper} {a : Act} {Q : Exit → Act → World → Prop} {K : Act → World → Prop}
theorem copyStep {α : Type} (d : Kd α) {W : World} (hw : Region.wanted o (yielded ops a.tmps) = true) {N : Option Tmp} (hN : o.dst = N) (s x : Operand) (t e : TypeId) (z : Value) (bytes : Nat)
 (ho : o.op = .call { callee := .builtin .append, args := #[s, x], argTypes := #[t, t] }) (ht : Try.prog.underlying t = some (.slice e))
 (hinfo : (Try.prog.info? e).map (fun i => (i.zero, i.size, i.bytes)) = some (some z, d.sz, bytes)) (hz : z.cells.size = d.sz) (hs0 : 0 < d.sz) (hby : bytes ≤ 1000)
 {g : Nat} {A : Option Addr} {n c : Nat} {xs : List α} (hs : a.eval s = .slice (some ⟨g, 0, none⟩) 0 0) (hx : a.eval x = .slice A n c) (hg : W.heap[g]? = some (.cells #[] e (0, 0))) (base : Nat) (hb : base ≤ g) (hC : d.C W A n xs) (hn : n ≤ 4000) (hf : Flat d)
 (h : ∀ v w1, d.R e w1 base (fun _ => True) v xs → Below W.heap.size W w1 → K (a.put N v) w1) :
 if Region.wanted o (yielded ops a.tmps) = true then Oper.wp Try.prog o a W K Q else K (a.put N undef) W := by
 subst hN
 rw [if_pos hw]
 obtain ⟨v, w1, hr, h1, h2⟩ := copyRun d t e z bytes o.type ht hinfo hz hs0 hby (c := c) hg base hb hC hn hf
 unfold Oper.wp execOp
 simp only [ho, resolve, invoke, builtin, Sem.run_bind, Sem.run_pure, Result.andThen_ok, List.map_toArray, List.map_cons, List.map_nil, hs, hx, hr]
 exact h v w1 h1 h2
end
def boxOf (x : S40) (v6 v7 : Value) : Array Value := #[.int .i64 x.f0, .string x.f1, .string x.f2, .int .i64 x.f3, .int .i64 x.f4, .int .i64 x.f5, v6, v7, .int .i64 x.f8, .int .i64 x.f9]
def HeldB (b : Nat) (s6 s7 : Value) (w' : World) : Prop := w'.cell? ⟨b, 6, none⟩ = some s6 ∧ w'.cell? ⟨b, 7, none⟩ = some s7
structure CB (b : Nat) (x : S40) (s6 s7 : Value) (w3 w4 : World) : Prop where
 box : w4.heap[b]? = some (.cells (boxOf x s6 s7) 40 (0, 0))
 below : Below w3.heap.size w3 w4
theorem CB.on {b : Nat} {x : S40} {s6 s7 : Value} {w3 w4 w5 : World} (h : CB b x s6 s7 w3 w4) (hb : Below w4.heap.size w4 w5) : CB b x s6 s7 w3 w5 := ⟨(hb.block b (blk_lt h.box)).trans h.box, h.below.trans (hb.mono h.below.size)⟩
theorem CB.al {b : Nat} {x : S40} {s6 s7 : Value} {w3 w4 : World} (h : CB b x s6 s7 w3 w4) (o : Obj) : CB b x s6 s7 w3 (w4.alloc o) := h.on (below_alloc (Below.refl _ _) o)
theorem CB.cell {b : Nat} {x : S40} {s6 s7 : Value} {w3 w4 : World} (h : CB b x s6 s7 w3 w4) (k : Nat) (v : Value) (hk : (boxOf x s6 s7)[k]? = some v) : w4.cell? ⟨b, k, none⟩ = some v := by rw [cell_of_row w4 _ _ _ _ _ h.box]; exact hk
theorem CB.held {b : Nat} {x : S40} {s6 s7 : Value} {w3 w4 : World} (h : CB b x s6 s7 w3 w4) : HeldB b s6 s7 w4 := ⟨h.cell 6 _ rfl, h.cell 7 _ rfl⟩
structure CE (b : Nat) (x : S40) (A6 : Option Addr) (c6 : Nat) (A7 : Option Addr) (c7 : Nat) (w3 w4 : World) (v6 v7 : Value) : Prop where
 cb : CB b x (.slice A6 x.f6.length c6) (.slice A7 x.f7.length c7) w3 w4
 r6 : k42.R 42 w4 w3.heap.size (fun _ => True) v6 x.f6
 r7 : k47.R 47 w4 w3.heap.size (fun _ => True) v7 x.f7
theorem box_setK {W : World} {b k : Nat} {cells : Array Value} {ty : TypeId} (v : Value) (h : W.heap[b]? = some (.cells cells ty (0, 0))) : (W.setCell ⟨b, k, none⟩ v).heap[b]? = some (.cells (cells.setIfInBounds k v) ty (0, 0)) := by
 obtain ⟨hlt, hk⟩ := Array.getElem?_eq_some_iff.1 h
 show (W.heap.modify b _)[b]? = _
 rw [Array.getElem?_eq_getElem (by rw [Array.size_modify]; exact hlt), Array.getElem_modify_self, hk]
 rfl
theorem frozen_box {W : World} {b k : Nat} {cells : Array Value} {ty : TypeId} (h : W.heap[b]? = some (.cells cells ty (0, 0))) : W.frozen? ⟨b, k, none⟩ = false := by
 unfold World.frozen?
 simp only [h]
 simp
structure CD (wo : World) (x : S40) (v6 v7 : Value) (wE : World) : Prop where
 box : wE.heap[wo.heap.size]? = some (.cells (boxOf x v6 v7) 40 (0, 0))
 below : Below wo.heap.size wo wE
 r6 : k42.R 42 wE wo.heap.size (fun k => wo.heap.size ≤ k) v6 x.f6
 r7 : k47.R 47 wE wo.heap.size (fun k => wo.heap.size ≤ k) v7 x.f7
theorem CD.cell {wo : World} {x : S40} {v6 v7 : Value} {wE : World} (h : CD wo x v6 v7 wE) (k : Nat) (v : Value) (hk : (boxOf x v6 v7)[k]? = some v) : wE.cell? ⟨wo.heap.size, k, none⟩ = some v := by rw [cell_of_row wE _ _ _ _ _ h.box]; exact hk
theorem CD.make {wo w3 w4 : World} {x : S40} {s6 s7 v6 v7 : Value} (h : CB wo.heap.size x s6 s7 w3 w4) (hw : Below wo.heap.size wo w3) (hr6 : k42.R 42 w4 w3.heap.size (fun _ => True) v6 x.f6) (hr7 : k47.R 47 w4 w3.heap.size (fun _ => True) v7 x.f7) :
 CD wo x v6 v7 ((w4.setCell ⟨wo.heap.size, 6, none⟩ v6).setCell ⟨wo.heap.size, 7, none⟩ v7) := by
 have e6 := box_setK (k := 6) v6 h.box
 have hs := hw.size
 refine ⟨box_setK (k := 7) v7 e6, ((hw.trans (h.below.mono hs)).setCell (Nat.le_refl _) _).setCell (Nat.le_refl _) _, ?_, ?_⟩
 · exact Kd.R_set (Kd.R_set (Kd.R_mono (Kd.R_bound (Kd.R_lower hr6 hs)) (fun k hk => hk.2.1)) h.box (by decide) 6 v6) e6 (by decide) 7 v7
 · exact Kd.R_set (Kd.R_set (Kd.R_mono (Kd.R_bound (Kd.R_lower hr7 hs)) (fun k hk => hk.2.1)) h.box (by decide) 6 v6) e6 (by decide) 7 v7
set_option maxHeartbeats 16000000 in
set_option maxRecDepth 100000 in
theorem copy_calls {w : World} {A : Option Addr} {c : Nat} {t : List S40} (hC : Kd.C k40 w A t.length t) (hc : t.length ≤ c) (hpm : Parms t) (hl : t.length ≤ 4000) :
 Calls Try.prog 14 #[.slice A t.length c] w fun e w' => ∃ v, e = .returned v ∧ Kd.S k40 40 w' w.heap.size (fun _ => True) v t ∧ Below w.heap.size w w' := by
 have hCx := Aside0.mk hC
 clear hC
 go_enter Try.func14, Try.ntmps14
 go_wp2
 go_loopw [3, 4] (fun out i wr => ∃ (i0 : Nat), i0 ≤ t.length ∧ i = .int .i64 i0 ∧ Aside0 (Kd.S k40 40 wr w.heap.size (fun _ => True) out (t.take i0)) ∧ Aside0 (Below w.heap.size w wr)) (fun _ i _ => t.length - (intOf i).toNat)
 case atStart => exact ⟨0, Nat.zero_le _, rfl, ⟨by simpa using Kd.S_nil k40 40 w w.heap.size (fun _ => True)⟩, ⟨Below.refl _ _⟩⟩
 case round =>
  obtain ⟨wo, rfl⟩ : ∃ wo : World, wo = wr := ⟨_, rfl⟩
  obtain ⟨i0, hi0, rfl, HO, HB⟩ := hrel
  by_cases hlt : i0 < t.length
  ·
   have hx : decide ((i0 : Int) < (t.length : Int)) = true := decide_eq_true (by omega)
   have hin := size_in hlt
   obtain ⟨ad, A6, c6, A7, c7, hA, p0, p1, p2, p3, p4, p5, p6, p7, p8, p9, l6, C6, l7, C7⟩ := at_T40 (Kd.C_below hCx.out HB.out) (i0 : Int) (by omega) (by omega)
   subst hA
   have hk00 : ((i0 : Nat) : Int).toNat = i0 := by omega
   rw [hk00] at p0 p1 p2 p3 p4 p5 p6 p7 p8 p9
   obtain ⟨hl7, hl6⟩ := hpm _ (rd_in (t := t) (a := (i0 : Int)) (by omega) (by omega))
   have hget : rd_T40 t (i0 : Int) = t[i0] := by unfold rd_T40; simp [List.getD_eq_getElem?_getD, List.getElem?_eq_getElem hlt]
   have htk : Aside0 (t.take (i0 + 1) = t.take i0 ++ [rd_T40 t (i0 : Int)]) := ⟨by rw [hget, List.take_add_one, List.getElem?_eq_getElem hlt]; rfl⟩
   clear hk00 hget
   generalize rd_T40 t (i0 : Int) = x at p0 p1 p2 p3 p4 p5 p6 p7 p8 p9 l6 C6 l7 C7 hl7 hl6 htk
   have hcb : CB wo.heap.size x (.slice A6 x.f6.length c6) (.slice A7 x.f7.length c7) (wo.alloc (.cells (boxOf x (.slice A6 x.f6.length c6) (.slice A7 x.f7.length c7)) 40)).drew (wo.alloc (.cells (boxOf x (.slice A6 x.f6.length c6) (.slice A7 x.f7.length c7)) 40)).drew := ⟨heap_alloc_new wo _, Below.refl _ _⟩
   have hc6' := Kd.C_below C6 (below_drew (below_alloc (Below.refl wo.heap.size wo) (.cells (boxOf x (.slice A6 x.f6.length c6) (.slice A7 x.f7.length c7)) 40)))
   have hc7' := Kd.C_below C7 (below_drew (below_alloc (Below.refl wo.heap.size wo) (.cells (boxOf x (.slice A6 x.f6.length c6) (.slice A7 x.f7.length c7)) 40)))
   have H0 := Aside0.mk hcb
   have hc6 := Aside0.mk hc6'
   have hc7 := Aside0.mk hc7'
   have HW : Aside0 (Below wo.heap.size wo (wo.alloc (.cells (boxOf x (.slice A6 x.f6.length c6) (.slice A7 x.f7.length c7)) 40)).drew) := ⟨below_drew (below_alloc (Below.refl _ _) _)⟩
   unfold boxOf at H0 hc6 hc7 HW
   clear hcb hc6' hc7' C6 C7
   go_upto_region 6 with fail
   refine start_ (n := 12) (S := HeldB wo.heap.size (.slice A6 x.f6.length c6) (.slice A7 x.f7.length c7)) (ds := [9, 11]) #[false, false, false, false, false, false, false, false, false, false, false, false] (by kernel_rfl) rfl rfl (H0.out.held) (fun hHeld => ?_)
   generalize hw3 : World.drew _ = w3 at H0 hc6 hc7 HW hHeld ⊢
   clear hw3
   refine pure_ (i := 1) (N := some 17) (v := ?_) (a' := ?_) #[false, true, false, false, false, false, false, false, false, false, false, false] rfl rfl (by kernel_rfl) (fun _ _ _ h => h) (Or.inl ⟨by rfl, ?_⟩) ?_ ?_
   rotate_left
   · intro w'; go_simp; try with_reducible rfl
   rotate_left
   · simp only [Act.put, List.setIfInBounds_toArray, List.set_cons_zero, List.set_cons_succ]; rfl
   refine pure_ (i := 5) (N := some 21) (v := ?_) (a' := ?_) #[false, true, false, false, false, true, false, false, false, false, false, false] rfl rfl (by kernel_rfl) (fun _ _ _ h => h) (Or.inl ⟨by rfl, ?_⟩) ?_ ?_
   rotate_left
   · intro w'; go_simp; try with_reducible rfl
   rotate_left
   · simp only [Act.put, List.setIfInBounds_toArray, List.set_cons_zero, List.set_cons_succ]; rfl
   refine take_ (i := 2) (N := some 18) (v := ?_) (a' := ?_) #[false, true, true, false, false, true, false, false, false, false, false, false] rfl rfl (by kernel_rfl) (fun _ _ _ h => h) (Or.inl ⟨by rfl, ?_⟩) hHeld ?_ ?_
   rotate_left
   · intro w' hSw; obtain ⟨s0, s1⟩ := hSw; go_simp; try with_reducible rfl
   rotate_left
   · simp only [Act.put, List.setIfInBounds_toArray, List.set_cons_zero, List.set_cons_succ]; rfl
   refine take_ (i := 6) (N := some 22) (v := ?_) (a' := ?_) #[false, true, true, false, false, true, true, false, false, false, false, false] rfl rfl (by kernel_rfl) (fun _ _ _ h => h) (Or.inl ⟨by rfl, ?_⟩) hHeld ?_ ?_
   rotate_left
   · intro w' hSw; obtain ⟨s0, s1⟩ := hSw; go_simp; try with_reducible rfl
   rotate_left
   · simp only [Act.put, List.setIfInBounds_toArray, List.set_cons_zero, List.set_cons_succ]; rfl
   refine join_ (σ := Value × Value × Value × Value) 3 #[true, true, true, true, true, true, true, true, true, false, false, false] (fun s => [(16, s.1), (19, s.2.1), (20, s.2.2.1), (23, s.2.2.2), (24, .pointer (some ⟨wo.heap.size, 6, none⟩))]) (fun s w4 => CE wo.heap.size x A6 c6 A7 c7 w3 w4 s.2.1 s.2.2.2) ?_ (fun hC => ?_)
   rotate_left
   ·
    skip
    refine two_ (i := 0) (j := 4) (Ni := some 16) (Nj := some 20) #[true, true, true, false, false, true, true, false, false, false, false, false] #[false, true, true, false, true, true, true, false, false, false, false, false] rfl rfl rfl rfl (by kernel_rfl) (by decide) (by decide) (fun K hK => ?_) (fun K hK => ?_)
    ·
     skip
     rw [if_pos (by rfl)]
     go_simp
     refine hK.out _ _ ((H0.out.al _).held) (fun hHeld => ?_)
     clear hK K
     refine norm_ (a' := ?_) ?_ ?_
     rotate_left
     · first | (simp only [Act.put, List.setIfInBounds_toArray, List.set_cons_zero, List.set_cons_succ]; rfl) | rfl
     have H1 := Aside0.mk (H0.out.al (.cells #[] 42))
     refine two_ (i := 3) (j := 4) (Ni := some 19) (Nj := some 20) #[true, true, true, true, false, true, true, false, false, false, false, false] #[true, true, true, false, true, true, true, false, false, false, false, false] rfl rfl rfl rfl (by kernel_rfl) (by decide) (by decide) (fun K hK => ?_) (fun K hK => ?_)
     ·
      skip
      refine copyStep k42 (by rfl) (by rfl) (.tmp 16) (.tmp 18) 37 42 _ _ rfl Try.underlying37 PTypesGoods.info42 rfl (by decide) (by decide) (by rfl) (by rfl) ((heap_alloc_new _ _)) w3.heap.size (Nat.le_refl _) ((Kd.C_below hc6.out H1.out.below)) hl6 flat42 ?_
      intro v6 w5 hr6 hb6
      have H2 := Aside0.mk (H1.out.on hb6)
      refine hK.out _ _ (H2.out.held) (fun hHeld => ?_)
      clear hK K
      refine norm_ (a' := ?_) ?_ ?_
      rotate_left
      · show Act.put _ (some 19) (v6) = _; first | (simp only [Act.put, List.setIfInBounds_toArray, List.set_cons_zero, List.set_cons_succ]; rfl) | rfl
      refine pure_ (i := 8) (N := some 24) (v := ?_) (a' := ?_) #[true, true, true, true, false, true, true, false, true, false, false, false] rfl rfl (by kernel_rfl) (fun _ _ _ h => h) (Or.inl ⟨by rfl, ?_⟩) ?_ ?_
      rotate_left
      · intro w'; go_simp; try with_reducible rfl
      rotate_left
      · simp only [Act.put, List.setIfInBounds_toArray, List.set_cons_zero, List.set_cons_succ]; rfl
      refine one_ (i := 4) (N := some 20) #[true, true, true, true, true, true, true, false, true, false, false, false] rfl rfl (by kernel_rfl) (by decide) (fun K hK => ?_)
      rw [if_pos (by rfl)]
      go_simp
      refine hK.out _ _ ((H2.out.al _).held) (fun hHeld => ?_)
      clear hK K
      refine norm_ (a' := ?_) ?_ ?_
      rotate_left
      · first | (simp only [Act.put, List.setIfInBounds_toArray, List.set_cons_zero, List.set_cons_succ]; rfl) | rfl
      have H3 := Aside0.mk (H2.out.al (.cells #[] 47))
      refine one_ (i := 7) (N := some 23) #[true, true, true, true, true, true, true, true, true, false, false, false] rfl rfl (by kernel_rfl) (by decide) (fun K hK => ?_)
      refine copyStep k47 (by rfl) (by rfl) (.tmp 20) (.tmp 22) 38 47 _ _ rfl Try.underlying38 PTypesGoods.info47 rfl (by decide) (by decide) (by rfl) (by rfl) ((heap_alloc_new _ _)) w3.heap.size (H2.out.below.size) ((Kd.C_below hc7.out H3.out.below)) hl7 flat47 ?_
      intro v7 w6 hr7 hb7
      have H4 := Aside0.mk (H3.out.on hb7)
      refine hK.out _ _ (H4.out.held) (fun hHeld => ?_)
      clear hK K
      refine norm_ (a' := ?_) ?_ ?_
      rotate_left
      · show Act.put _ (some 23) (v7) = _; first | (simp only [Act.put, List.setIfInBounds_toArray, List.set_cons_zero, List.set_cons_succ]; rfl) | rfl
      exact hC (.slice (some ⟨w3.heap.size, 0, none⟩) 0 0, v6, .slice (some ⟨w5.heap.size, 0, none⟩) 0 0, v7) _ ⟨H4.out, Kd.R_below (Kd.R_alloc hr6 _) hb7, hr7⟩
     ·
      skip
      rw [if_pos (by rfl)]
      go_simp
      refine hK.out _ _ ((H1.out.al _).held) (fun hHeld => ?_)
      clear hK K
      refine norm_ (a' := ?_) ?_ ?_
      rotate_left
      · first | (simp only [Act.put, List.setIfInBounds_toArray, List.set_cons_zero, List.set_cons_succ]; rfl) | rfl
      have H2 := Aside0.mk (H1.out.al (.cells #[] 47))
      refine one_ (i := 3) (N := some 19) #[true, true, true, true, true, true, true, false, false, false, false, false] rfl rfl (by kernel_rfl) (by decide) (fun K hK => ?_)
      refine copyStep k42 (by rfl) (by rfl) (.tmp 16) (.tmp 18) 37 42 _ _ rfl Try.underlying37 PTypesGoods.info42 rfl (by decide) (by decide) (by rfl) (by rfl) ((Below.heap_alloc _ _ _ (by simp only [World.size_alloc]; omega)).trans (heap_alloc_new _ _)) w3.heap.size (Nat.le_refl _) ((Kd.C_below hc6.out H2.out.below)) hl6 flat42 ?_
      intro v6 w5 hr6 hb6
      have H3 := Aside0.mk (H2.out.on hb6)
      refine hK.out _ _ (H3.out.held) (fun hHeld => ?_)
      clear hK K
      refine norm_ (a' := ?_) ?_ ?_
      rotate_left
      · show Act.put _ (some 19) (v6) = _; first | (simp only [Act.put, List.setIfInBounds_toArray, List.set_cons_zero, List.set_cons_succ]; rfl) | rfl
      refine pure_ (i := 8) (N := some 24) (v := ?_) (a' := ?_) #[true, true, true, true, true, true, true, false, true, false, false, false] rfl rfl (by kernel_rfl) (fun _ _ _ h => h) (Or.inl ⟨by rfl, ?_⟩) ?_ ?_
      rotate_left
      · intro w'; go_simp; try with_reducible rfl
      rotate_left
      · simp only [Act.put, List.setIfInBounds_toArray, List.set_cons_zero, List.set_cons_succ]; rfl
      refine one_ (i := 7) (N := some 23) #[true, true, true, true, true, true, true, true, true, false, false, false] rfl rfl (by kernel_rfl) (by decide) (fun K hK => ?_)
      refine copyStep k47 (by rfl) (by rfl) (.tmp 20) (.tmp 22) 38 47 _ _ rfl Try.underlying38 PTypesGoods.info47 rfl (by decide) (by decide) (by rfl) (by rfl) ((hb6.block _ (by simp only [World.size_alloc]; omega)).trans (heap_alloc_new2 _ _ _)) w3.heap.size (Nat.le_succ _) ((Kd.C_below hc7.out H3.out.below)) hl7 flat47 ?_
      intro v7 w6 hr7 hb7
      have H4 := Aside0.mk (H3.out.on hb7)
      refine hK.out _ _ (H4.out.held) (fun hHeld => ?_)
      clear hK K
      refine norm_ (a' := ?_) ?_ ?_
      rotate_left
      · show Act.put _ (some 23) (v7) = _; first | (simp only [Act.put, List.setIfInBounds_toArray, List.set_cons_zero, List.set_cons_succ]; rfl) | rfl
      exact hC (.slice (some ⟨w3.heap.size, 0, none⟩) 0 0, v6, .slice (some ⟨(w3.heap.size + 1), 0, none⟩) 0 0, v7) _ ⟨H4.out, Kd.R_below hr6 hb7, hr7⟩
    ·
     skip
     rw [if_pos (by rfl)]
     go_simp
     refine hK.out _ _ ((H0.out.al _).held) (fun hHeld => ?_)
     clear hK K
     refine norm_ (a' := ?_) ?_ ?_
     rotate_left
     · first | (simp only [Act.put, List.setIfInBounds_toArray, List.set_cons_zero, List.set_cons_succ]; rfl) | rfl
     have H1 := Aside0.mk (H0.out.al (.cells #[] 47))
     refine one_ (i := 0) (N := some 16) #[true, true, true, false, true, true, true, false, false, false, false, false] rfl rfl (by kernel_rfl) (by decide) (fun K hK => ?_)
     rw [if_pos (by rfl)]
     go_simp
     refine hK.out _ _ ((H1.out.al _).held) (fun hHeld => ?_)
     clear hK K
     refine norm_ (a' := ?_) ?_ ?_
     rotate_left
     · first | (simp only [Act.put, List.setIfInBounds_toArray, List.set_cons_zero, List.set_cons_succ]; rfl) | rfl
     have H2 := Aside0.mk (H1.out.al (.cells #[] 42))
     refine one_ (i := 3) (N := some 19) #[true, true, true, true, true, true, true, false, false, false, false, false] rfl rfl (by kernel_rfl) (by decide) (fun K hK => ?_)
     refine copyStep k42 (by rfl) (by rfl) (.tmp 16) (.tmp 18) 37 42 _ _ rfl Try.underlying37 PTypesGoods.info42 rfl (by decide) (by decide) (by rfl) (by rfl) (heap_alloc_new2 _ _ _) w3.heap.size (Nat.le_succ _) ((Kd.C_below hc6.out H2.out.below)) hl6 flat42 ?_
     intro v6 w5 hr6 hb6
     have H3 := Aside0.mk (H2.out.on hb6)
     refine hK.out _ _ (H3.out.held) (fun hHeld => ?_)
     clear hK K
     refine norm_ (a' := ?_) ?_ ?_
     rotate_left
     · show Act.put _ (some 19) (v6) = _; first | (simp only [Act.put, List.setIfInBounds_toArray, List.set_cons_zero, List.set_cons_succ]; rfl) | rfl
     refine pure_ (i := 8) (N := some 24) (v := ?_) (a' := ?_) #[true, true, true, true, true, true, true, false, true, false, false, false] rfl rfl (by kernel_rfl) (fun _ _ _ h => h) (Or.inl ⟨by rfl, ?_⟩) ?_ ?_
     rotate_left
     · intro w'; go_simp; try with_reducible rfl
     rotate_left
     · simp only [Act.put, List.setIfInBounds_toArray, List.set_cons_zero, List.set_cons_succ]; rfl
     refine one_ (i := 7) (N := some 23) #[true, true, true, true, true, true, true, true, true, false, false, false] rfl rfl (by kernel_rfl) (by decide) (fun K hK => ?_)
     refine copyStep k47 (by rfl) (by rfl) (.tmp 20) (.tmp 22) 38 47 _ _ rfl Try.underlying38 PTypesGoods.info47 rfl (by decide) (by decide) (by rfl) (by rfl) ((hb6.block _ (by simp only [World.size_alloc]; omega)).trans ((Below.heap_alloc _ _ _ (by simp only [World.size_alloc]; omega)).trans (heap_alloc_new _ _))) w3.heap.size (Nat.le_refl _) ((Kd.C_below hc7.out H3.out.below)) hl7 flat47 ?_
     intro v7 w6 hr7 hb7
     have H4 := Aside0.mk (H3.out.on hb7)
     refine hK.out _ _ (H4.out.held) (fun hHeld => ?_)
     clear hK K
     refine norm_ (a' := ?_) ?_ ?_
     rotate_left
     · show Act.put _ (some 23) (v7) = _; first | (simp only [Act.put, List.setIfInBounds_toArray, List.set_cons_zero, List.set_cons_succ]; rfl) | rfl
     exact hC (.slice (some ⟨(w3.heap.size + 1), 0, none⟩) 0 0, v6, .slice (some ⟨w3.heap.size, 0, none⟩) 0 0, v7) _ ⟨H4.out, Kd.R_below hr6 hb7, hr7⟩
   rintro ⟨b1, v6, b2, v7⟩ w4 ⟨H5, hr6, hr7⟩
   dsimp only at H5 hr6 hr7
   obtain ⟨B6, d6, rfl⟩ := Kd.R_slice hr6
   obtain ⟨B7, d7, rfl⟩ := Kd.R_slice hr7
   refine norm_ (a' := ?_) ?_ ?_
   rotate_left
   · simp only [putAll, Act.put, List.setIfInBounds_toArray, List.set_cons_zero, List.set_cons_succ]; rfl
   have k6 := H5.cell 6 _ rfl
   have kf := frozen_box (k := 6) H5.box
   refine last_ (i := 9) (N := none) #[true, true, true, true, true, true, true, true, true, true, false, false] rfl rfl (by kernel_rfl) (by decide) (fun K hK => ?_)
   rw [if_pos (by rfl)]
   go_simp
   refine hK.out _ _ ?_
   clear hK K
   clear k6 kf
   have H6 := box_setK (k := 6) (.slice B6 x.f6.length d6) H5.box
   refine pure_ (i := 10) (N := some 25) (v := ?_) (a' := ?_) #[true, true, true, true, true, true, true, true, true, true, true, false] rfl rfl (by kernel_rfl) (fun _ _ _ h => h) (Or.inl ⟨by rfl, ?_⟩) ?_ ?_
   rotate_left
   · intro w'; go_simp; try with_reducible rfl
   rotate_left
   · simp only [Act.put, List.setIfInBounds_toArray, List.set_cons_zero, List.set_cons_succ]; rfl
   have k7 := cell_of_row _ _ 7 _ _ _ H6
   have kf := frozen_box (k := 7) H6
   refine last_ (i := 11) (N := none) #[true, true, true, true, true, true, true, true, true, true, true, true] rfl rfl (by kernel_rfl) (by decide) (fun K hK => ?_)
   rw [if_pos (by rfl)]
   go_simp
   refine hK.out _ _ ?_
   clear hK K
   clear k7 kf H6
   have HD := Aside0.mk (CD.make H5 HW.out hr6 hr7)
   refine done_ (by kernel_rfl) ?_
   clear H5 hr6 hr7 hHeld H0 HW hc6 hc7
   generalize (World.setCell _ _ _) = wE at HD ⊢
   have HBE := Aside0.mk (HB.out.trans (HD.out.below.mono HB.out.size))
   have q0 := HD.out.cell 0 _ rfl
   have q1 := HD.out.cell 1 _ rfl
   have q2 := HD.out.cell 2 _ rfl
   have q3 := HD.out.cell 3 _ rfl
   have q4 := HD.out.cell 4 _ rfl
   have q5 := HD.out.cell 5 _ rfl
   have q6 := HD.out.cell 6 _ rfl
   have q7 := HD.out.cell 7 _ rfl
   have q8 := HD.out.cell 8 _ rfl
   have q9 := HD.out.cell 9 _ rfl
   go_wp2_with ((with_reducible refine gate_builtin (b := .append) (xs := #[.tmp 26, .tmp 28]) rfl ?_); at_builtin; refine Kd.S_append k40 (w0 := w) w.heap.size rfl (.tmp 26) (.tmp 28) 22 40 (.agg #[(.int .i64 0), (.string ⟨#[]⟩), (.string ⟨#[]⟩), (.int .i64 0), (.int .i64 0), (.int .i64 0), (.slice none 0 0), (.slice none 0 0), (.int .i64 0), (.int .i64 0)]) 128 rfl Try.underlying22 PTypesGoods.info40 rfl (by decide) (by omega) u3 (t.take i0) x [.int .i64 x.f0, .string x.f1, .string x.f2, .int .i64 x.f3, .int .i64 x.f4, .int .i64 x.f5, (.slice B6 x.f6.length d6), (.slice B7 x.f7.length d7), .int .i64 x.f8, .int .i64 x.f9] (fun _ => True) (fun k_ => wo.heap.size ≤ k_) rfl rfl ?aP ?aN ?aF ?aO ?aB ?aS ?aL ?_; (case aP => exact k40_mkM _ _ _ x (Kd.R_lower HD.out.r6 HB.out.size) (Kd.R_lower HD.out.r7 HB.out.size)); (case aN => exact (fun k_ hk_ => ⟨trivial, fun e_ => by have := Kd.S_lt HO.out k_ e_.symm; omega⟩)); (case aB => exact HBE.out); (case aF => exact (fun _ _ => trivial)); (case aO => exact Kd.S_mono (Kd.S_old HO.out HD.out.below) (fun k_ hk => ⟨trivial, by omega⟩)); (case aS => exact HBE.out.size); (case aL => rw [List.length_take]; omega); intro v134 w5 ho hb hg hat; rw [← htk.out] at ho; have HO5 := Aside0.mk ho; have HB5 := Aside0.mk hb; clear ho hb hg hat)
   go_roundw
   case rel => exact ⟨i0 + 1, by omega, by go_num, HO5, HB5⟩
   case measure => simp [intOf]; omega
  ·
   have hx : decide ((i0 : Int) < (t.length : Int)) = false := decide_eq_false (by omega)
   have hS : Aside0 (Kd.S k40 40 wo w.heap.size (fun _ => True) u3 t) := ⟨by have := HO.out; rwa [List.take_of_length_le (by omega)] at this⟩
   go_wp2
   go_ret
   exact ⟨_, rfl, hS.out, HB.out⟩
end Go.Proofs.Ytgnbemgeiloegaa.Tg
