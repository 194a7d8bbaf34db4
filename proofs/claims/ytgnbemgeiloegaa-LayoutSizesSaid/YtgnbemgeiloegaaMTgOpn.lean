import Derived.Test.YtgnbemgeiloegaaMPTypesGoodsx1
import Derived.Deep.Slices
import Derived.DataReads
import Derived.ChangeArms
import GoSem.ClaimJoined
namespace Go.Proofs.Ytgnbemgeiloegaa.Tg
open Go.RowKit
open Go.Proofs.YtgnbemgeiloegaaW.PrintWords Go.Proofs.YtgnbemgeiloegaaW.PrintLast Go.Proofs.YtgnbemgeiloegaaW.PrintMore
set_option linter.unusedVariables false
set_option linter.unusedSimpArgs false
open Go.Proofs.Ytgnbemgeiloegaa.PTypesGoods (S40 S42 S47 k40 k42 k47 rd_T40 rd_T42 rd_T47 at_T40 at_T42 at_T47 spinetlaw13_Large.f spinetlaw13_Large.l0)
structure Lim (t : List S40) : Prop where
 f1 : ∀ x ∈ t, x.f1.size ≤ 281474976710656
 f2 : ∀ x ∈ t, x.f2.size ≤ 281474976710656
 f6 : ∀ x ∈ t, x.f6.length ≤ 281474976710656
 f7 : ∀ x ∈ t, x.f7.length ≤ 281474976710656
 n6 : ∀ x ∈ t, ∀ f ∈ x.f6, f.f0.size ≤ 281474976710656
theorem wr64 {x : Int} (h : -9223372036854775808 ≤ x ∧ x ≤ 9223372036854775807) : wrap64 x = x := by
 unfold wrap64
 omega
def amt (x : S40) : Int := (x.f6.length : Int) + (x.f7.length : Int) + (x.f2.size : Int) / 50 + (x.f1.size : Int) / 50
theorem amt_aux (a b c d acc : Int) (ha : 0 ≤ a ∧ a ≤ 281474976710656) (hb : 0 ≤ b ∧ b ≤ 281474976710656) (hc : 0 ≤ c ∧ c ≤ 281474976710656) (hd : 0 ≤ d ∧ d ≤ 281474976710656) (h : 0 ≤ acc ∧ acc ≤ 3000) :
 wrap64 (acc + wrap64 (wrap64 (wrap64 (a + b) + wrap64 (c / 50)) + wrap64 (d / 50))) = acc + (a + b + c / 50 + d / 50) := by
 have c1 : 0 ≤ c / 50 ∧ c / 50 ≤ 281474976710656 := by omega
 have d1 : 0 ≤ d / 50 ∧ d / 50 ≤ 281474976710656 := by omega
 generalize c / 50 = c' at c1 ⊢
 generalize d / 50 = d' at d1 ⊢
 rw [wr64 (x := a + b) (by omega), wr64 (x := c') (by omega), wr64 (x := d') (by omega), wr64 (x := a + b + c') (by omega), wr64 (x := a + b + c' + d') (by omega), wr64 (by omega)]
theorem rd_mem40 {t : List S40} {i : Int} (h0 : 0 ≤ i) (h1 : i < (t.length : Int)) : rd_T40 t i ∈ t := by
 have hlt : i.toNat < t.length := by omega
 have e : rd_T40 t i = t[i.toNat] := by
  unfold rd_T40
  rw [List.getD_eq_getElem?_getD, List.getElem?_eq_getElem hlt]; rfl
 rw [e]; exact List.getElem_mem hlt
theorem large_more (k : Nat) (t : List S40) (acc i b : Int) (h1 : i < (t.length : Int)) (h0 : 0 ≤ i)
 (hb : wrap64 (acc + wrap64 (wrap64 (wrap64 (((rd_T40 t i).f6.length : Int) + ((rd_T40 t i).f7.length : Int)) + wrap64 (((rd_T40 t i).f2.size : Int) / 50)) + wrap64 (((rd_T40 t i).f1.size : Int) / 50))) = b) :
 spinetlaw13_Large.l0 (k + 1) t acc i = if b > 3000 then some true else spinetlaw13_Large.l0 k t b (wrap64 (i + 1)) := by
 rw [spinetlaw13_Large.l0, if_pos h1, if_pos h0, hb]
theorem large_stop (k : Nat) (t : List S40) (acc i : Int) (h1 : ¬ i < (t.length : Int)) : spinetlaw13_Large.l0 (k + 1) t acc i = some false := by
 rw [spinetlaw13_Large.l0, if_neg h1]
theorem large_run {t : List S40} (hL : Lim t) (h3 : t.length ≤ 300) : ∀ (n i : Nat) (acc : Int), i + n = t.length → 0 ≤ acc ∧ acc ≤ 3000 →
 ∃ r, Ev (fun k => spinetlaw13_Large.l0 k t acc (i : Int)) r ∧ (r = false → ∀ j : Nat, i ≤ j → j < t.length → (rd_T40 t (j : Int)).f6.length ≤ 3000 ∧ (rd_T40 t (j : Int)).f7.length ≤ 3000)
 | 0, i, acc, hi, ha => ⟨false, Ev.step (f := fun _ => some false) (fun k => large_stop k t acc i (by omega)) (Ev.now _), fun _ j hj hj2 => by omega⟩
 | n + 1, i, acc, hi, ha => by
  have hlt : (i : Int) < (t.length : Int) := by omega
  have hge : 0 ≤ (i : Int) := by omega
  have hm : rd_T40 t (i : Int) ∈ t := rd_mem40 hge hlt
  have s1 := hL.f1 _ hm
  have s2 := hL.f2 _ hm
  have s6 := hL.f6 _ hm
  have s7 := hL.f7 _ hm
  have hi' : i + 1 + n = t.length := by omega
  have e0 : wrap64 ((i : Int) + 1) = ((i + 1 : Nat) : Int) := by rw [wr64 (by omega)]; omega
  have hb := amt_aux ((rd_T40 t (i : Int)).f6.length : Int) ((rd_T40 t (i : Int)).f7.length : Int) ((rd_T40 t (i : Int)).f2.size : Int) ((rd_T40 t (i : Int)).f1.size : Int) acc ⟨by omega, by omega⟩ ⟨by omega, by omega⟩ ⟨by omega, by omega⟩ ⟨by omega, by omega⟩ ha
  have hst := fun k => large_more k t acc i _ hlt hge hb
  rw [e0] at hst
  have hbig : 0 ≤ amt (rd_T40 t (i : Int)) ∧ ((rd_T40 t (i : Int)).f6.length : Int) ≤ amt (rd_T40 t (i : Int)) ∧ ((rd_T40 t (i : Int)).f7.length : Int) ≤ amt (rd_T40 t (i : Int)) := by
   unfold amt; omega
  change ∀ k, _ = if acc + amt (rd_T40 t (i : Int)) > 3000 then _ else _ at hst
  have hst2 : ∀ k, spinetlaw13_Large.l0 (k + 1) t acc (i : Int) = if acc + amt (rd_T40 t (i : Int)) > 3000 then some true else spinetlaw13_Large.l0 k t (acc + amt (rd_T40 t (i : Int))) ((i + 1 : Nat) : Int) := hst
  by_cases hgt : acc + amt (rd_T40 t (i : Int)) > 3000
  ·
   refine ⟨true, Ev.step (f := fun _ => some true) (fun k => ?_) (Ev.now _), fun h => by cases h⟩
   rw [hst2, if_pos hgt]
  ·
   obtain ⟨r, hr, hp⟩ := large_run hL h3 n (i + 1) (acc + amt (rd_T40 t (i : Int))) hi' ⟨by omega, by omega⟩
   refine ⟨r, Ev.step (fun k => ?_) hr, fun h j hj hj2 => ?_⟩
   · rw [hst2, if_neg hgt]
   ·
    rcases Nat.eq_or_lt_of_le hj with rfl | hj3
    · omega
    · exact hp h j hj3 hj2
theorem large_is {t : List S40} (hL : Lim t) : ∃ r, Ev (fun k => spinetlaw13_Large.f k t) r ∧ (r = false → t.length ≤ 300 ∧ ∀ x ∈ t, x.f7.length ≤ 4000 ∧ x.f6.length ≤ 4000) := by
 by_cases h3 : (t.length : Int) > 300
 ·
  refine ⟨true, Ev.congr (f := fun _ => some true) (fun k => ?_) (Ev.now _), fun h => by cases h⟩
  rw [spinetlaw13_Large.f, if_pos h3]
 ·
  obtain ⟨r, hr, hp⟩ := large_run hL (by omega) t.length 0 0 (by omega) ⟨by omega, by omega⟩
  refine ⟨r, Ev.congr (fun k => ?_) hr, fun h => ⟨by omega, fun x hx => ?_⟩⟩
  · rw [spinetlaw13_Large.f, if_neg h3]; rfl
  ·
   obtain ⟨j, hj, rfl⟩ := List.mem_iff_getElem.1 hx
   have := hp h j (Nat.zero_le _) hj
   have e : rd_T40 t (j : Int) = t[j] := by
    unfold rd_T40
    rw [Int.toNat_natCast, List.getD_eq_getElem?_getD, List.getElem?_eq_getElem hj]; rfl
   rw [e] at this
   omega
end Go.Proofs.Ytgnbemgeiloegaa.Tg
namespace Go.Proofs.Ytgnbemgeiloegaa.Tg
open Go.RowKit Go.Proofs.Ytgnbemgeiloegaa
open Go.Proofs.YtgnbemgeiloegaaW.PrintWords Go.Proofs.YtgnbemgeiloegaaW.PrintLast Go.Proofs.YtgnbemgeiloegaaW.PrintMore
open Go.ChangeShapes Go.WideShapes
set_option linter.unusedVariables false
set_option linter.unusedSimpArgs false
open Go.Proofs.Ytgnbemgeiloegaa.PTypesGoods (S40 S42 S47 k40 k42 k47 rd_T40 rd_T42 rd_T47 at_T40 at_T42 at_T47 k40_mk k42_mk k47_mk)
theorem co40 : Try.prog.cellsOf 40 = 10 := by kernel_rfl
theorem co42 : Try.prog.cellsOf 42 = 3 := by kernel_rfl
theorem co47 : Try.prog.cellsOf 47 = 2 := by kernel_rfl
theorem co3 : Try.prog.cellsOf 3 = 1 := by kernel_rfl
theorem co4 : Try.prog.cellsOf 4 = 1 := by kernel_rfl
theorem co9 : Try.prog.cellsOf 9 = 1 := by kernel_rfl
theorem co37 : Try.prog.cellsOf 37 = 1 := by kernel_rfl
theorem co38 : Try.prog.cellsOf 38 = 1 := by kernel_rfl
theorem bo40 : 1 ≤ Try.prog.bytesOf 40 := of_decide_eq_true (by kernel_rfl)
theorem bo42 : 1 ≤ Try.prog.bytesOf 42 := of_decide_eq_true (by kernel_rfl)
theorem bo47 : 1 ≤ Try.prog.bytesOf 47 := of_decide_eq_true (by kernel_rfl)
theorem pick_list {α : Type} {n : Nat} {Q : Nat → α → Prop} (h : ∀ i, i < n → ∃ x, Q i x) : ∃ l : List α, l.length = n ∧ ∀ i x, l[i]? = some x → Q i x := by
 induction n with
 | zero => exact ⟨[], rfl, fun i x hx => by simp at hx⟩
 | succ n ih =>
  obtain ⟨l, hl, hq⟩ := ih (fun i hi => h i (by omega))
  obtain ⟨x, hx⟩ := h n (by omega)
  refine ⟨l ++ [x], by simp [hl], fun i y hy => ?_⟩
  rcases Nat.lt_or_ge i l.length with hi | hi
  ·
   rw [List.getElem?_append_left hi] at hy
   exact hq i y hy
  ·
   have h2 := (List.getElem?_eq_some_iff.1 hy).1
   simp at h2
   have : i = l.length := by omega
   subst this
   simp at hy
   subst hy
   rw [hl]
   exact hx
section
variable {H : Type} {enc : TypeId × Value → H} {W : World} {sp : Nat → Bool} {held : Bool}
def Wt (t : TypeId) (d : DataW H) : Prop := ∀ n ∈ DataW.weights Try.prog t d, n ≤ reachBytes
theorem wt_all {e : TypeId} : ∀ (l : List (DataW H)), (∀ n ∈ DataW.weightsAll Try.prog e l, n ≤ reachBytes) → ∀ d ∈ l, Wt e d
 | [], _, d, hd => by cases hd
 | x :: l, h, d, hd => by
  unfold DataW.weightsAll at h
  rcases List.mem_cons.1 hd with rfl | hd
  · exact fun n hn => h n (List.mem_append_left _ hn)
  · exact wt_all l (fun n hn => h n (List.mem_append_right _ hn)) d hd
theorem wt_each : ∀ (ts : List TypeId) (l : List (DataW H)), (∀ n ∈ DataW.weightsEach Try.prog ts l, n ≤ reachBytes) → ∀ (i : Nat) (t : TypeId) (d : DataW H), ts[i]? = some t → l[i]? = some d → Wt t d
 | [], l, _, i, t, d, ht, _ => by simp at ht
 | t0 :: ts, [], _, i, t, d, _, hd => by simp at hd
 | t0 :: ts, x :: l, h, 0, t, d, ht, hd => by
  unfold DataW.weightsEach at h
  simp at ht hd
  subst ht hd
  exact fun n hn => h n (List.mem_append_left _ hn)
 | t0 :: ts, x :: l, h, i + 1, t, d, ht, hd => by
  unfold DataW.weightsEach at h
  exact wt_each ts l (fun n hn => h n (List.mem_append_right _ hn)) i t d (by simpa using ht) (by simpa using hd)
theorem wt_row {ts : List TypeId} {l : List (DataW H)} {i : Nat} {t : TypeId} {d : DataW H} (h : (DataW.weightsEach Try.prog ts l).all (· ≤ reachBytes) = true) (ht : ts[i]? = some t) (hd : l[i]? = some d) : Wt t d :=
 wt_each ts l (fun n hn => by
  have := List.all_eq_true.1 h n hn
  simpa using this) i t d ht hd
theorem slice_of {α : Type} {k : Kd α} {Q : α → Prop} {ts te : TypeId} (hu : Try.prog.underlying ts = some (.slice te)) (hz : Try.prog.cellsOf te = k.sz) (hb : 1 ≤ Try.prog.bytesOf te)
 (hel : ∀ (n : Nat) (cs : List Value) (x : DataW H × List MemPlace), DataW.trod enc Try.prog W 0 sp held n te cs = some x → Wt te x.1 → ∃ e, k.K W e cs ∧ Q e)
 {n : Nat} {cs : List Value} {x : DataW H × List MemPlace} (h : DataW.trod enc Try.prog W 0 sp held n ts cs = some x) (hw : Wt ts x.1) :
 ∃ (A : Option Addr) (l : List α) (c : Nat), cs = [.slice A l.length c] ∧ l.length ≤ c ∧ Kd.C k W A l.length l ∧ l.length ≤ reachBytes ∧ ∀ e ∈ l, Q e := by
 rcases DataW.trod_slice hu h with ⟨rfl, _⟩ | ⟨a, len, cap, elems, rest, m, rfl, rfl, hx, _, hlc, hcm, hlen, hi, _⟩
 · exact ⟨none, [], 0, rfl, Nat.le_refl _, ⟨rfl, by simp, fun h => absurd h (by simp)⟩, Nat.zero_le _, fun e he => by cases he⟩
 ·
  subst hx
  unfold Wt at hw
  simp only [DataW.weights] at hw
  rw [hu] at hw
  simp only [List.mem_cons, List.mem_append] at hw
  have hreach : len ≤ reachBytes := by
   have h1 := hw _ (.inl rfl)
   rw [List.length_map, List.length_map] at h1
   have h2 : elems.length * 1 ≤ (elems.length + rest.length) * Try.prog.bytesOf te := Nat.mul_le_mul (Nat.le_add_right _ _) hb
   omega
  have hwa := wt_all (elems.map (·.1)) (fun n hn => hw n (.inr (.inl hn)))
  have hx : ∀ i, i < len → ∃ e : α, ∃ c, k.K W e c ∧ Q e ∧ c.length = k.sz ∧ ∀ j u, c[j]? = some u → W.cell? (a.add (i * k.sz + j)) = some u := by
   intro i hlt
   have h1 := hi i hlt
   rw [hz, List.getElem?_eq_getElem (by omega), Option.bind_eq_some_iff] at h1
   obtain ⟨c, h2, h3⟩ := h1
   obtain ⟨_, hcl, hcells⟩ := World.cells?_some h2
   obtain ⟨e, hK, hQ⟩ := hel _ _ _ h3 (hwa _ (List.mem_map.2 ⟨_, List.getElem_mem _, rfl⟩))
   refine ⟨e, c, hK, hQ, k.K_len hK, fun j u hu => ?_⟩
   have hj := (List.getElem?_eq_some_iff.1 hu).1
   rw [k.K_len hK] at hj
   rw [← Deep.add_add, hcells j (by omega)]
   exact hu
  obtain ⟨l, hl, hq⟩ := pick_list hx
  subst hl
  refine ⟨some a, l, cap, rfl, hlc, ⟨rfl, by simp only [maxLen] at hcm; omega, fun _ => ⟨a, rfl, fun j p hj => ?_⟩⟩, hreach, fun e he => ?_⟩
  ·
   obtain ⟨c, h1, _, h3, h4⟩ := hq j p hj
   exact ⟨c, h3, h1, h4⟩
  ·
   obtain ⟨i, hi⟩ := List.getElem?_of_mem he
   obtain ⟨c, _, h2, _⟩ := hq i e hi
   exact h2
theorem size_toList (s : ByteArray) : s.data.toList.length = s.size := rfl
theorem str_wt {s : ByteArray} (h : Wt (H := H) 9 (.lit (.string s.data.toList))) : s.size ≤ reachBytes := h _ (by simp [DataW.weights, size_toList])
theorem field_at {t : TypeId} {fs : Array Field} (ht : Try.prog.underlying t = some (.struct fs)) {n : Nat} {cs : List Value} {x : DataW H × List MemPlace} (h : DataW.trod enc Try.prog W 0 sp held n t cs = some x) (hw : Wt t x.1) :
 cs.length = Try.prog.cellsOf t ∧ ∃ m, ∀ (i t1 o : Nat), (fs[i]?).map (fun f => (f.type, f.offset)) = some (t1, o) → ∃ y, DataW.trod enc Try.prog W 0 sp held m t1 ((cs.drop o).take (Try.prog.cellsOf t1)) = some y ∧ Wt t1 y.1 := by
 obtain ⟨xs, m, rfl, rfl, hl, hlen, hf⟩ := DataW.trod_struct ht h
 refine ⟨hl, m, fun i t1 o hif0 => ?_⟩
 obtain ⟨f, hif, hto⟩ := Option.map_eq_some_iff.1 hif0
 obtain ⟨rfl, rfl⟩ := Prod.mk.inj hto
 have hi : i < fs.size := (Array.getElem?_eq_some_iff.1 hif).1
 have e1 := hf i f hif
 rw [List.getElem?_eq_getElem (by omega)] at e1
 refine ⟨_, e1, ?_⟩
 unfold Wt at hw
 simp only [DataW.weights] at hw
 rw [ht] at hw
 refine wt_each _ _ hw i f.type _ ?_ ?_
 · rw [List.getElem?_map, Array.getElem?_toList, hif]; rfl
 · rw [List.getElem?_map, List.getElem?_eq_getElem (by omega)]; rfl
theorem el42 (n : Nat) (cs : List Value) (x : DataW H × List MemPlace) (h : DataW.trod enc Try.prog W 0 sp held n 42 cs = some x) (hw : Wt 42 x.1) : ∃ e : S42, k42.K W e cs ∧ e.f0.size ≤ reachBytes := by
 obtain ⟨hl, m, hf⟩ := field_at Try.underlying42 h hw
 rw [co42] at hl
 match cs, hl with
 | [v0, v1, v2], _ =>
  obtain ⟨y0, e0, w0⟩ := hf 0 9 0 rfl
  obtain ⟨y1, e1, w1⟩ := hf 1 4 1 rfl
  obtain ⟨y2, e2, w2⟩ := hf 2 3 2 rfl
  simp only [co9, co4, co3, List.drop, List.take] at e0 e1 e2
  obtain ⟨a0, r0, x0, _⟩ := DataW.trod_string Try.underlying9 e0
  obtain ⟨a1, r1, _⟩ := DataW.trod_bool Try.underlying4 e1
  obtain ⟨a2, r2, _⟩ := DataW.trod_int Try.underlying3 e2
  simp only [List.cons.injEq, and_true] at r0 r1 r2
  subst r0 r1 r2 x0
  exact ⟨⟨a0, a1, a2⟩, k42_mk W _, str_wt w0⟩
theorem el47 (n : Nat) (cs : List Value) (x : DataW H × List MemPlace) (h : DataW.trod enc Try.prog W 0 sp held n 47 cs = some x) (hw : Wt 47 x.1) : ∃ e : S47, k47.K W e cs ∧ True := by
 obtain ⟨hl, m, hf⟩ := field_at Try.underlying47 h hw
 rw [co47] at hl
 match cs, hl with
 | [v1, v2], _ =>
  obtain ⟨y1, e1, w1⟩ := hf 0 4 0 rfl
  obtain ⟨y2, e2, w2⟩ := hf 1 3 1 rfl
  simp only [co4, co3, List.drop, List.take] at e1 e2
  obtain ⟨a1, r1, _⟩ := DataW.trod_bool Try.underlying4 e1
  obtain ⟨a2, r2, _⟩ := DataW.trod_int Try.underlying3 e2
  simp only [List.cons.injEq, and_true] at r1 r2
  subst r1 r2
  exact ⟨⟨a1, a2⟩, k47_mk W _, trivial⟩
def Small (x : S40) : Prop := x.f1.size ≤ reachBytes ∧ x.f2.size ≤ reachBytes ∧ x.f6.length ≤ reachBytes ∧ x.f7.length ≤ reachBytes ∧ ∀ f ∈ x.f6, f.f0.size ≤ reachBytes
theorem el40 (n : Nat) (cs : List Value) (x : DataW H × List MemPlace) (h : DataW.trod enc Try.prog W 0 sp held n 40 cs = some x) (hw : Wt 40 x.1) : ∃ e : S40, k40.K W e cs ∧ Small e := by
 obtain ⟨hl, m, hf⟩ := field_at Try.underlying40 h hw
 rw [co40] at hl
 match cs, hl with
 | [v0, v1, v2, v3, v4, v5, v6, v7, v8, v9], _ =>
  obtain ⟨y0, e0, w0⟩ := hf 0 3 0 rfl
  obtain ⟨y1, e1, w1⟩ := hf 1 9 1 rfl
  obtain ⟨y2, e2, w2⟩ := hf 2 9 2 rfl
  obtain ⟨y3, e3, w3⟩ := hf 3 3 3 rfl
  obtain ⟨y4, e4, w4⟩ := hf 4 3 4 rfl
  obtain ⟨y5, e5, w5⟩ := hf 5 3 5 rfl
  obtain ⟨y6, e6, w6⟩ := hf 6 37 6 rfl
  obtain ⟨y7, e7, w7⟩ := hf 7 38 7 rfl
  obtain ⟨y8, e8, w8⟩ := hf 8 3 8 rfl
  obtain ⟨y9, e9, w9⟩ := hf 9 3 9 rfl
  simp only [co9, co4, co3, co37, co38, List.drop, List.take] at e0 e1 e2 e3 e4 e5 e6 e7 e8 e9
  obtain ⟨a0, r0, _⟩ := DataW.trod_int Try.underlying3 e0
  obtain ⟨a1, r1, x1, _⟩ := DataW.trod_string Try.underlying9 e1
  obtain ⟨a2, r2, x2, _⟩ := DataW.trod_string Try.underlying9 e2
  obtain ⟨a3, r3, _⟩ := DataW.trod_int Try.underlying3 e3
  obtain ⟨a4, r4, _⟩ := DataW.trod_int Try.underlying3 e4
  obtain ⟨a5, r5, _⟩ := DataW.trod_int Try.underlying3 e5
  obtain ⟨A6, a6, c6, r6, l6, C6, z6, q6⟩ := slice_of (k := k42) Try.underlying37 co42 bo42 el42 e6 w6
  obtain ⟨A7, a7, c7, r7, l7, C7, z7, q7⟩ := slice_of (k := k47) Try.underlying38 co47 bo47 el47 e7 w7
  obtain ⟨a8, r8, _⟩ := DataW.trod_int Try.underlying3 e8
  obtain ⟨a9, r9, _⟩ := DataW.trod_int Try.underlying3 e9
  simp only [List.cons.injEq, and_true] at r0 r1 r2 r3 r4 r5 r6 r7 r8 r9
  subst r0 r1 r2 r3 r4 r5 r6 r7 r8 r9 x1 x2
  exact ⟨⟨a0, a1, a2, a3, a4, a5, a6, a7, a8, a9⟩, k40_mk W ⟨a0, a1, a2, a3, a4, a5, a6, a7, a8, a9⟩ l6 C6 l7 C7, str_wt w1, str_wt w2, z6, z7, q6⟩
theorem table_of {v : Value} {b0 : Nat} {d : DataW H} {p : List MemPlace} (hv : Value.okWide Try.prog W .any b0 22 v) (h : DataW.Trod enc Try.prog W 0 (fun _ => true) true 22 v d p) (hw : Wt 22 d) :
 ∃ (A : Option Addr) (l : List S40) (c : Nat), v = .slice A l.length c ∧ l.length ≤ c ∧ Kd.C k40 W A l.length l ∧ Lim l := by
 obtain ⟨a, len, cap, rfl⟩ := okWide_slice Try.underlying22 hv
 obtain ⟨n, hn⟩ := h
 obtain ⟨A, l, c, hcs, hlc, hC, _, hq⟩ := slice_of (k := k40) Try.underlying22 co40 bo40 el40 hn hw
 simp [Value.cells] at hcs
 obtain ⟨rfl, rfl, rfl⟩ := hcs
 have hr : reachBytes ≤ 281474976710656 := by decide
 exact ⟨_, l, _, rfl, hlc, hC, fun x hx => Nat.le_trans (hq x hx).1 hr, fun x hx => Nat.le_trans (hq x hx).2.1 hr, fun x hx => Nat.le_trans (hq x hx).2.2.1 hr, fun x hx => Nat.le_trans (hq x hx).2.2.2.1 hr, fun x hx f hf => Nat.le_trans ((hq x hx).2.2.2.2 f hf) hr⟩
end
end Go.Proofs.Ytgnbemgeiloegaa.Tg
