/- What the scale of the law's package tells of a list of expressions: where it says true, no list within is long. -/
import Derived.Test.YthhefcdbakcdfaaNeedB
namespace Go.Proofs.Ythhefcdbakcdfaa.PNeedTells
open Go.RowKit Go.Proofs.YthhefcdbakcdfaaW.PrintWords Go.Proofs.YthhefcdbakcdfaaW.PrintLast Go.Proofs.YthhefcdbakcdfaaW.PrintMore
attribute [local go_sem] max2_int min2_int max_two min_two max_three min_three max_four min_four

def ExPost (w0 w : World) (g : Nat) (l : List S24) (e : Ending) (w' : World) : Prop :=
  ∃ (b : Bool) (n1 : Int), e = .returned (.bool b) ∧ IsS35 w0 w' g n1 ∧ Below w0.heap.size w0 w' ∧ KeepBut w w' g none ∧ (b = true → 0 ≤ n1 ∧ n1 ≤ 9000 ∧ l.length ≤ 50000 ∧ SmL l)

theorem sm_snoc {l : List S24} {e : S24} (h : SmL l) (he : SmE e) : SmL (l ++ [e]) := by
  induction l with
  | nil => simp [SmL, he]
  | cons x r ih =>
    simp only [SmL] at h
    simp [SmL, h.1, ih h.2]
theorem sm_of {e : S24} (hl : e.f4.length ≤ 50000) (h : SmL e.f4) : SmE e := by
  obtain ⟨f0, f1, f2, f3, f4, f5⟩ := e
  simp only at hl h
  simp only [SmE]
  exact ⟨by omega, h⟩
theorem sm_empty {e : S24} (hl : e.f4.length = 0) : SmE e := sm_of (by omega) (by rw [List.eq_nil_of_length_eq_zero hl]; simp [SmL])
theorem size_in {l : List S24} {j : Nat} (hj : j < l.length) : SizeOf.sizeOf (rd_T24 l j).f4 < SizeOf.sizeOf l := by
  have e : rd_T24 l j = l[j] := by simp [rd_T24, List.getD, List.getElem?_eq_getElem hj]
  rw [e]
  have h1 := List.sizeOf_lt_of_mem (List.getElem_mem hj)
  generalize l[j] = x at h1 ⊢
  obtain ⟨f0, f1, f2, f3, f4, f5⟩ := x
  simp at h1 ⊢
  omega
theorem take_next {l : List S24} {j : Nat} (hj : j < l.length) : l.take (j + 1) = l.take j ++ [rd_T24 l j] := by
  have e : rd_T24 l j = l[j] := by simp [rd_T24, List.getD, List.getElem?_eq_getElem hj]
  rw [e, List.take_succ_eq_append_getElem hj]

theorem cell_keep {w w' : World} {g : Nat} {a : Addr} {v : Value} (hK : KeepBut w w' g none) (h : w.cell? a = some v) (ha : a.block ≠ g) : w'.cell? a = some v :=
  (World.cell?_of_block (hK.2 a.block (World.block_lt_of_cell? w a h) ha (by simp))).trans h

/-- 'add', told by cases. -/
theorem add_yes {g : Nat} {n k deep : Int} {w0 w : World} (hI : IsS35 w0 w g n) (hB : Below w0.heap.size w0 w) (hk : 0 ≤ n ∧ 0 ≤ k ∧ n + k ≤ 9000) (hd : deep ≤ 300) :
    Calls Try.prog 15 #[.pointer (some ⟨g, 0, none⟩), .int .i64 k, .int .i64 deep] w fun e w' => e = .returned (.bool true) ∧ IsS35 w0 w' g (n + k) ∧ Below w0.heap.size w0 w' ∧ KeepBut w w' g none := by
  refine spinetlaw10_scale_add.calls g n k deep true (n + k) w0 w hI hB ?_
  unfold spinetlaw10_scale_add.f
  rw [wrap_id _ (by omega) (by omega), if_pos (by omega), decide_eq_true hd]
theorem add_no {g : Nat} {n k deep : Int} {w0 w : World} (hI : IsS35 w0 w g n) (hB : Below w0.heap.size w0 w) (hk : 0 ≤ n ∧ 0 ≤ k ∧ n + k ≤ 9223372036854775807) (hd : ¬ (n + k ≤ 9000 ∧ deep ≤ 300)) :
    Calls Try.prog 15 #[.pointer (some ⟨g, 0, none⟩), .int .i64 k, .int .i64 deep] w fun e w' => e = .returned (.bool false) ∧ IsS35 w0 w' g (n + k) ∧ Below w0.heap.size w0 w' ∧ KeepBut w w' g none := by
  refine spinetlaw10_scale_add.calls g n k deep false (n + k) w0 w hI hB ?_
  unfold spinetlaw10_scale_add.f
  rw [wrap_id _ (by omega) (by omega)]
  split
  · rw [decide_eq_false (by omega)]
  · rfl

set_option maxHeartbeats 1000000 in
set_option maxRecDepth 100000 in
theorem exprs_any : ∀ (m : Nat) (l : List S24), SizeOf.sizeOf l ≤ m → ∀ (A : Option Addr) (c g : Nat) (n deep : Int) (w0 w : World), Kd.F k24 w (fun k => k ≠ g) A l.length l → l.length ≤ c → IsS35 w0 w g n → Below w0.heap.size w0 w →
    0 ≤ n ∧ n ≤ 9000 → 0 ≤ deep ∧ deep ≤ 301 → Calls Try.prog 14 #[.pointer (some ⟨g, 0, none⟩), .slice A l.length c, .int .i64 deep] w (ExPost w0 w g l) := by
  intro m
  induction m using Nat.strongRecOn with
  | _ m ih =>
  intro l hm A c g n deep w0 w hF hc hI hB hn hd
  have hmax := Kd.F_max hF
  by_cases hA : n + (1 + (l.length : Int) / 5) ≤ 9000 ∧ deep ≤ 300
  · go_enter Try.func14, Try.ntmps14
    go_wp2_with fail
    refine (add_yes hI hB ⟨hn.1, by omega, hA.1⟩ hA.2).mono ?_
    rintro e w1 ⟨rfl, hI1, hB1, hK1⟩
    go_wp2_with fail
    go_loopw [7] (fun i wr => ∃ (j : Nat) (q : Int), j ≤ l.length ∧ i = .int .i64 j ∧ IsS35 w0 wr g q ∧ Below w0.heap.size w0 wr ∧ KeepBut w wr g none ∧ 0 ≤ q ∧ q ≤ 9000 ∧ Aside0 (SmL (l.take j))) (fun i _ => l.length - (intOf i).toNat)
    case atStart => exact ⟨0, _, Nat.zero_le _, rfl, hI1, hB1, hK1, by omega, by omega, ⟨by simp [SmL]⟩⟩
    case round =>
      obtain ⟨j, q, hj, rfl, hIr, hBr, hKr, hq0, hq1, hS⟩ := hrel
      by_cases hlt : j < l.length
      · have hx : decide ((j : Int) < (l.length : Int)) = true := decide_eq_true (by omega)
        by_cases hq : q + 1 ≤ 9000
        · obtain ⟨ad, cs, rfl, hcl, hFK, hcells, hok⟩ := Kd.F_get hF z24 (j : Int) (by omega) (by omega)
          obtain ⟨A4, c4, rfl, hl4, hF4⟩ := k24_openF hFK
          have hin := size_in hlt
          have hrd : l.getD ((j : Int)).toNat z24 = rd_T24 l j := rfl
          rw [hrd] at hl4 hF4 hcells
          have hg : ad.block ≠ g := hok (by decide)
          go_wp2_with fail
          refine (add_yes hIr hBr ⟨hq0, by omega, hq⟩ hA.2).mono ?_
          rintro e w2 ⟨rfl, hI2, hB2, hK2⟩
          have hK := hKr.trans hK2 (.inl rfl)
          have h4 : w.cell? (ad.add (j * 6 + 4)) = some (.slice A4 (rd_T24 l j).f4.length c4) := hcells 4 _ rfl
          rw [add_field _ _ 4 (by omega)] at h4
          have h5 := cell_keep hK h4 (by simpa [add_block] using hg)
          clear h4 hcells
          have hF2 := Kd.F_keep hF4 hK (fun k hk => hk)
          by_cases hz : (rd_T24 l j).f4.length = 0
          · have hzb : ¬ 0 < (rd_T24 l j).f4.length := by omega
            have hS2 : Aside0 (SmL (l.take (j + 1))) := ⟨by rw [take_next hlt]; exact sm_snoc hS.out (sm_empty hz)⟩
            clear hz
            go_wp2_with fail
            go_roundw
            case rel => exact ⟨j + 1, q + 1, by omega, by go_num, hI2, hB2, hK, by omega, by omega, hS2⟩
            case measure => simp [intOf]; omega
          · have hzb : 0 < (rd_T24 l j).f4.length := by omega
            go_wp2_with fail
            refine (ih (SizeOf.sizeOf (rd_T24 l j).f4) (by omega) (rd_T24 l j).f4 (Nat.le_refl _) A4 c4 g (q + 1) (deep + 1) w0 w2 hF2 hl4 hI2 hB2 (by omega) (by omega)).mono ?_
            rintro e w3 ⟨b, n1, rfl, hI3, hB3, hK3, hb⟩
            cases b with
            | false =>
              go_wp2
              go_ret
              exact ⟨false, _, rfl, hI3, hB3, hK.trans hK3 (.inl rfl), fun h => by cases h⟩
            | true =>
              obtain ⟨hn0, hn1, hle, hsm⟩ := hb rfl
              have hS2 : Aside0 (SmL (l.take (j + 1))) := ⟨by rw [take_next hlt]; exact sm_snoc hS.out (sm_of hle hsm)⟩
              clear hb
              go_wp2
              go_roundw
              case rel => exact ⟨j + 1, n1, by omega, by go_num, hI3, hB3, hK.trans hK3 (.inl rfl), hn0, hn1, hS2⟩
              case measure => simp [intOf]; omega
        · go_wp2_with fail
          refine (add_no hIr hBr ⟨hq0, by omega, by omega⟩ (by omega)).mono ?_
          rintro e w2 ⟨rfl, hI2, hB2, hK2⟩
          go_wp2
          go_ret
          exact ⟨false, _, rfl, hI2, hB2, hKr.trans hK2 (.inl rfl), fun h => by cases h⟩
      · have hx : decide ((j : Int) < (l.length : Int)) = false := decide_eq_false (by omega)
        have hjl : j = l.length := by omega
        have hS2 : Aside0 (SmL l) := ⟨by have := hS.out; rwa [hjl, List.take_length] at this⟩
        clear hjl
        go_wp2
        go_ret
        exact ⟨true, _, rfl, hIr, hBr, hKr, fun _ => ⟨hq0, hq1, by omega, hS2.out⟩⟩
  · go_enter Try.func14, Try.ntmps14
    go_wp2_with fail
    refine (add_no hI hB ⟨hn.1, by omega, by omega⟩ hA).mono ?_
    rintro e w1 ⟨rfl, hI1, hB1, hK1⟩
    go_wp2
    go_ret
    exact ⟨false, _, rfl, hI1, hB1, hK1, fun h => by cases h⟩

/-- A block that holds elements one behind the other reads as these. -/
theorem C_blk {α : Type} (d : Kd α) (W : World) (b : Nat) (t : TypeId) (fr : Nat × Nat) {xs : List α} {cs : List Value} (hb : W.heap[b]? = some (.cells cs.toArray t fr)) (h : Reps (d.K W) d.sz xs cs) (hn : xs.length ≤ 9223372036854775807) :
    d.C W (some ⟨b, 0, none⟩) xs.length xs := by
  refine ⟨rfl, hn, fun _ => ⟨_, rfl, fun j p hj => ⟨(cs.drop (j * d.sz)).take d.sz, ?_, h.2 j p hj, fun i u hu => ?_⟩⟩⟩
  · have hjl := (List.getElem?_eq_some_iff.1 hj).1
    have h1 : j * d.sz + d.sz ≤ cs.length := by rw [h.1, ← Nat.succ_mul]; exact Nat.mul_le_mul_right _ hjl
    rw [List.length_take, List.length_drop]
    omega
  · rw [List.getElem?_take] at hu
    split at hu
    · rw [List.getElem?_drop] at hu
      rw [add_plain, cell_of_row _ _ _ _ t fr hb]
      simpa using hu
    · cases hu
/-- A list of one expression, made in a new block: it reads so whatever is done elsewhere. -/
theorem F_one {w W : World} {x : S24} {A : Option Addr} {c b : Nat} {ok : Nat → Prop} (hl : x.f4.length ≤ c) (hc : k24.C w A x.f4.length x.f4) (hB : Below w.heap.size w W)
    (hb : W.heap[b]? = some (.cells #[.int .i64 x.f0, .int .i64 x.f1, .string x.f2, .string x.f3, .slice A x.f4.length c, .int .i64 x.f5] 24 (0, 0))) (hok : ∀ k, k < w.heap.size ∨ k = b → ok k) :
    Kd.F k24 W ok (some ⟨b, 0, none⟩) [x].length [x] := fun W' hW => by
  have h1 : W'.heap[b]? = _ := (hW b (hok b (.inr rfl)) (blk_lt hb)).trans hb
  have h2 : k24.C W' A x.f4.length x.f4 := Kd.C_F k24_heap hc W' (fun k hk hk' => (hW k (hok k (.inl hk')) (Nat.lt_of_lt_of_le hk' hB.size)).trans (hB.block k hk'))
  exact C_blk k24 W' b 24 (0, 0) (cs := [.int .i64 x.f0, .int .i64 x.f1, .string x.f2, .string x.f3, .slice A x.f4.length c, .int .i64 x.f5]) h1 (Reps.snoc (Reps.none (k24.K W') 6) (k24_mk W' x hl h2) rfl) (by simp)

theorem heap_new2 (w : World) (a b c : Obj) : (((w.alloc a).alloc b).alloc c).heap[w.heap.size + 1 + 1]? = some c := by
  have h := heap_alloc_new ((w.alloc a).alloc b) c
  simp only [World.size_alloc] at h
  exact h
theorem heap_new1 (w : World) (a b c : Obj) : (((w.alloc a).alloc b).alloc c).heap[w.heap.size + 1]? = some b := by
  have h := heap_alloc_new (w.alloc a) b
  simp only [World.size_alloc] at h
  exact (heap_alloc_old _ _ (by simp)).trans h
def LargePost (w : World) (x : S24) (e : Ending) (w' : World) : Prop := ∃ b : Bool, e = .returned (.bool b) ∧ Below w.heap.size w w' ∧ (b = false → SmE x)

set_option maxHeartbeats 1000000 in
set_option maxRecDepth 100000 in
theorem large_any (x : S24) (v : Value) (w : World) (h : Rep w x v) : Calls Try.prog 6 #[v] w (LargePost w x) := by
  obtain ⟨A, c, rfl, hl, hc⟩ := h
  go_enter Try.func6, Try.ntmps6
  go_wp2_with fail
  have hB := below_alloc (below_alloc (below_alloc (Below.refl w.heap.size w) (.cells #[.int .i64 x.f0, .int .i64 x.f1, .string x.f2, .string x.f3, .slice A x.f4.length c, .int .i64 x.f5] 24)) (.cells #[.int .i64 0] 35)) (.cells #[.int .i64 x.f0, .int .i64 x.f1, .string x.f2, .string x.f3, .slice A x.f4.length c, .int .i64 x.f5] 24)
  refine (exprs_any _ [x] (Nat.le_refl _) _ 1 (w.heap.size + 1) 0 1 w _ (F_one hl hc hB (heap_new2 w _ _ _) (fun k hk => by omega)) (Nat.le_refl _) ⟨heap_new1 w _ _ _, by omega⟩ hB (by decide) (by decide)).mono ?_
  rintro e w1 ⟨b, n1, rfl, _, hB1, _, hb⟩
  go_wp2
  go_ret
  refine ⟨!b, rfl, hB1, fun h => ?_⟩
  have hb2 := (hb (by simpa using h)).2.2.2
  simp only [SmL] at hb2
  exact hb2.1

end Go.Proofs.Ythhefcdbakcdfaa.PNeedTells
