import Derived.Test.YtchkimmhallckaaScV
import Derived.Test.YtchkimmhallckaaScFull
namespace Go.Proofs.Ytchkimmhallckaa.Sc
open Go.RowKit Go.Maps Go.WideMaps Go.Proofs.Ytchkimmhallckaa
open Go.Proofs.YtchkimmhallckaaW.PrintWords Go.Proofs.YtchkimmhallckaaW.PrintLast Go.Proofs.YtchkimmhallckaaW.PrintMore
set_option linter.unusedVariables false
set_option linter.unusedSimpArgs false

theorem findV_tup (r : Option (Int × Nat)) : findV r = .tuple #[.int .i64 ((r.map (·.1)).getD 0), .int .i64 (((r.map (·.2)).getD 0 : Nat) : Int), .bool r.isSome] := rfl

structure Stp where
  kind : Int
  name : ByteArray
  n : Int

/-- a row of steps, as it is read -/
def StepsC (w : World) (A : Option Addr) (l : List Stp) : Prop := 0 < l.length → ∃ ad, A = some ad ∧ ad.block < w.heap.size ∧ ∀ (j : Nat) (hj : j < l.length),
  w.cell? (ad.add (j * 3)) = some (.int .i64 (l[j]).kind) ∧ w.cell? ⟨(ad.add (j * 3)).block, (ad.add (j * 3)).off + 1, none⟩ = some (.string (l[j]).name) ∧ w.cell? ⟨(ad.add (j * 3)).block, (ad.add (j * 3)).off + 2, none⟩ = some (.int .i64 (l[j]).n)

theorem StepsC.below {w w1 : World} {A : Option Addr} {l : List Stp} (h : StepsC w A l) (hb : Below w.heap.size w w1) : StepsC w1 A l := fun hn => by
  obtain ⟨ad, rfl, hlt, hc⟩ := h hn
  have e : ∀ j, (ad.add j).block = ad.block := fun j => by unfold Addr.add; split <;> rfl
  refine ⟨ad, rfl, Nat.lt_of_lt_of_le hlt hb.size, fun j hj => ?_⟩
  obtain ⟨h0, h1, h2⟩ := hc j hj
  exact ⟨by rw [hb.cell (by rw [e]; exact hlt)]; exact h0, by rw [hb.cell (by show (ad.add (j * 3)).block < _; rw [e]; exact hlt)]; exact h1, by rw [hb.cell (by show (ad.add (j * 3)).block < _; rw [e]; exact hlt)]; exact h2⟩

/-- the step that is played lies in its own block -/
def XB (w : World) (b : Nat) (x : Stp) : Prop := w.heap[b]? = some (.cells #[.int .i64 x.kind, .string x.name, .int .i64 x.n] 36 (0, 0))
theorem XB.c1 {w : World} {b : Nat} {x : Stp} (h : XB w b x) : w.cell? ⟨b, 1, none⟩ = some (.string x.name) := by
  rw [cell_at h]; rfl
theorem XB.c2 {w : World} {b : Nat} {x : Stp} (h : XB w b x) : w.cell? ⟨b, 2, none⟩ = some (.int .i64 x.n) := by
  rw [cell_at h]; rfl
theorem XB.c0 {w : World} {b : Nat} {x : Stp} (h : XB w b x) : w.cell? ⟨b, 0, none⟩ = some (.int .i64 x.kind) := by
  rw [cell_at h]; rfl

def HeldX (b : Nat) (x : Stp) (w' : World) : Prop := w'.cell? ⟨b, 1, none⟩ = some (.string x.name) ∧ w'.cell? ⟨b, 2, none⟩ = some (.int .i64 x.n)

structure Rnd (w0 : World) (q : Nat) (b : Nat) (x : Stp) (Ss Sq : List Lvl) (N : Nat) (w : World) : Prop where
  both : Both w0 (fun k => k = b) w0.heap.size q Ss Sq N w
  xb : XB w b x

theorem Rnd.heldX {w0 w : World} {q b : Nat} {x : Stp} {Ss Sq : List Lvl} {N : Nat} (h : Rnd w0 q b x Ss Sq N w) : HeldX b x w := ⟨h.xb.c1, h.xb.c2⟩

theorem Rnd.on {w0 w w' : World} {q b : Nat} {x : Stp} {Ss Sq Ss' Sq' : List Lvl} {N N' : Nat} (h : Rnd w0 q b x Ss Sq N w) (o : Both w0 (fun k => k = b) w0.heap.size q Ss' Sq' N' w' ∧ Others (fun k => k = b) w w') : Rnd w0 q b x Ss' Sq' N' w' :=
  ⟨o.1, (o.2 b rfl).trans h.xb⟩

set_option maxHeartbeats 8000000 in
set_option maxRecDepth 100000 in
theorem plays_calls (w : World) (A : Option Addr) (c : Nat) (a : List Stp) (ha : StepsC w A a) (hn : ∀ x ∈ a, (Lit.int .i64 x.n).wf = true) :
    Calls Try.prog 4 #[.slice A a.length c] w fun e w' => e = .returned (.bool true) ∧ Below w.heap.size w w' := by
  have HN := Aside0.mk hn
  clear hn
  go_enter Try.func4, Try.ntmps4
  go_wp2_with fail
  refine (new_calls w).mono ?_
  rintro e w1 ⟨rfl, h1, b1⟩
  go_wp2_with fail
  refine (new_ref w1).mono ?_
  rintro e w2 ⟨q, rfl, h2, b2⟩
  have o2 := Aside0.mk (Both.start h1 b1 h2 b2)
  clear h1 b1 h2 b2
  go_wp2_with fail
  go_loopw [5] (fun i wr => ∃ (j N : Nat) (St : List Lvl), j ≤ a.length ∧ j ≤ 200 ∧ i = .int .i64 j ∧ N ≤ 300 * j ∧ Aside0 (Both w (fun _ => False) w.heap.size q St St N wr)) (fun i _ => a.length - (intOf i).toNat)
  case atStart => exact ⟨0, 0, _, Nat.zero_le _, Nat.zero_le _, rfl, Nat.zero_le _, o2⟩
  case round =>
    clear o2
    obtain ⟨wo, rfl⟩ : ∃ wo : World, wo = wr := ⟨_, rfl⟩
    obtain ⟨j, N, St, hj, hj2, rfl, hN, HB⟩ := hrel
    obtain ⟨T, l, hTl⟩ := snoc_of (rs := St) (n := St.length - 1) (by have := HB.out.facts.1; omega)
    have hTd : T.length < 64 := by have := HB.out.facts.2.1; rw [hTl] at this; simp at this; omega
    have hlm : l.length ≤ 256 := HB.out.facts.2.2 l (by rw [hTl]; simp)
    subst hTl
    by_cases hlt : j < a.length ∧ j < 200
    · obtain ⟨hlt, h200⟩ := hlt
      have hx : decide ((j : Int) < (a.length : Int)) = true := decide_eq_true (by omega)
      have hx2 : decide ((j : Int) < 200) = true := decide_eq_true (by omega)
      obtain ⟨ad, rfl, _, hc⟩ := (ha.below HB.out.below) (by omega)
      obtain ⟨p0, p1, p2⟩ := hc j hlt
      clear hc
      have hin := size_in hlt
      have hwf := Aside0.mk (HN.out _ (List.getElem_mem hlt))
      generalize a[j] = x at p0 p1 p2 hwf
      by_cases hz : x.name.size ≤ 5000
      · have hz1 : decide ((x.name.size : Int) > 5000) = false := decide_eq_false (by omega)
        have H0 : Aside0 (Rnd w q wo.heap.size x (T ++ [l]) (T ++ [l]) N (wo.alloc (.cells #[.int .i64 x.kind, .string x.name, .int .i64 x.n] 36))) := ⟨⟨HB.out.box _, heap_alloc_new _ _⟩⟩
        obtain ⟨bx, hbx⟩ : ∃ bx, bx = wo.heap.size := ⟨_, rfl⟩
        by_cases k0 : x.kind = 0
        · have e0 : decide (x.kind = 0) = true := decide_eq_true k0
          have e0' : (x.kind == 0) = true := by simp [k0]
          clear k0
          obtain ⟨v, hv⟩ : ∃ v : Int, (if (T ++ [l]).length < 64 then (0 : Int) else 4) = v := ⟨_, rfl⟩
          go_wp2_with fail
          refine (Bs_open H0.out.both).mono ?_
          rintro e w3 ⟨rfl, o3⟩
          have H1 := Aside0.mk (H0.out.on o3)
          clear o3
          rw [hv]
          go_wp2_with fail
          refine (Bq_open H1.out.both (by simp; omega)).mono ?_
          rintro e w4 ⟨rfl, o4⟩
          have H2 := Aside0.mk (H1.out.on o4)
          clear o4
          generalize (if (T ++ [l]).length < 64 then (T ++ [l]) ++ [[]] else (T ++ [l])) = St2 at H2
          rw [hv]
          clear hv
          have x1 := H2.out.xb.c1
          have hzm : x.name.size ≤ maxLen := by unfold maxLen; omega
          obtain ⟨n1, hn1⟩ : ∃ n1, ((find St2 x.name).map (·.1)).getD 0 = n1 := ⟨_, rfl⟩
          obtain ⟨n2, hn2⟩ : ∃ n2 : Int, ((((find St2 x.name).map (·.2)).getD 0 : Nat) : Int) = n2 := ⟨_, rfl⟩
          obtain ⟨b1, hb1⟩ : ∃ b1, (find St2 x.name).isSome = b1 := ⟨_, rfl⟩
          go_wp2_with fail
          refine (Bs_find H2.out.both x.name hzm).mono ?_
          rintro e wf ⟨rfl, ef⟩
          subst ef
          rw [findV_tup, hn1, hn2, hb1]
          go_wp2_with fail
          refine (Bq_find H2.out.both x.name).mono ?_
          rintro e wg ⟨rfl, og⟩
          have HG := Aside0.mk (H2.out.on og)
          clear og x1
          rw [findV_tup, hn1, hn2, hb1]
          clear hn1 hn2 hb1
          go_wp2_with fail
          refine (Bs_depth HG.out.both).mono ?_
          rintro e wh ⟨rfl, eh⟩
          subst eh
          go_wp2_with fail
          refine (Bq_depth HG.out.both).mono ?_
          rintro e wi ⟨rfl, ei⟩
          subst ei
          go_wp2
          go_roundw
          case rel => exact ⟨j + 1, N, St2, by omega, by omega, by go_num, by omega, ⟨HG.out.both.drop⟩⟩
          case measure => simp [intOf]; omega
        · have e0 : decide (x.kind = 0) = false := decide_eq_false k0
          have e0' : (x.kind == 0) = false := by simp [k0]
          by_cases k1 : x.kind = 1
          · have e1 : decide (x.kind = 1) = true := decide_eq_true k1
            have e1' : (x.kind == 1) = true := by simp [k1]
            clear k0 k1
            obtain ⟨v, hv⟩ : ∃ v : Bool, decide (T ≠ []) = v := ⟨_, rfl⟩
            go_wp2_with fail
            refine (Bs_close H0.out.both).mono ?_
            rintro e w3 ⟨rfl, o3⟩
            have H1 := Aside0.mk (H0.out.on o3)
            clear o3
            rw [hv]
            go_wp2_with fail
            refine (Bq_close H1.out.both hTd).mono ?_
            rintro e w4 ⟨rfl, o4⟩
            have H2 := Aside0.mk (H1.out.on o4)
            clear o4
            generalize (if T = [] then T ++ [l] else T) = St2 at H2
            rw [hv]
            clear hv
            have x1 := H2.out.xb.c1
            have hzm : x.name.size ≤ maxLen := by unfold maxLen; omega
            obtain ⟨n1, hn1⟩ : ∃ n1, ((find St2 x.name).map (·.1)).getD 0 = n1 := ⟨_, rfl⟩
            obtain ⟨n2, hn2⟩ : ∃ n2 : Int, ((((find St2 x.name).map (·.2)).getD 0 : Nat) : Int) = n2 := ⟨_, rfl⟩
            obtain ⟨b1, hb1⟩ : ∃ b1, (find St2 x.name).isSome = b1 := ⟨_, rfl⟩
            go_wp2_with fail
            refine (Bs_find H2.out.both x.name hzm).mono ?_
            rintro e wf ⟨rfl, ef⟩
            subst ef
            rw [findV_tup, hn1, hn2, hb1]
            go_wp2_with fail
            refine (Bq_find H2.out.both x.name).mono ?_
            rintro e wg ⟨rfl, og⟩
            have HG := Aside0.mk (H2.out.on og)
            clear og x1
            rw [findV_tup, hn1, hn2, hb1]
            clear hn1 hn2 hb1
            go_wp2_with fail
            refine (Bs_depth HG.out.both).mono ?_
            rintro e wh ⟨rfl, eh⟩
            subst eh
            go_wp2_with fail
            refine (Bq_depth HG.out.both).mono ?_
            rintro e wi ⟨rfl, ei⟩
            subst ei
            go_wp2
            go_roundw
            case rel => exact ⟨j + 1, N, St2, by omega, by omega, by go_num, by omega, ⟨HG.out.both.drop⟩⟩
            case measure => simp [intOf]; omega
          · have e1 : decide (x.kind = 1) = false := decide_eq_false k1
            have e1' : (x.kind == 1) = false := by simp [k1]
            by_cases k2 : x.kind = 2
            · have e2 : decide (x.kind = 2) = true := decide_eq_true k2
              have e2' : (x.kind == 2) = true := by simp [k2]
              clear k0 k1 k2
              have H0d := Aside0.mk (H0.out.on (H0.out.both.on (below_drew (Below.refl _ _))))
              have hzm : x.name.size ≤ maxLen := by unfold maxLen; omega
              have hNm : N < maxLen := by unfold maxLen; omega
              obtain ⟨v, hv⟩ : ∃ v : Int, declC l x.name = v := ⟨_, rfl⟩
              go_wp2_with fail
              refine start_ (n := 13) (S := HeldX wo.heap.size x) (ds := []) #[false, false, false, false, false, false, false, false, false, false, false, false, false] (by kernel_rfl) rfl rfl (H0d.out.heldX) (fun hHeld => ?_)
              generalize hw3 : World.drew _ = w3 at H0d hHeld ⊢
              clear hw3
              refine pure_ (i := 0) (N := some 54) (v := ?_) (a' := ?_) #[true, false, false, false, false, false, false, false, false, false, false, false, false] rfl rfl (by kernel_rfl) (fun _ _ _ h => h) (Or.inl ⟨by rfl, ?_⟩) ?_ ?_
              rotate_left
              · intro w'; go_simp; try with_reducible rfl
              rotate_left
              · simp only [Act.put, List.setIfInBounds_toArray, List.set_cons_zero, List.set_cons_succ]; rfl
              refine pure_ (i := 1) (N := some 55) (v := ?_) (a' := ?_) #[true, true, false, false, false, false, false, false, false, false, false, false, false] rfl rfl (by kernel_rfl) (fun _ _ _ h => h) (Or.inl ⟨by rfl, ?_⟩) ?_ ?_
              rotate_left
              · intro w'; go_simp; try with_reducible rfl
              rotate_left
              · simp only [Act.put, List.setIfInBounds_toArray, List.set_cons_zero, List.set_cons_succ]; rfl
              refine pure_ (i := 3) (N := some 57) (v := ?_) (a' := ?_) #[true, true, false, true, false, false, false, false, false, false, false, false, false] rfl rfl (by kernel_rfl) (fun _ _ _ h => h) (Or.inl ⟨by rfl, ?_⟩) ?_ ?_
              rotate_left
              · intro w'; go_simp; try with_reducible rfl
              rotate_left
              · simp only [Act.put, List.setIfInBounds_toArray, List.set_cons_zero, List.set_cons_succ]; rfl
              refine pure_ (i := 6) (N := some 60) (v := ?_) (a' := ?_) #[true, true, false, true, false, false, true, false, false, false, false, false, false] rfl rfl (by kernel_rfl) (fun _ _ _ h => h) (Or.inl ⟨by rfl, ?_⟩) ?_ ?_
              rotate_left
              · intro w'; go_simp; try with_reducible rfl
              rotate_left
              · simp only [Act.put, List.setIfInBounds_toArray, List.set_cons_zero, List.set_cons_succ]; rfl
              refine pure_ (i := 7) (N := some 61) (v := ?_) (a' := ?_) #[true, true, false, true, false, false, true, true, false, false, false, false, false] rfl rfl (by kernel_rfl) (fun _ _ _ h => h) (Or.inl ⟨by rfl, ?_⟩) ?_ ?_
              rotate_left
              · intro w'; go_simp; try with_reducible rfl
              rotate_left
              · simp only [Act.put, List.setIfInBounds_toArray, List.set_cons_zero, List.set_cons_succ]; rfl
              refine pure_ (i := 9) (N := some 63) (v := ?_) (a' := ?_) #[true, true, false, true, false, false, true, true, false, true, false, false, false] rfl rfl (by kernel_rfl) (fun _ _ _ h => h) (Or.inl ⟨by rfl, ?_⟩) ?_ ?_
              rotate_left
              · intro w'; go_simp; try with_reducible rfl
              rotate_left
              · simp only [Act.put, List.setIfInBounds_toArray, List.set_cons_zero, List.set_cons_succ]; rfl
              refine take_ (i := 2) (N := some 56) (v := ?_) (a' := ?_) #[true, true, true, true, false, false, true, true, false, true, false, false, false] rfl rfl (by kernel_rfl) (fun _ _ _ h => h) (Or.inl ⟨by rfl, ?_⟩) hHeld ?_ ?_
              rotate_left
              · intro w' hSw; obtain ⟨s1, s2⟩ := hSw; go_simp; try with_reducible rfl
              rotate_left
              · simp only [Act.put, List.setIfInBounds_toArray, List.set_cons_zero, List.set_cons_succ]; rfl
              refine take_ (i := 4) (N := some 58) (v := ?_) (a' := ?_) #[true, true, true, true, true, false, true, true, false, true, false, false, false] rfl rfl (by kernel_rfl) (fun _ _ _ h => h) (Or.inl ⟨by rfl, ?_⟩) hHeld ?_ ?_
              rotate_left
              · intro w' hSw; obtain ⟨s1, s2⟩ := hSw; go_simp; try with_reducible rfl
              rotate_left
              · simp only [Act.put, List.setIfInBounds_toArray, List.set_cons_zero, List.set_cons_succ]; rfl
              refine take_ (i := 8) (N := some 62) (v := ?_) (a' := ?_) #[true, true, true, true, true, false, true, true, true, true, false, false, false] rfl rfl (by kernel_rfl) (fun _ _ _ h => h) (Or.inl ⟨by rfl, ?_⟩) hHeld ?_ ?_
              rotate_left
              · intro w' hSw; obtain ⟨s1, s2⟩ := hSw; go_simp; try with_reducible rfl
              rotate_left
              · simp only [Act.put, List.setIfInBounds_toArray, List.set_cons_zero, List.set_cons_succ]; rfl
              refine take_ (i := 10) (N := some 64) (v := ?_) (a' := ?_) #[true, true, true, true, true, false, true, true, true, true, true, false, false] rfl rfl (by kernel_rfl) (fun _ _ _ h => h) (Or.inl ⟨by rfl, ?_⟩) hHeld ?_ ?_
              rotate_left
              · intro w' hSw; obtain ⟨s1, s2⟩ := hSw; go_simp; try with_reducible rfl
              rotate_left
              · simp only [Act.put, List.setIfInBounds_toArray, List.set_cons_zero, List.set_cons_succ]; rfl
              refine one_ (i := 5) (N := some 59) #[true, true, true, true, true, true, true, true, true, true, true, false, false] rfl rfl (by kernel_rfl) (by decide) (fun K hK => ?_)
              refine goes_ Try.func9 (by kernel_rfl) rfl #[.pointer (some ⟨w.heap.size, 0, none⟩), .string x.name, .int .i64 x.n] (by rfl) rfl rfl (by (try simp only [List.map_toArray, List.map_cons, List.map_nil]); first | done | rfl) ?_
              refine (Bs_decl H0d.out.both x.name x.n hzm hwf.out hNm).mono ?_
              rintro e w4 ⟨rfl, o4⟩
              have H1 := Aside0.mk (H0d.out.on o4)
              clear o4
              rw [hv]
              refine ⟨_, rfl, ?_⟩
              refine hK.out _ _ (H1.out.heldX) (fun hHeld => ?_)
              clear hK K
              refine norm_ (a' := ?_) ?_ ?_
              rotate_left
              · show Act.put _ (some 59) (.int .i64 v) = _; first | (simp only [Act.put, List.setIfInBounds_toArray, List.set_cons_zero, List.set_cons_succ]; rfl) | rfl
              refine one_ (i := 11) (N := some 65) #[true, true, true, true, true, true, true, true, true, true, true, true, false] rfl rfl (by kernel_rfl) (by decide) (fun K hK => ?_)
              refine goes_ Try.func18 (by kernel_rfl) rfl #[.pointer (some ⟨q, 0, none⟩), .string x.name, .int .i64 x.n] (by rfl) rfl rfl (by (try simp only [List.map_toArray, List.map_cons, List.map_nil]); first | done | rfl) ?_
              refine (Bq_decl H1.out.both hTd hlm x.name x.n).mono ?_
              rintro e w5 ⟨rfl, o5⟩
              have H2 := Aside0.mk (H1.out.on o5)
              clear o5
              rw [hv]
              refine ⟨_, rfl, ?_⟩
              refine hK.out _ _ (H2.out.heldX) (fun hHeld => ?_)
              clear hK K
              refine norm_ (a' := ?_) ?_ ?_
              rotate_left
              · show Act.put _ (some 65) (.int .i64 v) = _; first | (simp only [Act.put, List.setIfInBounds_toArray, List.set_cons_zero, List.set_cons_succ]; rfl) | rfl
              refine pure_ (i := 12) (N := some 66) (v := ?_) (a' := ?_) #[true, true, true, true, true, true, true, true, true, true, true, true, true] rfl rfl (by kernel_rfl) (fun _ _ _ h => h) (Or.inl ⟨by rfl, ?_⟩) ?_ ?_
              rotate_left
              · intro w'; go_simp; try with_reducible rfl
              rotate_left
              · simp only [Act.put, List.setIfInBounds_toArray, List.set_cons_zero, List.set_cons_succ]; rfl
              refine done_ (by kernel_rfl) ?_
              generalize (T ++ [declL l x.name x.n]) = St2 at H2
              have x1 := H2.out.xb.c1
              have hzm : x.name.size ≤ maxLen := by unfold maxLen; omega
              obtain ⟨n1, hn1⟩ : ∃ n1, ((find St2 x.name).map (·.1)).getD 0 = n1 := ⟨_, rfl⟩
              obtain ⟨n2, hn2⟩ : ∃ n2 : Int, ((((find St2 x.name).map (·.2)).getD 0 : Nat) : Int) = n2 := ⟨_, rfl⟩
              obtain ⟨b1, hb1⟩ : ∃ b1, (find St2 x.name).isSome = b1 := ⟨_, rfl⟩
              go_wp2_with fail
              refine (Bs_find H2.out.both x.name hzm).mono ?_
              rintro e wf ⟨rfl, ef⟩
              subst ef
              rw [findV_tup, hn1, hn2, hb1]
              go_wp2_with fail
              refine (Bq_find H2.out.both x.name).mono ?_
              rintro e wg ⟨rfl, og⟩
              have HG := Aside0.mk (H2.out.on og)
              clear og x1
              rw [findV_tup, hn1, hn2, hb1]
              clear hn1 hn2 hb1
              go_wp2_with fail
              refine (Bs_depth HG.out.both).mono ?_
              rintro e wh ⟨rfl, eh⟩
              subst eh
              go_wp2_with fail
              refine (Bq_depth HG.out.both).mono ?_
              rintro e wi ⟨rfl, ei⟩
              subst ei
              go_wp2
              go_roundw
              case rel => exact ⟨j + 1, N + 1, St2, by omega, by omega, by go_num, by omega, ⟨HG.out.both.drop⟩⟩
              case measure => simp [intOf]; omega
            · have e2 : decide (x.kind = 2) = false := decide_eq_false k2
              have e2' : (x.kind == 2) = false := by simp [k2]
              by_cases k4 : x.kind = 4
              · have e4 : decide (x.kind = 4) = true := decide_eq_true k4
                have e4' : (x.kind == 4) = true := by simp [k4]
                clear k0 k1 k2 k4
                go_wp2_with fail
                go_loopw [7] (fun i wx => ∃ (k N2 : Nat) (l2 : Lvl), k ≤ 260 ∧ i = .int .i64 k ∧ N2 ≤ 300 * j + k ∧ l2.length ≤ 256 ∧ Aside0 (Rnd w q wo.heap.size x (T ++ [l2]) (T ++ [l2]) N2 wx)) (fun i _ => 260 - (intOf i).toNat)
                case atStart => exact ⟨0, N, l, by omega, rfl, by omega, hlm, H0⟩
                case round =>
                  clear H0
                  obtain ⟨k, N2, l2, hk, rfl, hN2, hl2, H0⟩ := hrel
                  have y2 := H0.out.xb.c2
                  by_cases hkn : (k : Int) < x.n ∧ k < 260
                  · obtain ⟨hkn, hk260⟩ := hkn
                    have c1 : decide ((k : Int) < x.n) = true := decide_eq_true hkn
                    have c2 : decide ((k : Int) < 260) = true := decide_eq_true (by omega)
                    obtain ⟨v, hv⟩ : ∃ v : Int, declC l2 (madeN k) = v := ⟨_, rfl⟩
                    go_wp2_with fail
                    refine (made_calls k _).mono ?_
                    rintro e w3 ⟨rfl, b3⟩
                    have H1 := Aside0.mk (H0.out.on (H0.out.both.on b3))
                    clear y2 b3
                    go_wp2_with fail
                    refine (Bs_decl H1.out.both (madeN k) _ (by rw [madeN_size]; unfold maxLen; omega) (wf_small (by omega) (by omega)) (by unfold maxLen; omega)).mono ?_
                    rintro e w4 ⟨rfl, o4⟩
                    have H2 := Aside0.mk (H1.out.on o4)
                    clear o4
                    rw [hv]
                    go_wp2_with fail
                    refine (made_calls k _).mono ?_
                    rintro e w5 ⟨rfl, b5⟩
                    have H3 := Aside0.mk (H2.out.on (H2.out.both.on b5))
                    clear b5
                    go_wp2_with fail
                    refine (Bq_decl H3.out.both hTd hl2 (madeN k) _).mono ?_
                    rintro e w6 ⟨rfl, o6⟩
                    have H4 := Aside0.mk (H3.out.on o6)
                    clear o6
                    rw [hv]
                    have hl3 : (declL l2 (madeN k) (k : Int)).length ≤ 256 := H4.out.both.facts.2.2 _ (by simp)
                    go_wp2
                    go_roundw
                    case rel => exact ⟨k + 1, N2 + 1, _, by omega, by go_num, by omega, hl3, H4⟩
                    case measure => simp [intOf]; omega
                  · have hdis : decide ((k : Int) < x.n) = false ∨ (decide ((k : Int) < x.n) = true ∧ decide ((k : Int) < 260) = false) := by
                      by_cases h1 : (k : Int) < x.n
                      · exact .inr ⟨decide_eq_true h1, decide_eq_false (by omega)⟩
                      · exact .inl (decide_eq_false h1)
                    generalize (T ++ [l2]) = St2 at H0
                    rcases hdis with c1 | ⟨c1, c2⟩
                    · skip
                      have x1 := H0.out.xb.c1
                      have hzm : x.name.size ≤ maxLen := by unfold maxLen; omega
                      obtain ⟨n1, hn1⟩ : ∃ n1, ((find St2 x.name).map (·.1)).getD 0 = n1 := ⟨_, rfl⟩
                      obtain ⟨n2, hn2⟩ : ∃ n2 : Int, ((((find St2 x.name).map (·.2)).getD 0 : Nat) : Int) = n2 := ⟨_, rfl⟩
                      obtain ⟨b1, hb1⟩ : ∃ b1, (find St2 x.name).isSome = b1 := ⟨_, rfl⟩
                      go_wp2_with fail
                      refine (Bs_find H0.out.both x.name hzm).mono ?_
                      rintro e wf ⟨rfl, ef⟩
                      subst ef
                      rw [findV_tup, hn1, hn2, hb1]
                      go_wp2_with fail
                      refine (Bq_find H0.out.both x.name).mono ?_
                      rintro e wg ⟨rfl, og⟩
                      have HG := Aside0.mk (H0.out.on og)
                      clear og x1
                      rw [findV_tup, hn1, hn2, hb1]
                      clear hn1 hn2 hb1
                      go_wp2_with fail
                      refine (Bs_depth HG.out.both).mono ?_
                      rintro e wh ⟨rfl, eh⟩
                      subst eh
                      go_wp2_with fail
                      refine (Bq_depth HG.out.both).mono ?_
                      rintro e wi ⟨rfl, ei⟩
                      subst ei
                      go_wp2
                      go_roundw
                      case rel => exact ⟨j + 1, N2, St2, by omega, by omega, by go_num, by omega, ⟨HG.out.both.drop⟩⟩
                      case measure => simp [intOf]; omega
                    · skip
                      have x1 := H0.out.xb.c1
                      have hzm : x.name.size ≤ maxLen := by unfold maxLen; omega
                      obtain ⟨n1, hn1⟩ : ∃ n1, ((find St2 x.name).map (·.1)).getD 0 = n1 := ⟨_, rfl⟩
                      obtain ⟨n2, hn2⟩ : ∃ n2 : Int, ((((find St2 x.name).map (·.2)).getD 0 : Nat) : Int) = n2 := ⟨_, rfl⟩
                      obtain ⟨b1, hb1⟩ : ∃ b1, (find St2 x.name).isSome = b1 := ⟨_, rfl⟩
                      go_wp2_with fail
                      refine (Bs_find H0.out.both x.name hzm).mono ?_
                      rintro e wf ⟨rfl, ef⟩
                      subst ef
                      rw [findV_tup, hn1, hn2, hb1]
                      go_wp2_with fail
                      refine (Bq_find H0.out.both x.name).mono ?_
                      rintro e wg ⟨rfl, og⟩
                      have HG := Aside0.mk (H0.out.on og)
                      clear og x1
                      rw [findV_tup, hn1, hn2, hb1]
                      clear hn1 hn2 hb1
                      go_wp2_with fail
                      refine (Bs_depth HG.out.both).mono ?_
                      rintro e wh ⟨rfl, eh⟩
                      subst eh
                      go_wp2_with fail
                      refine (Bq_depth HG.out.both).mono ?_
                      rintro e wi ⟨rfl, ei⟩
                      subst ei
                      go_wp2
                      go_roundw
                      case rel => exact ⟨j + 1, N2, St2, by omega, by omega, by go_num, by omega, ⟨HG.out.both.drop⟩⟩
                      case measure => simp [intOf]; omega
              · have e4 : decide (x.kind = 4) = false := decide_eq_false k4
                have e4' : (x.kind == 4) = false := by simp [k4]
                clear k0 k1 k2 k4
                generalize (T ++ [l]) = St2 at H0
                have x1 := H0.out.xb.c1
                have hzm : x.name.size ≤ maxLen := by unfold maxLen; omega
                obtain ⟨n1, hn1⟩ : ∃ n1, ((find St2 x.name).map (·.1)).getD 0 = n1 := ⟨_, rfl⟩
                obtain ⟨n2, hn2⟩ : ∃ n2 : Int, ((((find St2 x.name).map (·.2)).getD 0 : Nat) : Int) = n2 := ⟨_, rfl⟩
                obtain ⟨b1, hb1⟩ : ∃ b1, (find St2 x.name).isSome = b1 := ⟨_, rfl⟩
                go_wp2_with fail
                refine (Bs_find H0.out.both x.name hzm).mono ?_
                rintro e wf ⟨rfl, ef⟩
                subst ef
                rw [findV_tup, hn1, hn2, hb1]
                go_wp2_with fail
                refine (Bq_find H0.out.both x.name).mono ?_
                rintro e wg ⟨rfl, og⟩
                have HG := Aside0.mk (H0.out.on og)
                clear og x1
                rw [findV_tup, hn1, hn2, hb1]
                clear hn1 hn2 hb1
                go_wp2_with fail
                refine (Bs_depth HG.out.both).mono ?_
                rintro e wh ⟨rfl, eh⟩
                subst eh
                go_wp2_with fail
                refine (Bq_depth HG.out.both).mono ?_
                rintro e wi ⟨rfl, ei⟩
                subst ei
                go_wp2
                go_roundw
                case rel => exact ⟨j + 1, N, St2, by omega, by omega, by go_num, by omega, ⟨HG.out.both.drop⟩⟩
                case measure => simp [intOf]; omega
      · have hz1 : decide ((x.name.size : Int) > 5000) = true := decide_eq_true (by omega)
        go_wp2
        go_roundw
        case rel => exact ⟨j + 1, N, _, by omega, by omega, by go_num, by omega, ⟨(HB.out.on (below_alloc (Below.refl _ _) _)).1⟩⟩
        case measure => simp [intOf]; omega
    · have hdis : decide ((j : Int) < (a.length : Int)) = false ∨ (decide ((j : Int) < (a.length : Int)) = true ∧ decide ((j : Int) < 200) = false) := by
        by_cases h1 : j < a.length
        · exact .inr ⟨decide_eq_true (by omega), decide_eq_false (by omega)⟩
        · exact .inl (decide_eq_false (by omega))
      rcases hdis with c1 | ⟨c1, c2⟩
      all_goals go_wp2_with fail
      all_goals
        refine (Bs_here HB.out).mono ?_
        rintro e w3 ⟨A3, C3, rfl, ho3, hat3, b3⟩
        obtain ⟨H1, _⟩ := HB.out.on b3
        go_wp2_with fail
        refine (Bq_here H1).mono ?_
        rintro e w4 ⟨A4, C4, rfl, ho4, hat4, b4⟩
        obtain ⟨H2, _⟩ := H1.on b4
        have ho3' := own_keep ho3 (fun b e => b4.block b (own_lt ho3 b e))
        clear ho3
        go_wp2_with fail
        refine (texts_calls ho3' ho4 (by omega)).mono ?_
        rintro e w5 ⟨rfl, d5⟩
        obtain ⟨H3, _⟩ := H2.on (drawn_kp d5)
        go_wp2_with fail
        refine (wakes_calls _).mono ?_
        rintro e w6 ⟨rfl, b6⟩
        go_wp2
        go_ret
        exact ⟨rfl, (H3.on b6).1.below⟩
end Go.Proofs.Ytchkimmhallckaa.Sc
