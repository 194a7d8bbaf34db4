import Derived.Test.YtchkimmhallckaaScP
namespace Go.Proofs.Ytchkimmhallckaa.Sc
open Go.RowKit Go.Maps Go.WideMaps Go.Proofs.Ytchkimmhallckaa
open Go.Proofs.YtchkimmhallckaaW.PrintWords Go.Proofs.YtchkimmhallckaaW.PrintLast Go.Proofs.YtchkimmhallckaaW.PrintMore
set_option linter.unusedVariables false
set_option linter.unusedSimpArgs false

/-! index -/
theorem ix_loop (l : Lvl) (s : ByteArray) (hl : l.length ≤ 1000) : ∀ (n i : Nat), l.length - i = n → ∃ r k, PScopePlays.spinetref15_index.l0 k (l.map (·.1)) s (i : Int) = some r ∧
    ((lk (l.drop i) s = none ∧ r = -1) ∨ ∃ (j : Nat) (hj : j < l.length), r = (j : Int) ∧ lk (l.drop i) s = some (l[j]).2)
  | 0, i, hn => ⟨-1, 1, by
      unfold PScopePlays.spinetref15_index.l0
      rw [if_neg (by simp; omega)], .inl ⟨by rw [List.drop_eq_nil_of_le (by omega)]; rfl, rfl⟩⟩
  | n + 1, i, hn => by
    have hi : i < l.length := by omega
    obtain ⟨r, k, hk, hr⟩ := ix_loop l s hl n (i + 1) (by omega)
    have e : wrap64 ((i : Int) + 1) = ((i + 1 : Nat) : Int) := by unfold wrap64; omega
    have hd : l.drop i = l[i] :: l.drop (i + 1) := List.drop_eq_getElem_cons hi
    have hrd : rdOf ByteArray.empty (l.map (·.1)) (i : Int) = (l[i]).1 := by
      simp [rdOf, List.getD_eq_getElem?_getD, List.getElem?_eq_getElem hi]
    rw [hd]
    by_cases hs : (l[i]).1 = s
    · refine ⟨(i : Int), 1, ?_, .inr ⟨i, hi, rfl, ?_⟩⟩
      · unfold PScopePlays.spinetref15_index.l0
        rw [if_pos (by simp; omega), if_pos (by omega), hrd, if_pos (by rw [hs])]
      · show lk ((l[i].1, l[i].2) :: l.drop (i + 1)) s = _
        simp [lk, hs]
    · refine ⟨r, k + 1, ?_, ?_⟩
      · conv => lhs; unfold PScopePlays.spinetref15_index.l0
        rw [if_pos (by simp; omega), if_pos (by omega), hrd, if_neg (fun h => hs (toList_inj h)), e]
        exact hk
      · have : lk ((l[i].1, l[i].2) :: l.drop (i + 1)) s = lk (l.drop (i + 1)) s := by simp [lk, hs]
        rw [show l[i] = (l[i].1, l[i].2) from rfl, this]
        exact hr

theorem index_calls {w : World} {A : Option Addr} {c : Nat} {l : Lvl} (h : w.ownsRow 0 9 1 (.slice A l.length c) l.length (names l)) (hl : l.length ≤ 1000) (s : ByteArray) :
    Calls Try.prog 28 #[.slice A l.length c, .string s] w fun e w' => ∃ r : Int, e = .returned (.int .i64 r) ∧ Drawn0 w w' ∧ ((lk l s = none ∧ r = -1) ∨ ∃ (j : Nat) (hj : j < l.length), r = (j : Int) ∧ lk l s = some (l[j]).2) := by
  obtain ⟨r, k, hk, hr⟩ := ix_loop l s hl _ 0 rfl
  obtain ⟨q1, q2⟩ := C_names h
  have hk' : PScopePlays.spinetref15_index.f k (l.map (·.1)) s = some r := hk
  have := PScopePlays.spinetref15_index.calls k A c (l.map (·.1)) s r w (by simpa using q1) (by simpa using q2) hk'
  simp only [List.length_map] at this
  refine this.mono ?_
  rintro e w' ⟨rfl, d⟩
  exact ⟨r, rfl, d, by simpa using hr⟩

theorem nmsL_at {l : Lvl} {j : Nat} (hj : j < l.length) : (nmsL l)[j]? = some (.int .i64 (l[j]).2) := by
  simp [nmsL, List.getElem?_eq_getElem hj]

section
variable {w0 w w1 : World} {F : Nat → Prop} {q m : Nat} {cn ci nv iv v' u : Value} {rn ri us : List Value} {St T : List Lvl} {l l' : Lvl}

theorem new_ref (w : World) : Calls Try.prog 14 #[] w fun e w' => ∃ q, e = .returned (.pointer (some ⟨q, 0, none⟩)) ∧ RAt w' (fun b => w.heap.size ≤ b ∧ b < w'.heap.size) q [[]] ∧ Below w.heap.size w w' := by
  go_enter Try.func14, Try.ntmps14
  go_wp2
  go_ret
  refine ⟨w.heap.size + 1 + 1, rfl, ?_, below_alloc (below_alloc (below_alloc (Below.refl _ _) _) _) _⟩
  have b1 : (((w.alloc (.cells #[.slice none 0 0] 40)).alloc (.cells #[.slice none 0 0] 43)).alloc (.cells #[.slice (some ⟨w.heap.size, 0, none⟩) 1 1, .slice (some ⟨w.heap.size + 1, 0, none⟩) 1 1] 59)).heap.size = w.heap.size + 1 + 1 + 1 := by simp
  refine ⟨.slice (some ⟨w.heap.size, 0, none⟩) 1 1, .slice (some ⟨w.heap.size + 1, 0, none⟩) 1 1, [.slice none 0 0], [.slice none 0 0], ?_, (((World.ownsRow_lit (base := 0) (e := 40) (size := 1) w #[.slice none 0 0] 1 (Nat.zero_le _) (by decide) rfl).alloc _).alloc _), ?_, ?_, ?_, Kp.refl _ _, ?_, fun b hb => hb.2, ?_, ?_, ?_, ?_⟩
  · have := heap_alloc_new ((w.alloc (.cells #[.slice none 0 0] 40)).alloc (.cells #[.slice none 0 0] 43)) (.cells #[.slice (some ⟨w.heap.size, 0, none⟩) 1 1, .slice (some ⟨w.heap.size + 1, 0, none⟩) 1 1] 59)
    simpa using this
  · have := (World.ownsRow_lit (base := 0) (e := 43) (size := 1) (w.alloc (.cells #[.slice none 0 0] 40)) #[.slice none 0 0] 1 (Nat.zero_le _) (by decide) rfl).alloc (.cells #[.slice (some ⟨w.heap.size, 0, none⟩) 1 1, .slice (some ⟨w.heap.size + 1, 0, none⟩) 1 1] 59)
    simpa using this
  · refine ⟨rfl, fun i v l hv hl => ?_, fun i j v v' k hv hv' e1 e2 => ?_⟩
    · rcases i with _ | i
      · simp at hv hl
        subst hv; subst hl
        exact World.ownsRow_nil _ _ _ _
      · simp at hv
    · rcases i with _ | i
      · simp at hv
        subst hv
        cases e1
      · simp at hv
  · refine ⟨rfl, fun i v l hv hl => ?_, fun i j v v' k hv hv' e1 e2 => ?_⟩
    · rcases i with _ | i
      · simp at hv hl
        subst hv; subst hl
        exact World.ownsRow_nil _ _ _ _
      · simp at hv
    · rcases i with _ | i
      · simp at hv
        subst hv
        cases e1
      · simp at hv
  · simp
    omega
  · intro b e
    cases e
    left
    simp
    omega
  · intro b e
    cases e
    left
    simp
  · intro v hv b e
    simp at hv
    subst hv
    cases e
  · intro v hv b e
    simp at hv
    subst hv
    cases e

theorem depth_ref (h : RS w F q nv iv nv iv rn ri rn ri St St w) (hd : St.length ≤ 64) : Calls Try.prog 21 #[.pointer (some ⟨q, 0, none⟩)] w fun e w' => e = .returned (.int .i64 ((St.length : Int) - 1)) ∧ w' = w := by
  have c0 := h.c0
  have hlen := h.rows.len
  obtain ⟨A, c, rfl⟩ := own_slice h.nl
  rw [hlen] at c0
  have e1 : wrap64 ((St.length : Int) - 1) = (St.length : Int) - 1 := by unfold wrap64; omega
  clear h hlen
  go_enter Try.func21, Try.ntmps21
  go_wp2
  go_ret
  exact ⟨rfl, rfl⟩

theorem RS.drawn (h : RS w F q nv iv nv iv rn ri rn ri St St w) (d : Drawn0 w w1) : RS w1 F q nv iv nv iv rn ri rn ri St St w1 := by
  obtain ⟨n, rfl⟩ := d
  exact ⟨h.cells, h.nl, h.il, h.rows.other fun _ _ _ => rfl, h.rowi.other fun _ _ _ => rfl, Kp.refl _ _, h.inQ, h.ltF, h.inN, h.inI, h.inS, h.inT⟩

theorem Drawn0.trans {a b c : World} (h : Drawn0 a b) (k : Drawn0 b c) : Drawn0 a c := by
  obtain ⟨n, rfl⟩ := k
  exact h.step n

set_option maxHeartbeats 1000000 in
theorem find_ref (h : RS w F q nv iv nv iv rn ri rn ri St St w) (hd : St.length ≤ 64) (hm : ∀ l ∈ St, l.length ≤ 256) (s : ByteArray) : Calls Try.prog 20 #[.pointer (some ⟨q, 0, none⟩), .string s] w fun e w' => e = .returned (findV (find St s)) ∧ Drawn0 w w' := by
  have HR := Aside0.mk h
  go_enter Try.func20, Try.ntmps20
  go_wp2_with fail
  refine (depth_ref h hd).mono ?_
  clear h
  rintro e w1 ⟨rfl, rfl⟩
  go_wp2_with fail
  go_loopw [7] (fun i wr => ∃ j : Nat, j ≤ St.length ∧ i = .int .i64 ((j : Int) - 1) ∧ Aside0 (Drawn0 w1 wr) ∧ Aside0 (find St s = findTo St s j)) (fun i _ => ((intOf i) + 1).toNat)
  case atStart => exact ⟨St.length, Nat.le_refl _, rfl, ⟨Drawn0.refl _⟩, ⟨rfl⟩⟩
  case round =>
    obtain ⟨j, hj, rfl, HD, hf⟩ := hrel
    rcases j with _ | k
    · have hf1 : find St s = none := hf.out
      clear hf
      have hf2 := Aside0.mk hf1
      clear hf1
      go_wp2
      go_ret3
      exact ⟨by rw [hf2.out]; rfl, HD.out⟩
    · have e0 : ((k + 1 : Nat) : Int) - 1 = (k : Int) := by omega
      rw [e0]
      have d0 : decide ((k : Int) ≥ 0) = true := decide_eq_true (by omega)
      have H2 := HR.out.drawn HD.out
      have hlen := H2.rows.len
      have hk : k < St.length := by omega
      have hv : rn[k]? = some (rn[k]'(by omega)) := List.getElem?_eq_getElem _
      have hlm := hm _ (List.getElem_mem hk)
      have hrow := H2.rows.row k _ St[k] hv (List.getElem?_eq_getElem hk)
      obtain ⟨A, c, hA⟩ := own_slice hrow
      rw [hA] at hrow hv
      have c0 := H2.c0
      obtain ⟨An, cn, rfl⟩ := own_slice H2.nl
      obtain ⟨ad, rfl, hc⟩ := rowCells H2.nl (by omega)
      have hck := hc k _ hv
      clear hc hA hv
      have hin := size_in (show k < rn.length by omega)
      go_wp2_with fail
      refine (index_calls hrow (by omega) s).mono ?_
      rintro e w2 ⟨r, rfl, d2, hr⟩
      have H3 := H2.drawn d2
      have HD2 := Aside0.mk (Drawn0.trans HD.out d2)
      have hgd : St.getD k [] = St[k] := by simp [List.getD_eq_getElem?_getD, List.getElem?_eq_getElem hk]
      clear c0 hck
      rcases hr with ⟨hx, rfl⟩ | ⟨j, hj2, rfl, hx⟩
      · have hf1 : Aside0 (find St s = findTo St s k) := ⟨by rw [hf.out]; simp only [findTo]; rw [hgd, hx]⟩
        go_wp2_with fail
        go_roundw
        case rel => exact ⟨k, by omega, by go_num, HD2, hf1⟩
        case measure => simp [intOf]
      · have hf1 : find St s = some ((St[k][j]).2, k) := by rw [hf.out]; simp only [findTo]; rw [hgd, hx]
        have hf2 := Aside0.mk hf1
        clear hf hf1
        have hge : decide ((j : Int) ≥ 0) = true := decide_eq_true (by omega)
        have hleni := H3.rowi.len
        have hvi : ri[k]? = some (ri[k]'(by omega)) := List.getElem?_eq_getElem _
        have hrowi := H3.rowi.row k _ St[k] hvi (List.getElem?_eq_getElem hk)
        obtain ⟨B, d, hB⟩ := own_slice hrowi
        rw [hB] at hrowi hvi
        have c1 := H3.c1
        obtain ⟨Ai, ci, rfl⟩ := own_slice H3.il
        obtain ⟨ai, rfl, hci⟩ := rowCells H3.il (by omega)
        have hcik := hci k _ hvi
        obtain ⟨bi, rfl, hcb⟩ := rowCells hrowi (by omega)
        have hcbj := hcb j _ (nmsL_at hj2)
        have hini := size_in (show k < ri.length by omega)
        have hinj := size_in hj2
        clear hci hcb hvi hB
        go_wp2
        go_ret3
        exact ⟨by rw [hf2.out]; rfl, HD2.out⟩
end
end Go.Proofs.Ytchkimmhallckaa.Sc
