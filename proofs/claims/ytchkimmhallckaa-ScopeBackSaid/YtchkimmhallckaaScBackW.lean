import Derived.Test.YtchkimmhallckaaScBack
namespace Go.Proofs.Ytchkimmhallckaa.Sc
open Go.RowKit Go.Maps Go.WideMaps Go.Proofs.Ytchkimmhallckaa
open Go.Proofs.YtchkimmhallckaaW.PrintWords Go.Proofs.YtchkimmhallckaaW.PrintLast Go.Proofs.YtchkimmhallckaaW.PrintMore
set_option linter.unusedVariables false
set_option linter.unusedSimpArgs false

def nums1 (L : List Lvl) (xs : List ByteArray) (j : Nat) : List Int := (List.range j).map fun i => (((find L (xs.getD i ByteArray.empty)).map (·.1)).getD 0)
def nums2 (L : List Lvl) (xs : List ByteArray) (j : Nat) : List Int := (List.range j).map fun i => ((((find L (xs.getD i ByteArray.empty)).map (·.2)).getD 0 : Nat) : Int)

theorem nums1_next {L : List Lvl} {xs : List ByteArray} {j : Nat} (hj : j < xs.length) : nums1 L xs (j + 1) = nums1 L xs j ++ [((find L xs[j]).map (·.1)).getD 0] := by
  simp [nums1, List.range_succ, List.getD_eq_getElem?_getD, List.getElem?_eq_getElem hj]
theorem nums2_next {L : List Lvl} {xs : List ByteArray} {j : Nat} (hj : j < xs.length) : nums2 L xs (j + 1) = nums2 L xs j ++ [((((find L xs[j]).map (·.2)).getD 0 : Nat) : Int)] := by
  simp [nums2, List.range_succ, List.getD_eq_getElem?_getD, List.getElem?_eq_getElem hj]
theorem nums1_len (L : List Lvl) (xs : List ByteArray) (j : Nat) : (nums1 L xs j).length = j := by simp [nums1]
theorem nums2_len (L : List Lvl) (xs : List ByteArray) (j : Nat) : (nums2 L xs j).length = j := by simp [nums2]
theorem nums1_at {L : List Lvl} {xs : List ByteArray} {j n : Nat} (hj : j < xs.length) (hn : j < n) : (ints (nums1 L xs n))[j]? = some (.int .i64 (((find L xs[j]).map (·.1)).getD 0)) := by
  simp [ints, nums1, List.getD_eq_getElem?_getD, List.getElem?_eq_getElem hj, hn]
theorem nums2_at {L : List Lvl} {xs : List ByteArray} {j n : Nat} (hj : j < xs.length) (hn : j < n) : (ints (nums2 L xs n))[j]? = some (.int .i64 ((((find L xs[j]).map (·.2)).getD 0 : Nat) : Int)) := by
  simp [ints, nums2, List.getD_eq_getElem?_getD, List.getElem?_eq_getElem hj, hn]

theorem One.many {w0 w : World} {G : Nat → Prop} {g : Nat} {St : List Lvl} {N : Nat} (h : One w0 G g St N w) : ∀ l ∈ St, l.length ≤ 256 := by
  obtain ⟨F, ⟨mp, lv, fv, vs, h⟩, _⟩ := h.out
  exact h.many

theorem drawn_below {w w' : World} (d : Drawn0 w w') : Below w.heap.size w w' := by
  obtain ⟨n, rfl⟩ := d
  exact ⟨rfl, rfl, rfl, Nat.le_refl _, fun _ _ => rfl⟩

def negI (j : Nat) : Int := -(j : Int)
theorem wf_neg {j : Nat} (h : j ≤ 100) : (Lit.int .i64 (-(j : Int))).wf = true := by
  simp [Lit.wf, IntKind.min, IntKind.max, IntKind.signed, IntKind.bits]
  omega

theorem findV_out (r : Option (Int × Nat)) : findV r = .tuple #[.int .i64 ((r.map (·.1)).getD 0), .int .i64 (((r.map (·.2)).getD 0 : Nat) : Int), .bool r.isSome] := rfl

theorem rowCells3 {w : World} {A : Option Addr} {n c : Nat} {xs : List Value} (h : w.ownsRow 0 3 1 (.slice A n c) n xs) (hn : 0 < n) : ∃ ad, A = some ad ∧ ∀ (j : Nat) (u : Value), xs[j]? = some u → w.cell? (ad.add j) = some u := rowCells h hn

set_option maxHeartbeats 4000000 in
theorem back_calls (w : World) (A B : Option Addr) (c d : Nat) (a b : List ByteArray) (ha : Kd.C Kd.string w A a.length a) (hb : Kd.C Kd.string w B b.length b) :
    Calls Try.prog 5 #[.slice A a.length c, .slice B b.length d] w fun e w' => e = .returned (.bool true) ∧ Below w.heap.size w w' := by
  by_cases hal : a.length ≤ 100
  · by_cases hbl : b.length ≤ 100
    · have g1 : decide ((a.length : Int) > 100) = false := decide_eq_false (by omega)
      have g2 : decide ((b.length : Int) > 100) = false := decide_eq_false (by omega)
      go_enter Try.func5, Try.ntmps5
      go_wp2_with fail
      refine (new_calls w).mono ?_
      rintro e w1 ⟨rfl, h1, b1⟩
      have o1 := Aside0.mk (One.start w h1 b1)
      clear h1 b1
      go_wp2_with fail
      -- the first loop: names are declared
      go_loopw [8] (fun i wr => ∃ j : Nat, j ≤ a.length ∧ i = .int .i64 j ∧ Aside0 (One w (fun _ => False) w.heap.size [declAll (fun j => (j : Int)) a j] j wr) ∧ Aside0 (∀ i (hi : i < a.length), i < j → a[i].size ≤ 5000)) (fun i _ => a.length - (intOf i).toNat)
      case atStart => exact ⟨0, Nat.zero_le _, rfl, ⟨o1.out⟩, ⟨fun i hi h => by omega⟩⟩
      case round =>
        obtain ⟨j, hj, rfl, HO, HS⟩ := hrel
        have hO := HO.out
        by_cases hlt : j < a.length
        · have hx : decide ((j : Int) < (a.length : Int)) = true := decide_eq_true (by omega)
          obtain ⟨ad, rfl, hc⟩ := strAt (Kd.C_below ha hO.below) (by omega)
          have hcj := hc j hlt
          clear hc
          by_cases hsz : a[j].size ≤ 5000
          · have hs2 : decide ((a[j].size : Int) > 5000) = false := decide_eq_false (by omega)
            have hwf := wf_small (lv := (j : Int)) (by omega) (by omega)
            have hin := size_in hlt
            go_wp2_with fail
            refine (O_decl (T := []) hO a[j] _ (by unfold maxLen; omega) hwf (by unfold maxLen; omega)).mono ?_
            rintro e w2 ⟨rfl, o2, _⟩
            rw [declAll_next (f := fun j => (j : Int)) hlt] at o2
            have hS2 : Aside0 (∀ i (hi : i < a.length), i < j + 1 → a[i].size ≤ 5000) := ⟨fun i hi h => by
              by_cases e : i = j
              · subst e; exact hsz
              · exact HS.out i hi (by omega)⟩
            go_wp2
            go_roundw
            case rel => exact ⟨j + 1, by omega, by go_num, ⟨o2⟩, hS2⟩
            case measure => simp [intOf]; omega
          · have hs2 : decide ((a[j].size : Int) > 5000) = true := decide_eq_true (by omega)
            have hin := size_in hlt
            go_wp2_with fail
            refine (wakes_calls _).mono ?_
            rintro e w2 ⟨rfl, b2⟩
            go_wp2
            go_ret
            exact ⟨rfl, (hO.on b2).1.below⟩
        · have hx : decide ((j : Int) < (a.length : Int)) = false := decide_eq_false (by omega)
          have hja : j = a.length := by omega
          subst hja
          have HS2 : Aside0 (∀ i (hi : i < a.length), a[i].size ≤ 5000) := ⟨fun i hi => HS.out i hi hi⟩
          clear HS hj hlt
          generalize hL : declAll (fun j => (j : Int)) a a.length = L at HO hO
          clear hL
          have T0 := Aside0.mk (Two.start hO)
          clear hO HO
          go_wp2_with fail
          -- the second loop: what is found
          go_loopw [6, 7, 9] (fun v6 v7 i wr => ∃ j : Nat, j ≤ a.length ∧ i = .int .i64 j ∧ Aside0 (Two w w.heap.size [L] a.length v6 v7 (nums1 [L] a j) (nums2 [L] a j) wr)) (fun _ _ i _ => a.length - (intOf i).toNat)
          case atStart => exact ⟨0, Nat.zero_le _, rfl, T0⟩
          case round =>
            obtain ⟨j, hj, rfl, HT⟩ := hrel
            by_cases hlt : j < a.length
            · have hx : decide ((j : Int) < (a.length : Int)) = true := decide_eq_true (by omega)
              obtain ⟨ad, rfl, hc⟩ := strAt (Kd.C_below ha HT.out.below) (by omega)
              have hcj := hc j hlt
              clear hc
              have hin := size_in hlt
              have hz : a[j].size ≤ maxLen := by have := HS2.out j hlt; unfold maxLen; omega
              obtain ⟨n1, hn1⟩ : ∃ n1, ((find [L] a[j]).map (·.1)).getD 0 = n1 := ⟨_, rfl⟩
              obtain ⟨n2, hn2⟩ : ∃ n2 : Int, ((((find [L] a[j]).map (·.2)).getD 0 : Nat) : Int) = n2 := ⟨_, rfl⟩
              have q1 := Aside0.mk (nums1_next (L := [L]) hlt)
              have q2 := Aside0.mk (nums2_next (L := [L]) hlt)
              rw [hn1] at q1
              rw [hn2] at q2
              have r6 := Aside0.mk HT.out.row6
              have r7 := Aside0.mk HT.out.row7
              have l6 := Aside0.mk (nums1_len [L] a j)
              have l7 := Aside0.mk (nums2_len [L] a j)
              go_wp2_with fail
              refine (HT.out.find a[j] hz).mono ?_
              rintro e w2 ⟨rfl, e2⟩
              rw [findV_out, hn1, hn2]
              clear hn1 hn2
              subst e2
              go_wp2_with (first | (at_builtin; refine appOne w2 rfl _ _ 43 3 (.int .i64 0) (.int .i64 n1) 8 rfl Try.underlying43 info3 rfl ?b1 ?b2 u6 (nums1 [L] a j).length (ints (nums1 [L] a j)) ?hs ?hx r6.out ?h1 ?hl ?_; (case b1 => decide); (case b2 => decide); (case hs => rfl); (case hx => rfl); (case h1 => rfl); (case hl => (rw [l6.out]; omega))))
              intro A6 C6 w6 ho6 hg6 hat6
              have T1 := Aside0.mk (HT.out.app6 hg6 ho6 hat6)
              clear ho6 hg6 hat6
              go_wp2_with (first | (at_builtin; refine appOne w6 rfl _ _ 43 3 (.int .i64 0) (.int .i64 n2) 8 rfl Try.underlying43 info3 rfl ?b1 ?b2 u7 (nums2 [L] a j).length (ints (nums2 [L] a j)) ?hs ?hx T1.out.row7 ?h1 ?hl ?_; (case b1 => decide); (case b2 => decide); (case hs => rfl); (case hx => rfl); (case h1 => rfl); (case hl => (rw [l7.out]; omega))))
              intro A7 C7 w7 ho7 hg7 hat7
              have T2 := Aside0.mk (T1.out.app7 hg7 ho7 hat7)
              clear ho7 hg7 hat7
              go_wp2
              go_roundw
              case rel => exact ⟨j + 1, by omega, by go_num, ⟨by rw [q1.out, q2.out]; exact T2.out⟩⟩
              case measure => simp [intOf]; omega
            · have hx : decide ((j : Int) < (a.length : Int)) = false := decide_eq_false (by omega)
              have hja : j = a.length := by omega
              subst hja
              go_wp2_with fail
              have t6 := HT.out.row6
              have t7 := HT.out.row7
              rw [nums1_len] at t6
              rw [nums2_len] at t7
              obtain ⟨A6, c6, rfl⟩ := own_slice t6
              obtain ⟨A7, c7, rfl⟩ := own_slice t7
              clear t6 t7
              refine (Two.here (T := []) HT.out).mono ?_
              rintro e w8 ⟨A8, C8, rfl, H8⟩
              have H3 := Aside0.mk H8
              clear H8 HT
              go_wp2_with fail
              refine (O_open H3.out.one).mono ?_
              rintro e w9 ⟨rfl, o9⟩
              have H4 : Aside0 (Three w w.heap.size ([L] ++ [declAll negI b 0]) (a.length + 0) (.slice A6 a.length c6) (.slice A7 a.length c7) (.slice A8 (List.length L) C8) (nums1 [L] a a.length) (nums2 [L] a a.length) L w9) := ⟨H3.out.on o9⟩
              clear o9 H3
              rw [if_pos (show (([] : List Lvl) ++ [L]).length < 64 by simp)]
              go_wp2_with fail
              -- the third loop: names in the level within
              go_loopw [14] (fun i wr => ∃ j : Nat, j ≤ b.length ∧ i = .int .i64 j ∧ Aside0 (Three w w.heap.size ([L] ++ [declAll negI b j]) (a.length + j) (.slice A6 a.length c6) (.slice A7 a.length c7) (.slice A8 (List.length L) C8) (nums1 [L] a a.length) (nums2 [L] a a.length) L wr)) (fun i _ => b.length - (intOf i).toNat)
              case atStart => exact ⟨0, Nat.zero_le _, rfl, H4⟩
              case round =>
                obtain ⟨j, hj, rfl, H5⟩ := hrel
                by_cases hlt : j < b.length
                · have hx : decide ((j : Int) < (b.length : Int)) = true := decide_eq_true (by omega)
                  obtain ⟨ad, rfl, hc⟩ := strAt (Kd.C_below hb H5.out.one.below) (by omega)
                  have hcj := hc j hlt
                  clear hc
                  by_cases hsz : b[j].size ≤ 5000
                  · have hs2 : decide ((b[j].size : Int) > 5000) = false := decide_eq_false (by omega)
                    have hin := size_in hlt
                    go_wp2_with fail
                    refine (O_decl (T := [L]) (l := declAll negI b j) H5.out.one b[j] (-(j : Int)) (by unfold maxLen; omega) (wf_neg (by omega)) (by unfold maxLen; omega)).mono ?_
                    rintro e w2 ⟨rfl, o2⟩
                    rw [show declL (declAll negI b j) b[j] (-(j : Int)) = declAll negI b (j + 1) from declAll_next (f := negI) hlt] at o2
                    have H6 := Aside0.mk (H5.out.on o2)
                    clear o2
                    go_wp2
                    go_roundw
                    case rel => exact ⟨j + 1, by omega, by go_num, H6⟩
                    case measure => simp [intOf]; omega
                  · have hs2 : decide ((b[j].size : Int) > 5000) = true := decide_eq_true (by omega)
                    have hin := size_in hlt
                    go_wp2_with fail
                    refine (wakes_calls _).mono ?_
                    rintro e w2 ⟨rfl, b2⟩
                    go_wp2
                    go_ret
                    exact ⟨rfl, (H5.out.one.on b2).1.below⟩
                · have hx : decide ((j : Int) < (b.length : Int)) = false := decide_eq_false (by omega)
                  have hLm := H5.out.one.many L (by simp)
                  go_wp2_with fail
                  refine (O_close (T := [L]) (l := declAll negI b j) H5.out.one).mono ?_
                  rintro e w2 ⟨rfl, o2⟩
                  have H6 : Aside0 (Three w w.heap.size [L] (a.length + j) (.slice A6 a.length c6) (.slice A7 a.length c7) (.slice A8 (List.length L) C8) (nums1 [L] a a.length) (nums2 [L] a a.length) L w2) := ⟨H5.out.on o2⟩
                  clear o2 H5
                  rw [show decide ([L] ≠ []) = true from rfl]
                  go_wp2_with fail
                  refine (O_depth H6.out.one).mono ?_
                  rintro e w3 ⟨rfl, e3⟩
                  subst e3
                  rw [show ((([L] : List Lvl).length : Nat) : Int) - 1 = 0 from rfl]
                  go_wp2_with fail
                  refine (O_here (T := []) H6.out.one).mono ?_
                  rintro e w4 ⟨⟨A9, C9, rfl, ho9, _, _⟩, o4⟩
                  have H7 : Aside0 (Three w w.heap.size [L] (a.length + j) (.slice A6 a.length c6) (.slice A7 a.length c7) (.slice A8 (List.length L) C8) (nums1 [L] a a.length) (nums2 [L] a a.length) L w4) := ⟨H6.out.on o4⟩
                  clear o4 H6
                  go_wp2_with fail
                  refine (texts_calls ho9 H7.out.r8 (by omega)).mono ?_
                  rintro e w5 ⟨rfl, d5⟩
                  have H8 := Aside0.mk (H7.out.on (H7.out.one.on (drawn_below d5)))
                  clear H7 d5 ho9
                  go_wp2_with fail
                  have HB5 := Aside0.mk H8.out.one.below
                  go_loopw [15] (fun i wr => ∃ j : Nat, j ≤ a.length ∧ i = .int .i64 j ∧ wr = w5) (fun i _ => a.length - (intOf i).toNat)
                  case atStart => exact ⟨0, Nat.zero_le _, rfl, rfl⟩
                  case round =>
                    obtain ⟨i, hi, rfl, ew⟩ := hrel
                    subst ew
                    by_cases hlt : i < a.length
                    · have hx : decide ((i : Int) < (a.length : Int)) = true := decide_eq_true (by omega)
                      obtain ⟨ad, rfl, hc⟩ := strAt (Kd.C_below ha HB5.out) (by omega)
                      have hcj := hc i hlt
                      clear hc
                      have hin := size_in hlt
                      have hz : a[i].size ≤ maxLen := by have := HS2.out i hlt; unfold maxLen; omega
                      have s6 := H8.out.r6
                      have s7 := H8.out.r7
                      rw [nums1_len] at s6
                      rw [nums2_len] at s7
                      obtain ⟨a6, rfl, hc6⟩ := rowCells s6 (by omega)
                      obtain ⟨a7, rfl, hc7⟩ := rowCells s7 (by omega)
                      have c6i := hc6 i _ (nums1_at (L := [L]) hlt hlt)
                      have c7i := hc7 i _ (nums2_at (L := [L]) hlt hlt)
                      clear hc6 hc7 s6 s7
                      obtain ⟨n1, hn1⟩ : ∃ n1, ((find [L] a[i]).map (·.1)).getD 0 = n1 := ⟨_, rfl⟩
                      obtain ⟨n2, hn2⟩ : ∃ n2 : Int, ((((find [L] a[i]).map (·.2)).getD 0 : Nat) : Int) = n2 := ⟨_, rfl⟩
                      rw [hn1] at c6i
                      rw [hn2] at c7i
                      go_wp2_with fail
                      refine (O_find H8.out.one a[i] hz).mono ?_
                      rintro e w6 ⟨rfl, e6⟩
                      subst e6
                      rw [findV_out, hn1, hn2]
                      clear hn1 hn2
                      go_wp2
                      go_roundw
                      case rel => exact ⟨i + 1, by omega, by go_num, by first | trivial | rfl⟩
                      case measure => simp [intOf]; omega
                    · have hx : decide ((i : Int) < (a.length : Int)) = false := decide_eq_false (by omega)
                      go_wp2_with fail
                      refine (wakes_calls _).mono ?_
                      rintro e w6 ⟨rfl, b6⟩
                      go_wp2
                      go_ret
                      exact ⟨rfl, (H8.out.one.on b6).1.below⟩
    · have g1 : decide ((a.length : Int) > 100) = false := decide_eq_false (by omega)
      have g2 : decide ((b.length : Int) > 100) = true := decide_eq_true (by omega)
      go_enter Try.func5, Try.ntmps5
      go_wp2_with fail
      refine (new_calls w).mono ?_
      rintro e w1 ⟨rfl, h1, b1⟩
      go_wp2_with fail
      refine (wakes_calls _).mono ?_
      rintro e w2 ⟨rfl, b2⟩
      go_wp2
      go_ret
      exact ⟨rfl, b1.trans (b2.mono b1.size)⟩
  · have g1 : decide ((a.length : Int) > 100) = true := decide_eq_true (by omega)
    go_enter Try.func5, Try.ntmps5
    go_wp2_with fail
    refine (new_calls w).mono ?_
    rintro e w1 ⟨rfl, h1, b1⟩
    go_wp2_with fail
    refine (wakes_calls _).mono ?_
    rintro e w2 ⟨rfl, b2⟩
    go_wp2
    go_ret
    exact ⟨rfl, b1.trans (b2.mono b1.size)⟩
end Go.Proofs.Ytchkimmhallckaa.Sc
