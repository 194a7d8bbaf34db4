import Derived.Test.YtchkimmhallckaaScS
import Derived.Test.YtchkimmhallckaaPScopePlaysx1
namespace Go.Proofs.Ytchkimmhallckaa.Sc
open Go.RowKit Go.Maps Go.WideMaps Go.Proofs.Ytchkimmhallckaa
open Go.Proofs.YtchkimmhallckaaW.PrintWords Go.Proofs.YtchkimmhallckaaW.PrintLast Go.Proofs.YtchkimmhallckaaW.PrintMore
set_option linter.unusedVariables false
set_option linter.unusedSimpArgs false

/-! the reference's Word is the same -/
theorem letter_is (c : Int) : ∃ b, PScopePlays.spinetref09_letter.f c = some b ∧ (b = true ↔ (97 ≤ c ∧ c ≤ 122) ∨ (65 ≤ c ∧ c ≤ 90)) := by
  unfold PScopePlays.spinetref09_letter.f
  by_cases h1 : c ≥ 97
  · rw [if_pos h1]
    by_cases h2 : c ≤ 122
    · rw [if_pos h2]
      exact ⟨_, rfl, by simp; omega⟩
    · rw [if_neg h2, if_pos (by omega)]
      exact ⟨_, rfl, by simp; omega⟩
  · rw [if_neg h1]
    by_cases h2 : c ≥ 65
    · rw [if_pos h2]
      exact ⟨_, rfl, by simp; omega⟩
    · rw [if_neg h2]
      exact ⟨_, rfl, by simp; omega⟩

theorem digit_is (c : Int) : ∃ b, PScopePlays.spinetref09_digit.f c = some b ∧ (b = true ↔ (48 ≤ c ∧ c ≤ 57)) := by
  unfold PScopePlays.spinetref09_digit.f
  by_cases h1 : c ≥ 48
  · rw [if_pos h1]
    exact ⟨_, rfl, by simp; omega⟩
  · rw [if_neg h1]
    exact ⟨_, rfl, by simp; omega⟩

theorem word_loop (s : ByteArray) (hs : s.size ≤ 24) : ∀ (n i : Nat), s.size - i = n → ∃ k, PScopePlays.spinetref09_Word.l0 k s (i : Int) = some (allFrom s i)
  | 0, i, hn => ⟨1, by
      rw [allFrom_end (by omega)]
      unfold PScopePlays.spinetref09_Word.l0
      rw [if_neg (by omega)]⟩
  | n + 1, i, hn => by
    obtain ⟨k, hk⟩ := word_loop s hs n (i + 1) (by omega)
    have e : wrap64 ((i : Int) + 1) = ((i + 1 : Nat) : Int) := by unfold wrap64; omega
    refine ⟨k + 1, ?_⟩
    rw [allFrom_step (by omega)]
    conv => lhs; unfold PScopePlays.spinetref09_Word.l0
    rw [if_pos (by omega), if_pos (by omega), e, hk]
    obtain ⟨b1, h1, h2⟩ := letter_is (bt s (i : Int))
    obtain ⟨b2, h3, h4⟩ := digit_is (bt s (i : Int))
    rw [h1, h3]
    have ha : alnum (bt s (i : Int)) = (b1 || b2) := by
      cases hb1 : b1 <;> cases hb2 : b2 <;> simp [alnum] <;> simp [hb1] at h2 <;> simp [hb2] at h4 <;> omega
    rw [ha]
    cases b1 <;> cases b2 <;> simp

def IsWord (s : ByteArray) (b : Bool) : Prop := ∃ k, PScopePlays.spinetref09_Word.f k s = some b

theorem isWord_is (s : ByteArray) : IsWord s (isName s) := by
  unfold IsWord PScopePlays.spinetref09_Word.f
  by_cases h0 : s.size = 0
  · refine ⟨1, ?_⟩
    rw [if_pos (by omega)]
    simp [PScopePlays.spinetref09_Word.j0, isName, h0]
  · by_cases h1 : s.size ≤ 24
    · obtain ⟨b, hb1, hb2⟩ := letter_is (bt s 0)
      have hstep : allFrom s 0 = (alnum (bt s 0) && allFrom s 1) := allFrom_step (i := 0) (by omega)
      have d1 : decide (1 ≤ s.size) = true := decide_eq_true (by omega)
      have d2 : decide (s.size ≤ 24) = true := decide_eq_true h1
      have hle : (decide (57 < bt s 0) && alnum (bt s 0)) = b := by
        cases b <;> simp [alnum] <;> simp at hb2 <;> omega
      have hn : isName s = (b && allFrom s 1) := by
        simp only [isName, d1, d2, Bool.true_and]
        rw [hstep, ← Bool.and_assoc, hle]
      rw [hn]
      cases b with
      | false =>
        refine ⟨1, ?_⟩
        rw [if_neg (by omega), if_neg (by omega), if_pos (by omega), hb1]
        rfl
      | true =>
        obtain ⟨k, hk⟩ := word_loop s h1 _ 1 rfl
        refine ⟨k + 1, ?_⟩
        rw [if_neg (by omega), if_neg (by omega), if_pos (by omega), hb1]
        simp only [Option.bind_some, PScopePlays.spinetref09_Word.j0, Bool.not_true, Bool.false_eq_true, if_false, Bool.true_and]
        exact hk
    · refine ⟨1, ?_⟩
      rw [if_neg (by omega), if_pos (by omega)]
      simp [PScopePlays.spinetref09_Word.j0, isName, h1]

section
variable {w0 w w1 : World} {F : Nat → Prop} {q gn cn gi ci n : Nat} {u v' : Value} {rn ri rnC riC us is : List Value} {St Sn Si T : List Lvl} {l l' : Lvl} {k0 k1 : Value}

def HeldD (q gn gi : Nat) (cn ci : Value) (k : Nat) (u v' : Value) (w' : World) : Prop := w'.cell? ⟨q, 0, none⟩ = some cn ∧ w'.cell? ⟨q, 1, none⟩ = some ci ∧ w'.cell? ⟨gn, k, none⟩ = some u ∧ w'.cell? ⟨gi, k, none⟩ = some v'

theorem cell_own {e : TypeId} {g n cap : Nat} {xs : List Value} (h : w.ownsRow 0 e 1 (.slice (some ⟨g, 0, none⟩) n cap) n xs) {k : Nat} {x : Value} (hx : xs[k]? = some x) : w.cell? ⟨g, k, none⟩ = some x := by
  have := h.cells (g := g) rfl k x hx
  rwa [show (⟨g, 0, none⟩ : Addr).add k = ⟨g, k, none⟩ by unfold Addr.add; split <;> simp_all] at this

theorem nmsL_snoc (l : Lvl) (p : ByteArray × Int) : nmsL (l ++ [p]) = nmsL l ++ [.int .i64 p.2] := by simp [nmsL]

theorem RAt.wider {F' : Nat → Prop} (h : RAt w F q St) (hF : ∀ b, F b → F' b) (hl : ∀ b, F' b → b < w.heap.size) : RAt w F' q St := by
  obtain ⟨nv, iv, rn, ri, h⟩ := h
  have hE : ∀ b, Ext F w w b → Ext F' w w b := fun b e => e.elim (fun e => .inl (hF b e)) (fun e => by omega)
  exact ⟨nv, iv, rn, ri, h.cells, h.nl, h.il, h.rows, h.rowi, Kp.refl _ _, hF _ h.inQ, hl, fun b e => hE b (h.inN b e), fun b e => hE b (h.inI b e), fun v hv b e => hE b (h.inS v hv b e), fun v hv b e => hE b (h.inT v hv b e)⟩

theorem RS.heldD {T : List Lvl} (h : RS w0 F q k0 k1 (.slice (some ⟨gn, 0, none⟩) (T.length + 1) cn) (.slice (some ⟨gi, 0, none⟩) (T.length + 1) ci) (us ++ [u]) (is ++ [v']) rn ri Sn Si w) (h1 : us.length = T.length) (h2 : is.length = T.length) : HeldD q gn gi k0 k1 T.length u v' w := by
  have hn := h.nl
  have hi := h.il
  simp only [List.length_append, List.length_singleton, h1, h2] at hn hi
  exact ⟨h.c0, h.c1, cell_own hn (by rw [← h1]; simp), cell_own hi (by rw [← h2]; simp)⟩

theorem decl_ref_bad (h : RS w F q k0 k1 k0 k1 rn ri rn ri St St w) (hd : St.length ≤ 64) (s : ByteArray) (x : Int) (hs : isName s = false) : Calls Try.prog 18 #[.pointer (some ⟨q, 0, none⟩), .string s, .int .i64 x] w fun e w' => e = .returned (.int .i64 150) ∧ Drawn0 w w' := by
  obtain ⟨k, hk⟩ := isWord_is s
  rw [hs] at hk
  go_enter Try.func18, Try.ntmps18
  go_wp2_with fail
  refine (depth_ref h hd).mono ?_
  rintro e w1 ⟨rfl, rfl⟩
  go_wp2_with fail
  refine (PScopePlays.spinetref09_Word.calls k s false _ hk).mono ?_
  rintro e w1 ⟨rfl, d1⟩
  go_wp2
  go_ret
  exact ⟨rfl, d1⟩

set_option maxHeartbeats 1000000 in
theorem decl_ref_twice (h : RS w F q k0 k1 k0 k1 (us ++ [u]) (is ++ [v']) (us ++ [u]) (is ++ [v']) (T ++ [l]) (T ++ [l]) w) (hd : T.length < 64) (hm : l.length ≤ 256) (s : ByteArray) (x : Int) (hs : isName s = true) {v : Int} (hl : lk l s = some v) : Calls Try.prog 18 #[.pointer (some ⟨q, 0, none⟩), .string s, .int .i64 x] w fun e w' => e = .returned (.int .i64 151) ∧ Drawn0 w w' := by
  have hlen : us.length = T.length := by have := h.rows.len; simp at this; omega
  have hleni : is.length = T.length := by have := h.rowi.len; simp at this; omega
  obtain ⟨gn, cn, rfl, hcn⟩ := own_shape h.nl (by simp)
  obtain ⟨gi, ci, rfl, hci⟩ := own_shape h.il (by simp)
  simp only [List.length_append, List.length_singleton, hlen, hleni] at h hcn hci
  have hrow := h.rows.top
  obtain ⟨A, c, rfl⟩ := own_slice hrow
  obtain ⟨B, d, rfl⟩ := own_slice h.rowi.top
  have e1 : (((T ++ [l]).length : Nat) : Int) - 1 = (T.length : Int) := by simp
  obtain ⟨k, hk⟩ := isWord_is s
  rw [hs] at hk
  have f0 : (T.length : Int) < (T.length : Int) + 1 := by omega
  have hcell := (h.heldD hlen hleni).2.2.1
  have hc0 := h.c0
  go_enter Try.func18, Try.ntmps18
  go_wp2_with fail
  refine (depth_ref h (by simp; omega)).mono ?_
  rintro e w1 ⟨rfl, rfl⟩
  rw [e1]
  go_wp2_with fail
  refine (PScopePlays.spinetref09_Word.calls k s true _ hk).mono ?_
  rintro e w1 ⟨rfl, d1⟩
  have h1 := h.drawn d1
  clear hcell hc0
  have hcell := (h1.heldD hlen hleni).2.2.1
  have hc0 := h1.c0
  go_wp2_with fail
  refine (index_calls h1.rows.top (by omega) s).mono ?_
  rintro e w2 ⟨r, rfl, d2, hr⟩
  have h2 := h1.drawn d2
  have d12 := Drawn0.trans d1 d2
  rcases hr with ⟨hx, _⟩ | ⟨j, hj, rfl, _⟩
  · rw [hl] at hx
    cases hx
  · have hge : decide ((j : Int) ≥ 0) = true := decide_eq_true (by omega)
    go_wp2
    go_ret
    exact ⟨rfl, d12⟩

set_option maxHeartbeats 1000000 in
theorem decl_ref_many (h : RS w F q k0 k1 k0 k1 (us ++ [u]) (is ++ [v']) (us ++ [u]) (is ++ [v']) (T ++ [l]) (T ++ [l]) w) (hd : T.length < 64) (hm : l.length ≤ 256) (s : ByteArray) (x : Int) (hs : isName s = true) (hl : lk l s = none) (h256 : Aside0 (l.length = 256)) : Calls Try.prog 18 #[.pointer (some ⟨q, 0, none⟩), .string s, .int .i64 x] w fun e w' => e = .returned (.int .i64 3) ∧ Drawn0 w w' := by
  have hlen : us.length = T.length := by have := h.rows.len; simp at this; omega
  have hleni : is.length = T.length := by have := h.rowi.len; simp at this; omega
  obtain ⟨gn, cn, rfl, hcn⟩ := own_shape h.nl (by simp)
  obtain ⟨gi, ci, rfl, hci⟩ := own_shape h.il (by simp)
  simp only [List.length_append, List.length_singleton, hlen, hleni] at h hcn hci
  have hrow := h.rows.top
  obtain ⟨A, c, rfl⟩ := own_slice hrow
  obtain ⟨B, d, rfl⟩ := own_slice h.rowi.top
  have e1 : (((T ++ [l]).length : Nat) : Int) - 1 = (T.length : Int) := by simp
  obtain ⟨k, hk⟩ := isWord_is s
  rw [hs] at hk
  have f0 : (T.length : Int) < (T.length : Int) + 1 := by omega
  have hcell := (h.heldD hlen hleni).2.2.1
  have hc0 := h.c0
  go_enter Try.func18, Try.ntmps18
  go_wp2_with fail
  refine (depth_ref h (by simp; omega)).mono ?_
  rintro e w1 ⟨rfl, rfl⟩
  rw [e1]
  go_wp2_with fail
  refine (PScopePlays.spinetref09_Word.calls k s true _ hk).mono ?_
  rintro e w1 ⟨rfl, d1⟩
  have h1 := h.drawn d1
  clear hcell hc0
  have hcell := (h1.heldD hlen hleni).2.2.1
  have hc0 := h1.c0
  go_wp2_with fail
  refine (index_calls h1.rows.top (by omega) s).mono ?_
  rintro e w2 ⟨r, rfl, d2, hr⟩
  have h2 := h1.drawn d2
  have d12 := Drawn0.trans d1 d2
  rcases hr with ⟨_, rfl⟩ | ⟨j, hj, _, hx⟩
  · have hc2 := (h2.heldD hlen hleni).2.2.1
    have hc3 := h2.c0
    have g1 : decide ((l.length : Int) = 256) = true := decide_eq_true (by have := h256.out; omega)
    have g2 : ((l.length : Int) == 256) = true := by have := h256.out; simp; omega
    clear h256 hm hl h h1 h2 hrow hcell hc0
    go_wp2
    go_ret
    exact ⟨rfl, d12⟩
  · rw [hl] at hx
    cases hx

set_option maxHeartbeats 4000000 in
theorem decl_ref_ok (h : RS w F q k0 k1 k0 k1 (us ++ [u]) (is ++ [v']) (us ++ [u]) (is ++ [v']) (T ++ [l]) (T ++ [l]) w) (hd : T.length < 64) (hm : l.length ≤ 256) (s : ByteArray) (x : Int) (hs : isName s = true) (hl : lk l s = none) (h256 : l.length < 256) : Calls Try.prog 18 #[.pointer (some ⟨q, 0, none⟩), .string s, .int .i64 x] w fun e w' => e = .returned (.int .i64 0) ∧ RAt w' (Ext F w w') q (T ++ [l ++ [(s, x)]]) ∧ Kp F w w' := by
  have hlen : us.length = T.length := by have := h.rows.len; simp at this; omega
  have hleni : is.length = T.length := by have := h.rowi.len; simp at this; omega
  obtain ⟨gn, cn, rfl, hcn⟩ := own_shape h.nl (by simp)
  obtain ⟨gi, ci, rfl, hci⟩ := own_shape h.il (by simp)
  simp only [List.length_append, List.length_singleton, hlen, hleni] at h hcn hci
  have hrow := h.rows.top
  obtain ⟨A, c, rfl⟩ := own_slice hrow
  obtain ⟨B, d, rfl⟩ := own_slice h.rowi.top
  have e1 : (((T ++ [l]).length : Nat) : Int) - 1 = (T.length : Int) := by simp
  obtain ⟨k, hk⟩ := isWord_is s
  rw [hs] at hk
  have f0 : (T.length : Int) < (T.length : Int) + 1 := by omega
  have hcell := (h.heldD hlen hleni).2.2.1
  have hc0 := h.c0
  go_enter Try.func18, Try.ntmps18
  go_wp2_with fail
  refine (depth_ref h (by simp; omega)).mono ?_
  rintro e w1 ⟨rfl, rfl⟩
  rw [e1]
  go_wp2_with fail
  refine (PScopePlays.spinetref09_Word.calls k s true _ hk).mono ?_
  rintro e w1 ⟨rfl, d1⟩
  have h1 := h.drawn d1
  clear hcell hc0
  have hcell := (h1.heldD hlen hleni).2.2.1
  have hc0 := h1.c0
  go_wp2_with fail
  refine (index_calls h1.rows.top (by omega) s).mono ?_
  rintro e w2 ⟨r, rfl, d2, hr⟩
  have h2 := h1.drawn d2
  have d12 := Drawn0.trans d1 d2
  rcases hr with ⟨_, rfl⟩ | ⟨j, hj, _, hx⟩
  · have hc2 := (h2.heldD hlen hleni).2.2.1
    have hc3 := h2.c0
    have g1 : decide ((l.length : Int) = 256) = false := decide_eq_false (by omega)
    have g2 : ((l.length : Int) == 256) = false := by simp; omega
    have hlm : l.length ≤ 1000000 := by omega
    have hlen2 := Aside0.mk hlen
    have hleni2 := Aside0.mk hleni
    have kpw := Kp.drawn (Kp.refl F _) d12
    have hne0 : us.length = T.length := hlen
    have hF0 := h.ltF
    clear h h1 hrow d1 d2 d12
    go_wp2
    have H0 := Aside0.mk h2.drew
    clear h2 hc2 hc3 hcell hc0
    refine start_ (n := 34) (S := HeldD q gn gi (.slice (some ⟨gn, 0, none⟩) (T.length + 1) cn) (.slice (some ⟨gi, 0, none⟩) (T.length + 1) ci) T.length (.slice A l.length c) (.slice B l.length d)) (ds := [31, 33]) #[false, false, false, false, false, false, false, false, false, false, false, false, false, false, false, false, false, false, false, false, false, false, false, false, false, false, false, false, false, false, false, false, false, false] (by kernel_rfl) rfl rfl (H0.out.heldD hlen2.out hleni2.out) (fun hHeld => ?_)
    generalize hw3 : World.drew _ = w3 at H0 hHeld ⊢
    clear hw3
    refine pure_ (i := 0) (N := some 37) (v := ?_) (a' := ?_) #[true, false, false, false, false, false, false, false, false, false, false, false, false, false, false, false, false, false, false, false, false, false, false, false, false, false, false, false, false, false, false, false, false, false] rfl rfl (by kernel_rfl) (fun _ _ _ h => h) (Or.inl ⟨by rfl, ?_⟩) ?_ ?_
    rotate_left
    · intro w'; go_simp; try with_reducible rfl
    rotate_left
    · simp only [Act.put, List.setIfInBounds_toArray, List.set_cons_zero, List.set_cons_succ]; rfl
    refine pure_ (i := 1) (N := some 38) (v := ?_) (a' := ?_) #[true, true, false, false, false, false, false, false, false, false, false, false, false, false, false, false, false, false, false, false, false, false, false, false, false, false, false, false, false, false, false, false, false, false] rfl rfl (by kernel_rfl) (fun _ _ _ h => h) (Or.inl ⟨by rfl, ?_⟩) ?_ ?_
    rotate_left
    · intro w'; go_simp; try with_reducible rfl
    rotate_left
    · simp only [Act.put, List.setIfInBounds_toArray, List.set_cons_zero, List.set_cons_succ]; rfl
    refine pure_ (i := 2) (N := some 39) (v := ?_) (a' := ?_) #[true, true, true, false, false, false, false, false, false, false, false, false, false, false, false, false, false, false, false, false, false, false, false, false, false, false, false, false, false, false, false, false, false, false] rfl rfl (by kernel_rfl) (fun _ _ _ h => h) (Or.inl ⟨by rfl, ?_⟩) ?_ ?_
    rotate_left
    · intro w'; go_simp; try with_reducible rfl
    rotate_left
    · simp only [Act.put, List.setIfInBounds_toArray, List.set_cons_zero, List.set_cons_succ]; rfl
    refine pure_ (i := 4) (N := some 41) (v := ?_) (a' := ?_) #[true, true, true, false, true, false, false, false, false, false, false, false, false, false, false, false, false, false, false, false, false, false, false, false, false, false, false, false, false, false, false, false, false, false] rfl rfl (by kernel_rfl) (fun _ _ _ h => h) (Or.inl ⟨by rfl, ?_⟩) ?_ ?_
    rotate_left
    · intro w'; go_simp; try with_reducible rfl
    rotate_left
    · simp only [Act.put, List.setIfInBounds_toArray, List.set_cons_zero, List.set_cons_succ]; rfl
    refine pure_ (i := 5) (N := some 42) (v := ?_) (a' := ?_) #[true, true, true, false, true, true, false, false, false, false, false, false, false, false, false, false, false, false, false, false, false, false, false, false, false, false, false, false, false, false, false, false, false, false] rfl rfl (by kernel_rfl) (fun _ _ _ h => h) (Or.inl ⟨by rfl, ?_⟩) ?_ ?_
    rotate_left
    · intro w'; go_simp; try with_reducible rfl
    rotate_left
    · simp only [Act.put, List.setIfInBounds_toArray, List.set_cons_zero, List.set_cons_succ]; rfl
    refine pure_ (i := 6) (N := some 43) (v := ?_) (a' := ?_) #[true, true, true, false, true, true, true, false, false, false, false, false, false, false, false, false, false, false, false, false, false, false, false, false, false, false, false, false, false, false, false, false, false, false] rfl rfl (by kernel_rfl) (fun _ _ _ h => h) (Or.inl ⟨by rfl, ?_⟩) ?_ ?_
    rotate_left
    · intro w'; go_simp; try with_reducible rfl
    rotate_left
    · simp only [Act.put, List.setIfInBounds_toArray, List.set_cons_zero, List.set_cons_succ]; rfl
    refine pure_ (i := 7) (N := some 44) (v := ?_) (a' := ?_) #[true, true, true, false, true, true, true, true, false, false, false, false, false, false, false, false, false, false, false, false, false, false, false, false, false, false, false, false, false, false, false, false, false, false] rfl rfl (by kernel_rfl) (fun _ _ _ h => h) (Or.inl ⟨by rfl, ?_⟩) ?_ ?_
    rotate_left
    · intro w'; go_simp; try with_reducible rfl
    rotate_left
    · simp only [Act.put, List.setIfInBounds_toArray, List.set_cons_zero, List.set_cons_succ]; rfl
    refine pure_ (i := 9) (N := some 46) (v := ?_) (a' := ?_) #[true, true, true, false, true, true, true, true, false, true, false, false, false, false, false, false, false, false, false, false, false, false, false, false, false, false, false, false, false, false, false, false, false, false] rfl rfl (by kernel_rfl) (fun _ _ _ h => h) (Or.inl ⟨by rfl, ?_⟩) ?_ ?_
    rotate_left
    · intro w'; go_simp; try with_reducible rfl
    rotate_left
    · simp only [Act.put, List.setIfInBounds_toArray, List.set_cons_zero, List.set_cons_succ]; rfl
    refine pure_ (i := 10) (N := some 47) (v := ?_) (a' := ?_) #[true, true, true, false, true, true, true, true, false, true, true, false, false, false, false, false, false, false, false, false, false, false, false, false, false, false, false, false, false, false, false, false, false, false] rfl rfl (by kernel_rfl) (fun _ _ _ h => h) (Or.inl ⟨by rfl, ?_⟩) ?_ ?_
    rotate_left
    · intro w'; go_simp; try with_reducible rfl
    rotate_left
    · simp only [Act.put, List.setIfInBounds_toArray, List.set_cons_zero, List.set_cons_succ]; rfl
    refine pure_ (i := 11) (N := some 48) (v := ?_) (a' := ?_) #[true, true, true, false, true, true, true, true, false, true, true, true, false, false, false, false, false, false, false, false, false, false, false, false, false, false, false, false, false, false, false, false, false, false] rfl rfl (by kernel_rfl) (fun _ _ _ h => h) (Or.inl ⟨by rfl, ?_⟩) ?_ ?_
    rotate_left
    · intro w'; go_simp; try with_reducible rfl
    rotate_left
    · simp only [Act.put, List.setIfInBounds_toArray, List.set_cons_zero, List.set_cons_succ]; rfl
    refine pure_ (i := 12) (N := some 49) (v := ?_) (a' := ?_) #[true, true, true, false, true, true, true, true, false, true, true, true, true, false, false, false, false, false, false, false, false, false, false, false, false, false, false, false, false, false, false, false, false, false] rfl rfl (by kernel_rfl) (fun _ _ _ h => h) (Or.inl ⟨by rfl, ?_⟩) ?_ ?_
    rotate_left
    · intro w'; go_simp; try with_reducible rfl
    rotate_left
    · simp only [Act.put, List.setIfInBounds_toArray, List.set_cons_zero, List.set_cons_succ]; rfl
    refine pure_ (i := 14) (N := some 51) (v := ?_) (a' := ?_) #[true, true, true, false, true, true, true, true, false, true, true, true, true, false, true, false, false, false, false, false, false, false, false, false, false, false, false, false, false, false, false, false, false, false] rfl rfl (by kernel_rfl) (fun _ _ _ h => h) (Or.inl ⟨by rfl, ?_⟩) ?_ ?_
    rotate_left
    · intro w'; go_simp; try with_reducible rfl
    rotate_left
    · simp only [Act.put, List.setIfInBounds_toArray, List.set_cons_zero, List.set_cons_succ]; rfl
    refine pure_ (i := 17) (N := some 54) (v := ?_) (a' := ?_) #[true, true, true, false, true, true, true, true, false, true, true, true, true, false, true, false, false, true, false, false, false, false, false, false, false, false, false, false, false, false, false, false, false, false] rfl rfl (by kernel_rfl) (fun _ _ _ h => h) (Or.inl ⟨by rfl, ?_⟩) ?_ ?_
    rotate_left
    · intro w'; go_simp; try with_reducible rfl
    rotate_left
    · simp only [Act.put, List.setIfInBounds_toArray, List.set_cons_zero, List.set_cons_succ]; rfl
    refine pure_ (i := 20) (N := some 57) (v := ?_) (a' := ?_) #[true, true, true, false, true, true, true, true, false, true, true, true, true, false, true, false, false, true, false, false, true, false, false, false, false, false, false, false, false, false, false, false, false, false] rfl rfl (by kernel_rfl) (fun _ _ _ h => h) (Or.inl ⟨by rfl, ?_⟩) ?_ ?_
    rotate_left
    · intro w'; go_simp; try with_reducible rfl
    rotate_left
    · simp only [Act.put, List.setIfInBounds_toArray, List.set_cons_zero, List.set_cons_succ]; rfl
    refine pure_ (i := 21) (N := some 58) (v := ?_) (a' := ?_) #[true, true, true, false, true, true, true, true, false, true, true, true, true, false, true, false, false, true, false, false, true, true, false, false, false, false, false, false, false, false, false, false, false, false] rfl rfl (by kernel_rfl) (fun _ _ _ h => h) (Or.inl ⟨by rfl, ?_⟩) ?_ ?_
    rotate_left
    · intro w'; go_simp; try with_reducible rfl
    rotate_left
    · simp only [Act.put, List.setIfInBounds_toArray, List.set_cons_zero, List.set_cons_succ]; rfl
    refine pure_ (i := 22) (N := some 59) (v := ?_) (a' := ?_) #[true, true, true, false, true, true, true, true, false, true, true, true, true, false, true, false, false, true, false, false, true, true, true, false, false, false, false, false, false, false, false, false, false, false] rfl rfl (by kernel_rfl) (fun _ _ _ h => h) (Or.inl ⟨by rfl, ?_⟩) ?_ ?_
    rotate_left
    · intro w'; go_simp; try with_reducible rfl
    rotate_left
    · simp only [Act.put, List.setIfInBounds_toArray, List.set_cons_zero, List.set_cons_succ]; rfl
    refine pure_ (i := 24) (N := some 61) (v := ?_) (a' := ?_) #[true, true, true, false, true, true, true, true, false, true, true, true, true, false, true, false, false, true, false, false, true, true, true, false, true, false, false, false, false, false, false, false, false, false] rfl rfl (by kernel_rfl) (fun _ _ _ h => h) (Or.inl ⟨by rfl, ?_⟩) ?_ ?_
    rotate_left
    · intro w'; go_simp; try with_reducible rfl
    rotate_left
    · simp only [Act.put, List.setIfInBounds_toArray, List.set_cons_zero, List.set_cons_succ]; rfl
    refine pure_ (i := 27) (N := some 64) (v := ?_) (a' := ?_) #[true, true, true, false, true, true, true, true, false, true, true, true, true, false, true, false, false, true, false, false, true, true, true, false, true, false, false, true, false, false, false, false, false, false] rfl rfl (by kernel_rfl) (fun _ _ _ h => h) (Or.inl ⟨by rfl, ?_⟩) ?_ ?_
    rotate_left
    · intro w'; go_simp; try with_reducible rfl
    rotate_left
    · simp only [Act.put, List.setIfInBounds_toArray, List.set_cons_zero, List.set_cons_succ]; rfl
    refine take_ (i := 3) (N := some 40) (v := ?_) (a' := ?_) #[true, true, true, true, true, true, true, true, false, true, true, true, true, false, true, false, false, true, false, false, true, true, true, false, true, false, false, true, false, false, false, false, false, false] rfl rfl (by kernel_rfl) (fun _ _ _ h => h) (Or.inl ⟨by rfl, ?_⟩) hHeld ?_ ?_
    rotate_left
    · intro w' hSw; obtain ⟨s0, s1, s2, s3⟩ := hSw; go_simp; try with_reducible rfl
    rotate_left
    · simp only [Act.put, List.setIfInBounds_toArray, List.set_cons_zero, List.set_cons_succ]; rfl
    refine take_ (i := 8) (N := some 45) (v := ?_) (a' := ?_) #[true, true, true, true, true, true, true, true, true, true, true, true, true, false, true, false, false, true, false, false, true, true, true, false, true, false, false, true, false, false, false, false, false, false] rfl rfl (by kernel_rfl) (fun _ _ _ h => h) (Or.inl ⟨by rfl, ?_⟩) hHeld ?_ ?_
    rotate_left
    · intro w' hSw; obtain ⟨s0, s1, s2, s3⟩ := hSw; go_simp; try with_reducible rfl
    rotate_left
    · simp only [Act.put, List.setIfInBounds_toArray, List.set_cons_zero, List.set_cons_succ]; rfl
    refine take_ (i := 13) (N := some 50) (v := ?_) (a' := ?_) #[true, true, true, true, true, true, true, true, true, true, true, true, true, true, true, false, false, true, false, false, true, true, true, false, true, false, false, true, false, false, false, false, false, false] rfl rfl (by kernel_rfl) (fun _ _ _ h => h) (Or.inl ⟨by rfl, ?_⟩) hHeld ?_ ?_
    rotate_left
    · intro w' hSw; obtain ⟨s0, s1, s2, s3⟩ := hSw; go_simp; try with_reducible rfl
    rotate_left
    · simp only [Act.put, List.setIfInBounds_toArray, List.set_cons_zero, List.set_cons_succ]; rfl
    refine take_ (i := 23) (N := some 60) (v := ?_) (a' := ?_) #[true, true, true, true, true, true, true, true, true, true, true, true, true, true, true, false, false, true, false, false, true, true, true, true, true, false, false, true, false, false, false, false, false, false] rfl rfl (by kernel_rfl) (fun _ _ _ h => h) (Or.inl ⟨by rfl, ?_⟩) hHeld ?_ ?_
    rotate_left
    · intro w' hSw; obtain ⟨s0, s1, s2, s3⟩ := hSw; go_simp; try with_reducible rfl
    rotate_left
    · simp only [Act.put, List.setIfInBounds_toArray, List.set_cons_zero, List.set_cons_succ]; rfl
    refine pure_ (i := 15) (N := some 52) (v := ?_) (a' := ?_) #[true, true, true, true, true, true, true, true, true, true, true, true, true, true, true, true, false, true, false, false, true, true, true, true, true, false, false, true, false, false, false, false, false, false] rfl rfl (by kernel_rfl) (fun _ _ _ h => h) (Or.inl ⟨by rfl, ?_⟩) ?_ ?_
    rotate_left
    · intro w'; go_simp; try with_reducible rfl
    rotate_left
    · simp only [Act.put, List.setIfInBounds_toArray, List.set_cons_zero, List.set_cons_succ]; rfl
    refine pure_ (i := 25) (N := some 62) (v := ?_) (a' := ?_) #[true, true, true, true, true, true, true, true, true, true, true, true, true, true, true, true, false, true, false, false, true, true, true, true, true, true, false, true, false, false, false, false, false, false] rfl rfl (by kernel_rfl) (fun _ _ _ h => h) (Or.inl ⟨by rfl, ?_⟩) ?_ ?_
    rotate_left
    · intro w'; go_simp; try with_reducible rfl
    rotate_left
    · simp only [Act.put, List.setIfInBounds_toArray, List.set_cons_zero, List.set_cons_succ]; rfl
    refine take_ (i := 16) (N := some 53) (v := ?_) (a' := ?_) #[true, true, true, true, true, true, true, true, true, true, true, true, true, true, true, true, true, true, false, false, true, true, true, true, true, true, false, true, false, false, false, false, false, false] rfl rfl (by kernel_rfl) (fun _ _ _ h => h) (Or.inl ⟨by rfl, ?_⟩) hHeld ?_ ?_
    rotate_left
    · intro w' hSw; obtain ⟨s0, s1, s2, s3⟩ := hSw; go_simp; try with_reducible rfl
    rotate_left
    · simp only [Act.put, List.setIfInBounds_toArray, List.set_cons_zero, List.set_cons_succ]; rfl
    refine take_ (i := 26) (N := some 63) (v := ?_) (a' := ?_) #[true, true, true, true, true, true, true, true, true, true, true, true, true, true, true, true, true, true, false, false, true, true, true, true, true, true, true, true, false, false, false, false, false, false] rfl rfl (by kernel_rfl) (fun _ _ _ h => h) (Or.inl ⟨by rfl, ?_⟩) hHeld ?_ ?_
    rotate_left
    · intro w' hSw; obtain ⟨s0, s1, s2, s3⟩ := hSw; go_simp; try with_reducible rfl
    rotate_left
    · simp only [Act.put, List.setIfInBounds_toArray, List.set_cons_zero, List.set_cons_succ]; rfl
    refine join_ (σ := Value × Value × Value × Value) 4 #[true, true, true, true, true, true, true, true, true, true, true, true, true, true, true, true, true, true, true, true, true, true, true, true, true, true, true, true, true, true, false, false, false, false] (fun t => [(55, t.1), (56, t.2.1), (65, t.2.2.1), (66, t.2.2.2)]) (fun t w4 => (∃ A1 C1 A2 C2, t.2.1 = .slice A1 (l.length + 1) C1 ∧ t.2.2.2 = .slice A2 (l.length + 1) C2) ∧ RS w2 F q (.slice (some ⟨gn, 0, none⟩) (T.length + 1) cn) (.slice (some ⟨gi, 0, none⟩) (T.length + 1) ci) (.slice (some ⟨gn, 0, none⟩) (T.length + 1) cn) (.slice (some ⟨gi, 0, none⟩) (T.length + 1) ci) (us ++ [.slice A l.length c]) (is ++ [.slice B l.length d]) (us ++ [t.2.1]) (is ++ [t.2.2.2]) (T ++ [l ++ [(s, x)]]) (T ++ [l ++ [(s, x)]]) w4) ?_ (fun hC => ?_)
    rotate_left
    · skip
      refine two_ (i := 18) (j := 28) (Ni := some 55) (Nj := some 65) #[true, true, true, true, true, true, true, true, true, true, true, true, true, true, true, true, true, true, true, false, true, true, true, true, true, true, true, true, false, false, false, false, false, false] #[true, true, true, true, true, true, true, true, true, true, true, true, true, true, true, true, true, true, false, false, true, true, true, true, true, true, true, true, true, false, false, false, false, false] rfl rfl rfl rfl (by kernel_rfl) (by decide) (by decide) (fun K hK => ?_) (fun K hK => ?_)
      · rw [if_pos (by rfl)]
        go_simp
        refine hK.out _ _ ((H0.out.al _).heldD hlen2.out hleni2.out) (fun hHeld => ?_)
        clear hK K
        refine norm_ (a' := ?_) ?_ ?_
        rotate_left
        · first | (simp only [Act.put, List.setIfInBounds_toArray, List.set_cons_zero, List.set_cons_succ]; rfl) | rfl
        have H1 := Aside0.mk (H0.out.al (.cells #[.string s] 9))
        refine two_ (i := 19) (j := 28) (Ni := some 56) (Nj := some 65) #[true, true, true, true, true, true, true, true, true, true, true, true, true, true, true, true, true, true, true, true, true, true, true, true, true, true, true, true, false, false, false, false, false, false] #[true, true, true, true, true, true, true, true, true, true, true, true, true, true, true, true, true, true, true, false, true, true, true, true, true, true, true, true, true, false, false, false, false, false] rfl rfl rfl rfl (by kernel_rfl) (by decide) (by decide) (fun K hK => ?_) (fun K hK => ?_)
        · refine appStep _ (by rfl) (by rfl) (.tmp 53) (.tmp 55) 40 9 (.string ByteArray.empty) (.string s) 16 rfl Try.underlying40 info9 rfl (by decide) (.slice A l.length c) l.length (names l) (by rfl) (w3.heap.size) (by rfl) (box_new _ _ _) H1.out.rows.top rfl hlm ?_
          intro A1 C1 w5 ho_n hg_n hat_n
          have H2 := Aside0.mk (H1.out.turnN (l' := l ++ [(s, x)]) hg_n (by rw [names_snoc]; simpa using ho_n) hat_n)
          refine hK.out _ _ (H2.out.heldD hlen2.out hleni2.out) (fun hHeld => ?_)
          clear hK K
          refine norm_ (a' := ?_) ?_ ?_
          rotate_left
          · show Act.put _ (some 56) (.slice A1 (l.length + 1) C1) = _; first | (simp only [Act.put, List.setIfInBounds_toArray, List.set_cons_zero, List.set_cons_succ]; rfl) | rfl
          refine one_ (i := 28) (N := some 65) #[true, true, true, true, true, true, true, true, true, true, true, true, true, true, true, true, true, true, true, true, true, true, true, true, true, true, true, true, true, false, false, false, false, false] rfl rfl (by kernel_rfl) (by decide) (fun K hK => ?_)
          rw [if_pos (by rfl)]
          go_simp
          refine hK.out _ _ ((H2.out.al _).heldD hlen2.out hleni2.out) (fun hHeld => ?_)
          clear hK K
          refine norm_ (a' := ?_) ?_ ?_
          rotate_left
          · first | (simp only [Act.put, List.setIfInBounds_toArray, List.set_cons_zero, List.set_cons_succ]; rfl) | rfl
          have H3 := Aside0.mk (H2.out.al (.cells #[.int .i64 x] 3))
          refine one_ (i := 29) (N := some 66) #[true, true, true, true, true, true, true, true, true, true, true, true, true, true, true, true, true, true, true, true, true, true, true, true, true, true, true, true, true, true, false, false, false, false] rfl rfl (by kernel_rfl) (by decide) (fun K hK => ?_)
          refine appStep _ (by rfl) (by rfl) (.tmp 63) (.tmp 65) 43 3 (.int .i64 0) (.int .i64 x) 8 rfl Try.underlying43 info3 rfl (by decide) (.slice B l.length d) l.length (nmsL l) (by rfl) (w5.heap.size) (by rfl) (box_new _ _ _) H3.out.rowi.top rfl hlm ?_
          intro A2 C2 w6 ho_i hg_i hat_i
          have H4 := Aside0.mk (H3.out.turnI (l' := l ++ [(s, x)]) hg_i (by rw [nmsL_snoc]; simpa using ho_i) hat_i)
          refine hK.out _ _ (H4.out.heldD hlen2.out hleni2.out) (fun hHeld => ?_)
          clear hK K
          refine norm_ (a' := ?_) ?_ ?_
          rotate_left
          · show Act.put _ (some 66) (.slice A2 (l.length + 1) C2) = _; first | (simp only [Act.put, List.setIfInBounds_toArray, List.set_cons_zero, List.set_cons_succ]; rfl) | rfl
          exact hC (.slice (some ⟨w3.heap.size, 0, none⟩) 1 1, .slice A1 (l.length + 1) C1, .slice (some ⟨w5.heap.size, 0, none⟩) 1 1, .slice A2 (l.length + 1) C2) _ ⟨⟨_, _, _, _, rfl, rfl⟩, H4.out⟩
        · rw [if_pos (by rfl)]
          go_simp
          refine hK.out _ _ ((H1.out.al _).heldD hlen2.out hleni2.out) (fun hHeld => ?_)
          clear hK K
          refine norm_ (a' := ?_) ?_ ?_
          rotate_left
          · first | (simp only [Act.put, List.setIfInBounds_toArray, List.set_cons_zero, List.set_cons_succ]; rfl) | rfl
          have H2 := Aside0.mk (H1.out.al (.cells #[.int .i64 x] 3))
          refine one_ (i := 19) (N := some 56) #[true, true, true, true, true, true, true, true, true, true, true, true, true, true, true, true, true, true, true, true, true, true, true, true, true, true, true, true, true, false, false, false, false, false] rfl rfl (by kernel_rfl) (by decide) (fun K hK => ?_)
          refine appStep _ (by rfl) (by rfl) (.tmp 53) (.tmp 55) 40 9 (.string ByteArray.empty) (.string s) 16 rfl Try.underlying40 info9 rfl (by decide) (.slice A l.length c) l.length (names l) (by rfl) (w3.heap.size) (by rfl) (box_past _ _ _ _) H2.out.rows.top rfl hlm ?_
          intro A1 C1 w5 ho_n hg_n hat_n
          have H3 := Aside0.mk (H2.out.turnN (l' := l ++ [(s, x)]) hg_n (by rw [names_snoc]; simpa using ho_n) hat_n)
          refine hK.out _ _ (H3.out.heldD hlen2.out hleni2.out) (fun hHeld => ?_)
          clear hK K
          refine norm_ (a' := ?_) ?_ ?_
          rotate_left
          · show Act.put _ (some 56) (.slice A1 (l.length + 1) C1) = _; first | (simp only [Act.put, List.setIfInBounds_toArray, List.set_cons_zero, List.set_cons_succ]; rfl) | rfl
          refine one_ (i := 29) (N := some 66) #[true, true, true, true, true, true, true, true, true, true, true, true, true, true, true, true, true, true, true, true, true, true, true, true, true, true, true, true, true, true, false, false, false, false] rfl rfl (by kernel_rfl) (by decide) (fun K hK => ?_)
          refine appStep _ (by rfl) (by rfl) (.tmp 63) (.tmp 65) 43 3 (.int .i64 0) (.int .i64 x) 8 rfl Try.underlying43 info3 rfl (by decide) (.slice B l.length d) l.length (nmsL l) (by rfl) (w3.heap.size + 1) (by rfl) (hg_n.cell (box_new2 _ _ _ _) (fun e => absurd (own_lt H0.out.rows.top _ e.symm) (Nat.not_lt.2 (Nat.le_succ _)))) H3.out.rowi.top rfl hlm ?_
          intro A2 C2 w6 ho_i hg_i hat_i
          have H4 := Aside0.mk (H3.out.turnI (l' := l ++ [(s, x)]) hg_i (by rw [nmsL_snoc]; simpa using ho_i) hat_i)
          refine hK.out _ _ (H4.out.heldD hlen2.out hleni2.out) (fun hHeld => ?_)
          clear hK K
          refine norm_ (a' := ?_) ?_ ?_
          rotate_left
          · show Act.put _ (some 66) (.slice A2 (l.length + 1) C2) = _; first | (simp only [Act.put, List.setIfInBounds_toArray, List.set_cons_zero, List.set_cons_succ]; rfl) | rfl
          exact hC (.slice (some ⟨w3.heap.size, 0, none⟩) 1 1, .slice A1 (l.length + 1) C1, .slice (some ⟨(w3.heap.size + 1), 0, none⟩) 1 1, .slice A2 (l.length + 1) C2) _ ⟨⟨_, _, _, _, rfl, rfl⟩, H4.out⟩
      · rw [if_pos (by rfl)]
        go_simp
        refine hK.out _ _ ((H0.out.al _).heldD hlen2.out hleni2.out) (fun hHeld => ?_)
        clear hK K
        refine norm_ (a' := ?_) ?_ ?_
        rotate_left
        · first | (simp only [Act.put, List.setIfInBounds_toArray, List.set_cons_zero, List.set_cons_succ]; rfl) | rfl
        have H1 := Aside0.mk (H0.out.al (.cells #[.int .i64 x] 3))
        refine one_ (i := 18) (N := some 55) #[true, true, true, true, true, true, true, true, true, true, true, true, true, true, true, true, true, true, true, false, true, true, true, true, true, true, true, true, true, false, false, false, false, false] rfl rfl (by kernel_rfl) (by decide) (fun K hK => ?_)
        rw [if_pos (by rfl)]
        go_simp
        refine hK.out _ _ ((H1.out.al _).heldD hlen2.out hleni2.out) (fun hHeld => ?_)
        clear hK K
        refine norm_ (a' := ?_) ?_ ?_
        rotate_left
        · first | (simp only [Act.put, List.setIfInBounds_toArray, List.set_cons_zero, List.set_cons_succ]; rfl) | rfl
        have H2 := Aside0.mk (H1.out.al (.cells #[.string s] 9))
        refine one_ (i := 19) (N := some 56) #[true, true, true, true, true, true, true, true, true, true, true, true, true, true, true, true, true, true, true, true, true, true, true, true, true, true, true, true, true, false, false, false, false, false] rfl rfl (by kernel_rfl) (by decide) (fun K hK => ?_)
        refine appStep _ (by rfl) (by rfl) (.tmp 53) (.tmp 55) 40 9 (.string ByteArray.empty) (.string s) 16 rfl Try.underlying40 info9 rfl (by decide) (.slice A l.length c) l.length (names l) (by rfl) (w3.heap.size + 1) (by rfl) (box_new2 _ _ _ _) H2.out.rows.top rfl hlm ?_
        intro A1 C1 w5 ho_n hg_n hat_n
        have H3 := Aside0.mk (H2.out.turnN (l' := l ++ [(s, x)]) hg_n (by rw [names_snoc]; simpa using ho_n) hat_n)
        refine hK.out _ _ (H3.out.heldD hlen2.out hleni2.out) (fun hHeld => ?_)
        clear hK K
        refine norm_ (a' := ?_) ?_ ?_
        rotate_left
        · show Act.put _ (some 56) (.slice A1 (l.length + 1) C1) = _; first | (simp only [Act.put, List.setIfInBounds_toArray, List.set_cons_zero, List.set_cons_succ]; rfl) | rfl
        refine one_ (i := 29) (N := some 66) #[true, true, true, true, true, true, true, true, true, true, true, true, true, true, true, true, true, true, true, true, true, true, true, true, true, true, true, true, true, true, false, false, false, false] rfl rfl (by kernel_rfl) (by decide) (fun K hK => ?_)
        refine appStep _ (by rfl) (by rfl) (.tmp 63) (.tmp 65) 43 3 (.int .i64 0) (.int .i64 x) 8 rfl Try.underlying43 info3 rfl (by decide) (.slice B l.length d) l.length (nmsL l) (by rfl) (w3.heap.size) (by rfl) (hg_n.cell (box_past _ _ _ _) (fun e => absurd (own_lt H0.out.rows.top _ e.symm) (Nat.lt_irrefl _))) H3.out.rowi.top rfl hlm ?_
        intro A2 C2 w6 ho_i hg_i hat_i
        have H4 := Aside0.mk (H3.out.turnI (l' := l ++ [(s, x)]) hg_i (by rw [nmsL_snoc]; simpa using ho_i) hat_i)
        refine hK.out _ _ (H4.out.heldD hlen2.out hleni2.out) (fun hHeld => ?_)
        clear hK K
        refine norm_ (a' := ?_) ?_ ?_
        rotate_left
        · show Act.put _ (some 66) (.slice A2 (l.length + 1) C2) = _; first | (simp only [Act.put, List.setIfInBounds_toArray, List.set_cons_zero, List.set_cons_succ]; rfl) | rfl
        exact hC (.slice (some ⟨(w3.heap.size + 1), 0, none⟩) 1 1, .slice A1 (l.length + 1) C1, .slice (some ⟨w3.heap.size, 0, none⟩) 1 1, .slice A2 (l.length + 1) C2) _ ⟨⟨_, _, _, _, rfl, rfl⟩, H4.out⟩
    rintro ⟨b1, v1, b2, v2⟩ w4 ⟨⟨A1, C1, A2, C2, e1, e2⟩, H5⟩
    dsimp only at e1 e2 H5
    subst e1; subst e2
    refine norm_ (a' := ?_) ?_ ?_
    rotate_left
    · simp only [putAll, Act.put, List.setIfInBounds_toArray, List.set_cons_zero, List.set_cons_succ]; rfl
    refine pure_ (i := 30) (N := some 67) (v := ?_) (a' := ?_) #[true, true, true, true, true, true, true, true, true, true, true, true, true, true, true, true, true, true, true, true, true, true, true, true, true, true, true, true, true, true, true, false, false, false] rfl rfl (by kernel_rfl) (fun _ _ _ h => h) (Or.inl ⟨by rfl, ?_⟩) ?_ ?_
    rotate_left
    · intro w'; go_simp; try with_reducible rfl
    rotate_left
    · simp only [Act.put, List.setIfInBounds_toArray, List.set_cons_zero, List.set_cons_succ]; rfl
    have hn5 := H5.nl
    simp only [List.length_append, List.length_singleton, hlen2.out] at hn5
    have k2 := (H5.heldD hlen2.out hleni2.out).2.2.1
    have kf := hn5.frozenAt T.length
    refine last_ (i := 31) (N := none) #[true, true, true, true, true, true, true, true, true, true, true, true, true, true, true, true, true, true, true, true, true, true, true, true, true, true, true, true, true, true, true, true, false, false] rfl rfl (by kernel_rfl) (by decide) (fun K hK => ?_)
    rw [if_pos (by rfl)]
    go_simp
    refine hK.out _ _ ?_
    clear hK K
    have H6 := H5.cellN T.length (.slice A1 (l.length + 1) C1)
    rw [← hlen2.out, set_last, hlen2.out] at H6
    refine pure_ (i := 32) (N := some 68) (v := ?_) (a' := ?_) #[true, true, true, true, true, true, true, true, true, true, true, true, true, true, true, true, true, true, true, true, true, true, true, true, true, true, true, true, true, true, true, true, true, false] rfl rfl (by kernel_rfl) (fun _ _ _ h => h) (Or.inl ⟨by rfl, ?_⟩) ?_ ?_
    rotate_left
    · intro w'; go_simp; try with_reducible rfl
    rotate_left
    · simp only [Act.put, List.setIfInBounds_toArray, List.set_cons_zero, List.set_cons_succ]; rfl
    clear k2 kf
    have hn6 := H6.il
    simp only [List.length_append, List.length_singleton, hleni2.out] at hn6
    have k3 := (H6.heldD hlen2.out hleni2.out).2.2.2
    have kf := hn6.frozenAt T.length
    refine last_ (i := 33) (N := none) #[true, true, true, true, true, true, true, true, true, true, true, true, true, true, true, true, true, true, true, true, true, true, true, true, true, true, true, true, true, true, true, true, true, true] rfl rfl (by kernel_rfl) (by decide) (fun K hK => ?_)
    rw [if_pos (by rfl)]
    go_simp
    refine hK.out _ _ ?_
    clear hK K
    have H7 := H6.cellI T.length (.slice A2 (l.length + 1) C2)
    rw [← hleni2.out, set_last, hleni2.out] at H7
    refine done_ (by kernel_rfl) ?_
    clear k3 kf
    go_wp2
    go_ret
    obtain ⟨a1, a2⟩ := H7.done
    refine ⟨rfl, a1.wider (fun b hb => hb.elim .inl (fun e => .inr ⟨Nat.le_trans kpw.size e.1, e.2⟩)) (Ext.lt hF0 (Nat.le_trans kpw.size a2.size)), kpw.trans a2⟩
  · rw [hl] at hx
    cases hx
end
end Go.Proofs.Ytchkimmhallckaa.Sc
