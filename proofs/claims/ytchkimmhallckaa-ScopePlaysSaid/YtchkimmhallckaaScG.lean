import Derived.Test.YtchkimmhallckaaScF
namespace Go.Proofs.Ytchkimmhallckaa.Sc
open Go.RowKit Go.Maps Go.WideMaps
open Go.Proofs.YtchkimmhallckaaW.PrintWords Go.Proofs.YtchkimmhallckaaW.PrintLast Go.Proofs.YtchkimmhallckaaW.PrintMore
set_option linter.unusedVariables false
set_option linter.unusedSimpArgs false

section
variable {w w' w1 : World} {F F' : Nat → Prop} {g : Nat} {M M' : Int → ByteArray → Option Int} {St T : List Lvl} {l : Lvl} {N : Nat} {mp lv fv u : Value} {vs us : List Value}

theorem Rep.extM (h : Rep w F g M St N mp lv fv vs) (e : ∀ a b, M a b = M' a b) : Rep w F g M' St N mp lv fv vs := by
  have : M = M' := funext fun a => funext fun b => e a b
  rwa [← this]

theorem rowCells {e : TypeId} {A : Option Addr} {n c : Nat} {xs : List Value} (h : w.ownsRow 0 e 1 (.slice A n c) n xs) (hn : 0 < n) : ∃ ad, A = some ad ∧ ∀ (j : Nat) (u : Value), xs[j]? = some u → w.cell? (ad.add j) = some u := by
  rcases h.2 with ⟨h1, h2⟩ | ⟨g, cap, cur, h1, _⟩
  · omega
  · cases h1
    exact ⟨_, rfl, h.cells (g := g) rfl⟩

theorem size_in {n j : Nat} (h : j < n) : ¬ n ≤ j := Nat.not_le.2 h

theorem Rep.topRow (h : Rep w F g M (T ++ [l]) N mp lv fv (us ++ [u])) : w.ownsRow 0 9 1 u l.length (names l) := by
  have hlen := h.len
  simp at hlen
  exact h.row (us.length + 1) u l (by simp) (by rw [List.getElem?_append_right (by omega), hlen]; simp)

theorem names_at {j : Nat} (hj : j < l.length) : (names l)[j]? = some (.string (l[j]).1) := by
  simp [names, List.getElem?_eq_getElem hj]

theorem close_nil (w : World) : Calls Try.prog 16 #[.pointer none] w fun e w' => e = .returned (.bool false) ∧ w' = w := by
  go_enter Try.func16, Try.ntmps16
  go_wp2
  go_ret
  exact ⟨rfl, rfl⟩

theorem close_no (h : Rep w F g M St N mp lv fv []) : Calls Try.prog 16 #[.pointer (some ⟨g, 0, none⟩)] w fun e w' => e = .returned (.bool false) ∧ w' = w := by
  have c1 := h.c1
  obtain ⟨A, c, rfl⟩ := own_slice h.lists
  clear h
  go_enter Try.func16, Try.ntmps16
  go_wp2
  go_ret
  exact ⟨rfl, rfl⟩

/-- what is left of the map while the last level's names are struck -/
def strikeM (T : List Lvl) (l : Lvl) (j : Nat) (a : Int) (b : ByteArray) : Option Int := if a = T.length ∧ ∃ p ∈ l.take j, p.1 = b then none else ofSt (T ++ [l]) a b

theorem strike_next {j : Nat} (hj : j < l.length) (a : Int) (b : ByteArray) : putM (strikeM T l j) T.length (l[j]).1 none a b = strikeM T l (j + 1) a b := by
  unfold putM strikeM
  have e : l.take (j + 1) = l.take j ++ [l[j]] := by rw [List.take_add_one, List.getElem?_eq_getElem hj]; rfl
  rw [e]
  by_cases h1 : a = T.length
  · by_cases h2 : b = (l[j]).1
    · rw [if_pos ⟨h1, h2⟩, if_pos ⟨h1, l[j], List.mem_append.2 (.inr (List.mem_singleton.2 rfl)), h2.symm⟩]
    · rw [if_neg (fun e => h2 e.2)]
      by_cases h3 : ∃ p ∈ l.take j, p.1 = b
      · obtain ⟨p, hp, hb⟩ := h3
        rw [if_pos ⟨h1, p, hp, hb⟩, if_pos ⟨h1, p, List.mem_append.2 (.inl hp), hb⟩]
      · rw [if_neg (fun e => h3 e.2), if_neg]
        rintro ⟨_, p, hp, hb⟩
        rw [List.mem_append] at hp
        rcases hp with hp | hp
        · exact h3 ⟨p, hp, hb⟩
        · simp at hp
          subst hp
          exact h2 hb.symm
  · rw [if_neg (fun e => h1 e.1), if_neg (fun e => h1 e.1), if_neg (fun e => h1 e.1)]

theorem strike_all (a : Int) (b : ByteArray) : strikeM T l l.length a b = ofSt T a b := by
  unfold strikeM
  rw [List.take_length, ofSt_close T l]
  by_cases h1 : a = T.length
  · rw [if_pos h1]
    by_cases h3 : ∃ p ∈ l, p.1 = b
    · rw [if_pos ⟨h1, h3⟩]
    · rw [if_neg (fun e => h3 e.2), h1, ofSt_top]
      exact lk_none_of l b fun p hp hb => h3 ⟨p, hp, hb⟩
  · rw [if_neg (fun e => h1 e.1), if_neg h1]

set_option maxHeartbeats 1000000 in
theorem close_yes {gl cap : Nat} (h : Rep w F g (ofSt (T ++ [l])) (T ++ [l]) N mp (.slice (some ⟨gl, 0, none⟩) (us.length + 1) cap) fv (us ++ [u])) :
    Calls Try.prog 16 #[.pointer (some ⟨g, 0, none⟩)] w fun e w' => e = .returned (.bool true) ∧ Rep w' F g (ofSt T) T N mp (.slice (some ⟨gl, 0, none⟩) us.length cap) fv us ∧ Kp F w w' := by
  have c1 := h.c1
  have hrow := h.topRow
  obtain ⟨A, c, rfl⟩ := own_slice hrow
  have hcl : w.cell? ⟨gl, us.length, none⟩ = some (.slice A l.length c) := by
    have := h.lists.cells (g := gl) rfl us.length (.slice A l.length c) (by simp)
    rw [show (⟨gl, 0, none⟩ : Addr).add us.length = ⟨gl, us.length, none⟩ by unfold Addr.add; split <;> simp_all] at this
    exact this
  have hlen : us.length + 1 = T.length := by have := h.len; simp at this; omega
  have hT := Aside0.mk hlen
  have hdeep : us.length ≤ 62 := by have := h.deep; simp at this; omega
  have hmany := h.many l (by simp)
  have hshort := Aside0.mk (h.short l (by simp))
  have hcap : us.length + 1 ≤ cap := by
    rcases h.lists.2 with ⟨h', _⟩ | ⟨_, _, _, h', _, _, hn, _⟩
    · cases h'
    · simp at h' hn
      omega
  have HR := Aside0.mk h
  have q1 : us.length ≤ cap := by omega
  have q2 : ¬ cap = 0 := by omega
  have q3 : ¬ cap < us.length := by omega
  have e1 : wrap64 ((us.length : Int) + 1 - 1) = (us.length : Int) := by unfold wrap64; omega
  have z0 : ((us.length : Int) + 1 == 0) = false := by simp; omega
  clear h hlen
  go_enter Try.func16, Try.ntmps16
  go_wp2_with fail
  go_loopw [30] (fun i wr => ∃ j : Nat, j ≤ l.length ∧ i = .int .i64 j ∧ Aside0 (Rep wr F g (strikeM T l j) (T ++ [l]) N mp (.slice (some ⟨gl, 0, none⟩) (us.length + 1) cap) fv (us ++ [.slice A l.length c])) ∧ Aside0 (Kp F w wr)) (fun i _ => l.length - (intOf i).toNat)
  case atStart => exact ⟨0, Nat.zero_le _, rfl, ⟨HR.out.extM fun a b => by simp [strikeM]⟩, ⟨Kp.refl _ _⟩⟩
  case round =>
    obtain ⟨j, hj, rfl, HR2, HK⟩ := hrel
    have c0 := HR2.out.c0
    have c1 := HR2.out.c1
    have kf := HR2.out.f 1
    by_cases hlt : j < l.length
    · have hx : decide ((j : Int) < (l.length : Int)) = true := decide_eq_true (by omega)
      obtain ⟨ad, rfl, hc⟩ := rowCells HR2.out.topRow (by omega)
      have hcj := hc j _ (names_at hlt)
      have hsz : (l[j]).1.size ≤ maxLen := by have := hshort.out _ (List.getElem_mem hlt); unfold maxLen; omega
      have hw : (Lit.int .i64 ((us.length : Int) + 1)).wf = true := wf_small (by omega) (by omega)
      have hin := size_in hlt
      clear hc
      go_wp2_with (first | (at_delete; refine dropAt _ rfl _ _ rfl mp N (strikeM T l j) ((us.length : Int) + 1) (l[j]).1 HR2.out.map hw hsz ?hm ?hx ?_; (case hm => rfl); (case hx => rfl); intro w2 hm2 hg2))
      go_roundw
      case rel =>
        refine ⟨j + 1, by omega, by go_num, ⟨(HR2.out.setMap hg2 hm2).extM fun a b => ?_⟩, ⟨HK.out.trans (Kp.grown hg2 HR2.out.inM)⟩⟩
        rw [← strike_next hlt, ← hT.out]
        rfl
      case measure => simp [intOf]; omega
    · have hx : decide ((j : Int) < (l.length : Int)) = false := decide_eq_false (by omega)
      have hjl : j = l.length := by omega
      go_wp2
      go_ret
      subst hjl
      exact ⟨rfl, (HR2.out.closeLists.extM fun a b => strike_all a b), HK.out.trans (Kp.setCell _ _ _ HR2.out.inG)⟩
end
end Go.Proofs.Ytchkimmhallckaa.Sc
