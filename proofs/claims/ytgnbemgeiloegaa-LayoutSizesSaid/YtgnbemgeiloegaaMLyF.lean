import Derived.Test.YtgnbemgeiloegaaMLyE
import Derived.Test.YtgnbemgeiloegaaMEW
import Derived.Test.YtgnbemgeiloegaaMEPTypesGoodsx3
import Derived.Test.YtgnbemgeiloegaaMETgOpn
namespace Go.Proofs.Ytgnbemgeiloegaa.Ly
open Go.RowKit Go.Proofs.Ytgnbemgeiloegaa.Tg
open Go.Proofs.YtgnbemgeiloegaaW.PrintWords Go.Proofs.YtgnbemgeiloegaaW.PrintLast Go.Proofs.YtgnbemgeiloegaaW.PrintMore
set_option linter.unusedVariables false
set_option linter.unusedSimpArgs false
open Go.Proofs.Ytgnbemgeiloegaa.PTypesGoods
def offL (t : List S40) (S : Int → Int) (s : ByteArray) : Int → List S42 → Option (Int × Int)
 | _, [] => none
 | n, f :: r => if (f.f0.toList == s.toList) = true then some (plcAt t n f.f2, f.f2) else offL t S s (plcEnd t S n f.f2) r
def offF (t : List S40) (S : Int → Int) (s : ByteArray) : Nat → Int → Int × Int × Bool
 | 0, _ => (0, 0, false)
 | m + 1, a => if (rd_T40 t a).f0 = 9 then (match offL t S s (S (rd_T40 t a).f5) (rd_T40 t a).f6 with
  | some r => (r.1, r.2, true)
  | none => offF t S s m (rd_T40 t a).f5) else (0, 0, false)
section
variable {t : List S40} {S : Int → Int} {s : ByteArray}
theorem offF_zero (g : GoodR t) (m : Nat) : offF t S s m 0 = (0, 0, false) := by
 cases m with
 | zero => rfl
 | succ m =>
  rw [offF, if_neg]
  rw [g.bas 0 (by decide) (by decide)]
  exact show ¬ (0 : Int) = 9 by decide
theorem offF_fuel (g : GoodR t) : ∀ (n m m' : Nat) (a : Int), BaseCh t n a → n ≤ m → n ≤ m' → offF t S s m a = offF t S s m' a
 | 0, m, m', a, h, _, _ => h.elim
 | n + 1, 0, m', a, h, hm, _ => by omega
 | n + 1, m + 1, 0, a, h, _, hm => by omega
 | n + 1, m + 1, m' + 1, a, h, h1, h2 => by
  rw [offF, offF]
  have e : offF t S s m (rd_T40 t a).f5 = offF t S s m' (rd_T40 t a).f5 := by
   rcases h.2.2 with h5 | h5
   · rw [h5, offF_zero g, offF_zero g]
   · exact offF_fuel g n m m' _ h5 (by omega) (by omega)
  rw [e]
theorem offF_next (g : GoodR t) {a : Int} (ha : InT t a) (h9 : (rd_T40 t a).f0 = 9) : offF t S s 7 a = (match offL t S s (S (rd_T40 t a).f5) (rd_T40 t a).f6 with
 | some r => (r.1, r.2, true)
 | none => offF t S s 7 (rd_T40 t a).f5) := by
 rw [offF, if_pos h9]
 have e : offF t S s 6 (rd_T40 t a).f5 = offF t S s 7 (rd_T40 t a).f5 := by
  rcases (gd_chain g ha h9).2.2 with h5 | h5
  · rw [h5, offF_zero g, offF_zero g]
  · exact offF_fuel g 5 6 7 _ h5 (by omega) (by omega)
 rw [e]
theorem offF_stop {a : Int} (h9 : ¬ (rd_T40 t a).f0 = 9) : offF t S s 7 a = (0, 0, false) := by rw [offF, if_neg h9]
theorem offL_step (n : Int) (l : List S42) (k : Nat) (h : k < l.length) : offL t S s n (l.drop k) = if ((l[k]).f0.toList == s.toList) = true then some (plcAt t n (l[k]).f2, (l[k]).f2) else offL t S s (plcEnd t S n (l[k]).f2) (l.drop (k + 1)) := by
 rw [List.drop_eq_getElem_cons h]; rfl
end
def At38 (t : List S40) (S : Int → Int) (w0 : World) (A : Option Addr) (c q : Nat) : Prop :=
 ∀ (a : Int) (s : ByteArray) (w : World), InT t a → WS t S w0 (.slice A t.length c) q w →
  Calls Try.prog 38 #[.pointer (some ⟨q, 0, none⟩), .int .i64 a, .string s] w fun e w' => e = .returned (.tuple #[.int .i64 (offF t S s 7 a).1, .int .i64 (offF t S s 7 a).2.1, .bool (offF t S s 7 a).2.2]) ∧ WS t S w0 (.slice A t.length c) q w'
set_option maxHeartbeats 16000000 in
set_option maxRecDepth 100000 in
theorem offset38 {t : List S40} {S : Int → Int} {w0 : World} {A : Option Addr} {c q d : Nat} (E : Env t S w0 A c q) (hD : ∀ a, InT t a → Deep (insP t) d a) : At38 t S w0 A c q := by
 intro a s w ha hw
 have H34 := Aside0.mk (size_calls E d)
 have H41 := Aside0.mk (place_calls E d)
 have HZ := Aside0.mk E.s
 have HG := Aside0.mk E.g
 have HC := Aside0.mk E.C
 have HD := Aside0.mk hD
 have HA := Aside0.mk ha
 have HW := Aside0.mk hw
 have HWi := Aside0.mk (gd_ones E.g).within
 clear E hD ha hw
 go_enter Try.func38, Try.ntmps38
 go_wp2
 go_loopw [1] (fun av wr => ∃ a1 : Int, av = .int .i64 a1 ∧ Aside0 (InT t a1) ∧ Aside0 (offF t S s 7 a = offF t S s 7 a1) ∧ Aside0 (WS t S w0 (.slice A t.length c) q wr)) (fun av _ => steps t (intOf av))
 case atStart => exact ⟨a, rfl, HA, ⟨rfl⟩, by first | exact HW | exact ⟨HW.out.on (pw_below_drewN (Below.refl _ _) _)⟩⟩
 case round =>
  obtain ⟨a1, rfl, HI, HO, HB⟩ := hrel
  obtain ⟨i0, i1⟩ := HI.out
  obtain ⟨ad, A6, c6, A7, c7, hA, p0, p1, p2, p3, p4, p5, p6, p7, p8, p9, l6, C6, l7, C7⟩ := at_T40 HC.out a1 i0 i1
  subst hA
  have HX0 := Aside0.mk (CellsX.mk p0 p1 p2 p3 p4 p5 p6 p7 p8 p9)
  have HC6 := Aside0.mk C6
  clear p0 p1 p2 p3 p4 p5 p6 p7 p8 p9 C6 C7 l7
  by_cases h9 : (rd_T40 t a1).f0 = 9
  ·
   have hstep := Aside0.mk (HO.out.trans (offF_next HG.out HI.out h9))
   have hBC := gd_chain HG.out HI.out h9
   have hne : a1 ≠ 0 := fun e => by
    rw [e, HG.out.bas 0 (by decide) (by decide)] at h9
    exact absurd h9 (show ¬ (0 : Int) = 9 by decide)
   have hms := steps_lt hBC hne
   have hins : insP t a1 = (rd_T40 t a1).f5 :: (rd_T40 t a1).f6.map (·.f2) := by unfold insP; rw [if_neg (by omega), if_pos h9]
   have I5 : InT t (rd_T40 t a1).f5 := HWi.out.place a1 HI.out _ (by rw [hins]; simp)
   have IF : ∀ f ∈ (rd_T40 t a1).f6, InT t f.f2 := fun f hf => HWi.out.place a1 HI.out _ (by rw [hins]; simp; exact .inr ⟨f, hf, rfl⟩)
   have hl6 : (rd_T40 t a1).f6.length ≤ 64 := HWi.out.fields a1 HI.out
   have s0 := HZ.out.lo _ I5
   have s1 := HZ.out.hi _ I5
   have HI5 := Aside0.mk I5
   have HD5 := Aside0.mk (HD.out _ I5)
   have HF := Aside0.mk IF
   have HR : Aside0 (∀ k : Nat, 0 ≤ endsP t S (S (rd_T40 t a1).f5) ((rd_T40 t a1).f6.take k) ∧ endsP t S (S (rd_T40 t a1).f5) ((rd_T40 t a1).f6.take k) ≤ 32769) := ⟨fun k => endsP_in _ _ s0 s1 (fun f hf => HZ.out.lo _ (IF f (List.mem_of_mem_take hf)))⟩
   clear hBC hne hins I5 IF HO s0 s1
   generalize rd_T40 t a1 = x at h9 hstep hms hl6 HI5 HD5 HF HR HX0 HC6 l6
   obtain ⟨k0, k1, k2, k3, k4, k5, k6, k7, k8, k9⟩ := CellsX.on HX0.out HB.out.below
   have hsl := HB.out.z.head
   have b9 : (x.f0 == 9) = true := by simp [h9]
   replace h9 := Aside0.mk h9
   go_upto_region 4 with (go_at_call 34; refine (H34.out x.f5 _ HI5.out HD5.out (by first | exact HB.out | exact HB.out.on (pw_below_drewN (Below.refl _ _) _))).mono ?_; rintro e w1 ⟨rfl, hW1, hK1⟩)
   clear k0 k1 k2 k3 k4 k5 k6 k7 k8 k9 hsl HB b9 hK1
   have HB := Aside0.mk hW1
   clear hW1
   obtain ⟨k0, k1, k2, k3, k4, k5, k6, k7, k8, k9⟩ := CellsX.on HX0.out HB.out.below
   have hsl := HB.out.z.head
   go_wp2
   clear k0 k1 k2 k3 k4 k5 k6 k7 k8 k9 hsl
   go_loopw [48, 9] (fun i n wr => ∃ k : Nat, k ≤ x.f6.length ∧ i = .int .i64 k ∧ n = .int .i64 (endsP t S (S x.f5) (x.f6.take k)) ∧ Aside0 (offL t S s (S x.f5) x.f6 = offL t S s (endsP t S (S x.f5) (x.f6.take k)) (x.f6.drop k)) ∧ Aside0 (WS t S w0 (.slice (some ad) t.length c) q wr)) (fun i _ _ => x.f6.length - (intOf i).toNat)
   case atStart => exact ⟨0, by omega, rfl, rfl, ⟨rfl⟩, by first | exact HB | exact ⟨HB.out.on (pw_below_drewN (Below.refl _ _) _)⟩⟩
   case round =>
    clear HB
    obtain ⟨k, hk, rfl, rfl, hL, HB⟩ := hrel
    by_cases hlt : k < x.f6.length
    ·
     have hx : decide ((k : Int) < (x.f6.length : Int)) = true := decide_eq_true (by omega)
     obtain ⟨ae, rfl, r0, r1, r2⟩ := at_T42 (Kd.C_below HC6.out HB.out.below) (k : Int) (by omega) (by omega)
     rw [Int.toNat_natCast, rd42n k hlt] at r0 r1 r2
     have HI6 := Aside0.mk (HF.out _ (List.getElem_mem hlt))
     have HD6 := Aside0.mk (HD.out _ HI6.out)
     have hmore := Aside0.mk (ends_more (t := t) (S := S) (S x.f5) x.f6 k hlt)
     have hone := Aside0.mk (hL.out.trans (offL_step _ x.f6 k hlt))
     have hr0 := (HR.out k).1
     have hr1 := (HR.out k).2
     generalize x.f6[k] = f at r0 r1 r2 HI6 HD6 hmore hone
     have hql := HB.out.z.lt
     have BX0 := heap_alloc_new wr (.cells #[.string f.f0, .bool f.f1, .int .i64 f.f2] 42)
     have HBX : Aside0 (∀ w2, KeepBut (wr.alloc (.cells #[.string f.f0, .bool f.f1, .int .i64 f.f2] 42)) w2 q none → w2.cell? ⟨wr.heap.size, 0, none⟩ = some (.string f.f0) ∧ w2.cell? ⟨wr.heap.size, 2, none⟩ = some (.int .i64 f.f2)) := ⟨fun w2 hK => by
      have e := hK.blk BX0 (by omega) (by simp)
      exact ⟨by rw [cell_of_row w2 _ _ _ _ _ e]; rfl, by rw [cell_of_row w2 _ _ _ _ _ e]; rfl⟩⟩
     clear BX0
     cases hn : (f.f0.toList == s.toList) with
     | true =>
      have hone2 := Aside0.mk (hone.out.trans (if_pos hn))
      have R : Aside0 (offF t S s 7 a = (plcAt t (endsP t S (S x.f5) (x.f6.take k)) f.f2, f.f2, true)) := ⟨by rw [hstep.out, hone2.out]⟩
      clear hone hone2 hmore hstep hL
      go_wp2_with (go_at_call 41; refine (H41.out (endsP t S (S x.f5) (x.f6.take k)) f.f2 _ HI6.out HD6.out hr0 (by omega) (HB.out.on (by first | exact below_alloc (Below.refl _ _) _ | exact pw_below_drewN (below_alloc (Below.refl _ _) _) _))).mono ?_; rintro e w2 ⟨rfl, hW2, hK2⟩; obtain ⟨t0, t2⟩ := HBX.out _ hK2; clear hK2)
      all_goals go_quiet (fail)
      all_goals
       go_wp2
       go_ret3
       exact ⟨by rw [R.out]; rfl, by first | exact hW2 | exact hW2.on (pw_below_drewN (Below.refl _ _) _) | exact hW2.on (below_drew (Below.refl _ _))⟩
     | false =>
      have hone2 := Aside0.mk (hone.out.trans (if_neg (by rw [hn]; decide)))
      clear hone
      go_wp2_with (go_at_call 41; refine (H41.out (endsP t S (S x.f5) (x.f6.take k)) f.f2 _ HI6.out HD6.out hr0 (by omega) (HB.out.on (by first | exact below_alloc (Below.refl _ _) _ | exact pw_below_drewN (below_alloc (Below.refl _ _) _) _))).mono ?_; rintro e w2 ⟨rfl, hW2, hK2⟩; obtain ⟨t0, t2⟩ := HBX.out _ hK2; clear hK2)
      go_roundw
      case rel => exact ⟨k + 1, by omega, by go_num, by rw [hmore.out], ⟨by rw [hone2.out, hmore.out]⟩, ⟨hW2⟩⟩
      case measure => simp [intOf]; omega
    ·
     have hx : decide ((k : Int) < (x.f6.length : Int)) = false := decide_eq_false (by omega)
     obtain ⟨k0, k1, k2, k3, k4, k5, k6, k7, k8, k9⟩ := CellsX.on HX0.out HB.out.below
     have hsl := HB.out.z.head
     have hdn : x.f6.drop k = [] := List.drop_of_length_le (by omega)
     have R : Aside0 (offF t S s 7 a = offF t S s 7 x.f5) := ⟨by rw [hstep.out, hL.out, hdn]; rfl⟩
     clear hdn hL
     go_wp2
     go_roundw
     case rel => exact ⟨x.f5, rfl, HI5, R, by first | exact HB | exact ⟨HB.out.on (pw_below_drewN (Below.refl _ _) _)⟩⟩
     case measure => simp only [intOf]; exact hms
  ·
   have R := Aside0.mk (HO.out.trans (offF_stop h9))
   obtain ⟨k0, k1, k2, k3, k4, k5, k6, k7, k8, k9⟩ := CellsX.on HX0.out HB.out.below
   have hsl := HB.out.z.head
   generalize rd_T40 t a1 = x at h9 k0 k1 k2 k3 k4 k5 k6 k7 k8 k9
   have b9 : (x.f0 == 9) = false := by simp [h9]
   replace h9 := Aside0.mk h9
   go_wp2
   go_ret3
   exact ⟨by rw [R.out]; rfl, by first | exact HB.out | exact HB.out.on (pw_below_drewN (Below.refl _ _) _)⟩
end Go.Proofs.Ytgnbemgeiloegaa.Ly
