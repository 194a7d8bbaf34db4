import Derived.Test.YtgnbemgeiloegaaMLyH
import Derived.Deep.QuietTactic
import Derived.BigQuiet
import Derived.Test.YtgnbemgeiloegaaMEW
import Derived.Test.YtgnbemgeiloegaaMEPTypesGoodsx3
import Derived.Test.YtgnbemgeiloegaaMETgOpn
namespace Go.Proofs.Ytgnbemgeiloegaa.Ly
open Go.RowKit Go.Proofs.Ytgnbemgeiloegaa.Tg
open Go.Proofs.YtgnbemgeiloegaaW.PrintWords Go.Proofs.YtgnbemgeiloegaaW.PrintLast Go.Proofs.YtgnbemgeiloegaaW.PrintMore
attribute [local go_sem] max2_int min2_int max_two min_two
set_option linter.unusedVariables false
set_option linter.unusedSimpArgs false
open Go.Proofs.Ytgnbemgeiloegaa.PTypesGoods
theorem made_ints (n : Nat) : madeCells (Value.cells (.int .i64 0)) n = ((List.replicate n (0 : Int)).map (Value.int .i64)).toArray := by
 unfold madeCells
 apply Array.ext
 · simp
 ·
  intro i h1 h2
  simp [Value.cells, Nat.mod_one]
theorem rep_arr (n : Nat) : Array.replicate n (Value.int .i64 0) = ((List.replicate n (0 : Int)).map (Value.int .i64)).toArray := by simp
theorem make_ints (w : World) {n : Nat} (h : n ≤ 1000000) : (Instr.makeSlice 32 (.int .i64 (n : Int)) (.int .i64 (n : Int))).run Try.prog w = .ok (.slice (some ⟨w.heap.size, 0, none⟩) n n) (w.alloc (.cells ((List.replicate n (0 : Int)).map (Value.int .i64)).toArray 3)) := by
 obtain ⟨i, hi, hz⟩ := Option.map_eq_some_iff.1 info3
 simp only [Prod.mk.injEq] at hz
 obtain ⟨h1, h2, h3⟩ := hz
 have := run_makeSlice (P := Try.prog) (w := w) 32 3 i (.int .i64 0) Try.underlying32 hi h1 .i64 .i64 (n : Int) (n : Int) (by omega) (Int.le_refl _) (by rw [h2]; omega) (by rw [h3]; omega) (by omega)
 rw [this, h2, Nat.mul_one, Int.toNat_natCast, made_ints]
set_option maxHeartbeats 16000000 in
set_option maxRecDepth 100000 in
theorem new35 {t : List S40} (hl : t.length ≤ 256) (S : Int → Int) (A : Option Addr) (c : Nat) (w : World) :
 Calls Try.prog 35 #[.slice A t.length c] w fun e w' => ∃ q g, e = .returned (.pointer (some ⟨q, 0, none⟩)) ∧ RW t S w (.slice A t.length c) q g w' := by
 have hms := fun w => make_ints w (n := t.length) (by omega)
 go_enter Try.func35, Try.ntmps35
 go_wp2
 go_ret
 rw [rep_arr]
 have e1 : (w.alloc (.cells ((List.replicate t.length (0 : Int)).map (Value.int .i64)).toArray 3)).heap.size = w.heap.size + 1 := by simp
 refine ⟨w.heap.size + 1, w.heap.size, rfl, ⟨?_, ⟨List.replicate t.length 0, ?_, List.length_replicate, fun i hi => .inl (by rw [List.getElem?_replicate, if_pos hi])⟩, by omega⟩, below_alloc (below_alloc (Below.refl _ _) _) _, by omega, by omega⟩
 ·
  rw [← e1]
  exact heap_alloc_new _ _
 ·
  rw [Below.heap_alloc _ _ _ (by rw [e1]; omega)]
  exact heap_alloc_new _ _
structure EnvR (t : List S40) (S : Int → Int) (w0 : World) (A : Option Addr) (c : Nat) : Prop where
 g : GoodR t
 s : Sizes t S
 C : Kd.C k40 w0 A t.length t
 hc : t.length ≤ c
def At36 (t : List S40) (S : Int → Int) (w0 : World) (A : Option Addr) (c q g d : Nat) : Prop :=
 ∀ (a : Int) (w : World), InT t a → Deep (insP t) d a → RW t S w0 (.slice A t.length c) q g w →
  Calls Try.prog 36 #[.pointer (some ⟨q, 0, none⟩), .int .i64 a] w fun e w' => e = .returned (.int .i64 (S a)) ∧ RW t S w0 (.slice A t.length c) q g w' ∧ KeepBut w w' g none
def At39 (t : List S40) (S : Int → Int) (w0 : World) (A : Option Addr) (c q g d : Nat) : Prop :=
 ∀ (l : List Int) (A1 : Option Addr) (c1 : Nat) (at0 : Int) (w : World), (∀ W, KeepBut w W g none → Kd.C (Kd.int .i64) W A1 l.length l) → l.length ≤ c1 → l.length ≤ 1000000 → (∀ b ∈ l, InT t b ∧ Deep (insP t) d b) → 0 ≤ at0 → at0 ≤ 32772 → RW t S w0 (.slice A t.length c) q g w →
  Calls Try.prog 39 #[.pointer (some ⟨q, 0, none⟩), .slice A1 l.length c1, .int .i64 at0] w fun e w' => ∃ v : Value, e = .returned (.tuple #[v, .int .i64 (endsR t S at0 l)]) ∧ Kd.R (Kd.int .i64) 3 w' w.heap.size (fun b => b ≠ q ∧ b ≠ g) v (atsR t S at0 l) ∧ RW t S w0 (.slice A t.length c) q g w' ∧ KeepBut w w' g none
structure LB (t : List S40) (S : Int → Int) (w0 : World) (v : Value) (q g : Nat) (w : World) (u : Value) (xs : List Int) (wr : World) : Prop where
 ws : RW t S w0 v q g wr
 keep : KeepBut w wr g none
 O : Kd.R (Kd.int .i64) 3 wr w.heap.size (fun b => b ≠ q ∧ b ≠ g) u xs
 lt : q < w.heap.size ∧ g < w.heap.size
section
variable {t : List S40} {S : Int → Int} {w0 w wr w2 : World} {v u : Value} {q g : Nat} {xs : List Int}
theorem LB.next (h : LB t S w0 v q g w u xs wr) (hw : RW t S w0 v q g w2) (hk : KeepBut wr w2 g none) : LB t S w0 v q g w u xs w2 := ⟨hw, h.keep.trans hk (.inl rfl), Kd.R_keep h.O hk (fun _ h => h.2), h.lt⟩
theorem LB.on (h : LB t S w0 v q g w u xs wr) (hb : Below wr.heap.size wr w2) : LB t S w0 v q g w u xs w2 := h.next (h.ws.on hb) (KeepBut.of_below hb g none)
theorem LB.fresh (h : LB t S w0 v q g w u xs wr) : ∀ k, wr.heap.size ≤ k → k ≠ q ∧ k ≠ g := fun k hk => by
 have h1 := h.lt
 have h2 := h.keep.1
 omega
theorem keep_grown {ok : Nat → Prop} (hO : Kd.R (Kd.int .i64) 3 wr w.heap.size ok u xs) (hk : KeepBut w wr g none) (hg : wr.grownBy w2 u.ownBlock) : KeepBut w w2 g none := by
 obtain ⟨h0, inner, hown, hr⟩ := hO
 cases hu : u.ownBlock with
 | none =>
  rw [hu] at hg
  exact hk.trans (KeepBut.of_grown hg g) (.inl rfl)
 | some b =>
  rw [hu] at hg
  exact hk.trans (KeepBut.of_grown hg g) (.inr ⟨b, rfl, own_base hown b hu⟩)
theorem LB.app (h : LB t S w0 v q g w u xs wr) (hb0 : w0.heap.size ≤ w.heap.size) {v1 : Value} {ys : List Int} (hg : wr.grownBy w2 u.ownBlock) (hb : Below w.heap.size wr w2) (ho : Kd.R (Kd.int .i64) 3 w2 w.heap.size (fun b => b ≠ q ∧ b ≠ g) v1 ys) : LB t S w0 v q g w v1 ys w2 :=
 ⟨h.ws.grown hg (h.ws.below.trans (hb.mono hb0)) h.O.1, keep_grown h.O h.keep hg, ho, h.lt⟩
end
theorem rd_get (l : List Int) (k : Nat) (h : k < l.length) : rd l (k : Int) = l[k] := by unfold rd; simp [List.getD_eq_getElem?_getD, List.getElem?_eq_getElem h]
theorem take_next (l : List Int) (k : Nat) (h : k < l.length) : l.take (k + 1) = l.take k ++ [l[k]] := by rw [List.take_add_one, List.getElem?_eq_getElem h]; rfl
set_option maxHeartbeats 16000000 in
set_option maxRecDepth 100000 in
theorem laid39 {t : List S40} {S : Int → Int} {w0 : World} {A : Option Addr} {c q g d : Nat} (E : EnvR t S w0 A c) (h36 : At36 t S w0 A c q g d) : At39 t S w0 A c q g d := by
 intro l A1 c1 at0 w hL hlc hll hin ha0 ha1 hw
 have H36 := Aside0.mk h36
 have HZ := Aside0.mk E.s
 have HC := Aside0.mk E.C
 have HL := Aside0.mk hL
 have HN := Aside0.mk hin
 have hbase := Aside0.mk hw.below.size
 have hlt2 := hw.z.lt
 have HR : Aside0 (∀ k : Nat, 0 ≤ endsR t S at0 (l.take k) ∧ endsR t S at0 (l.take k) ≤ 32772) := ⟨fun k => endsR_in _ _ ha0 ha1 (fun b hb => HZ.out.lo _ (hin b (List.mem_of_mem_take hb)).1)⟩
 have HW := Aside0.mk hw
 clear h36 E hL hin hw
 go_enter Try.func39, Try.ntmps39
 go_wp2
 go_loopw [9, 2, 8] (fun i n u8 wr => ∃ k : Nat, k ≤ l.length ∧ i = .int .i64 k ∧ n = .int .i64 (endsR t S at0 (l.take k)) ∧ Aside0 (LB t S w0 (.slice A t.length c) q g w u8 (atsR t S at0 (l.take k)) wr)) (fun i _ _ _ => l.length - (intOf i).toNat)
 case atStart => exact ⟨0, by omega, rfl, rfl, ⟨LB.on ⟨HW.out, KeepBut.refl _ _ _, Kd.R_nil _ _ _ _ _, hlt2⟩ (by first | exact Below.refl _ _ | exact pw_below_drewN (Below.refl _ _) _)⟩⟩
 case round =>
  obtain ⟨k, hk, rfl, rfl, HB⟩ := hrel
  by_cases hlt : k < l.length
  ·
   have hx : decide ((k : Int) < (l.length : Int)) = true := decide_eq_true (by omega)
   have hk1 : (k : Int) < (l.length : Int) := by omega
   obtain ⟨ae, rfl, r0⟩ := Kd.at_int (HL.out _ HB.out.keep) (k : Int) (by omega) (by omega)
   rw [Int.toNat_natCast, rd_get l k hlt] at r0
   have HI := Aside0.mk (HN.out _ (List.getElem_mem hlt)).1
   have HD := Aside0.mk (HN.out _ (List.getElem_mem hlt)).2
   have HE : Aside0 (endsR t S at0 (l.take (k + 1)) = plcEndR t S (endsR t S at0 (l.take k)) l[k]) := ⟨by rw [take_next l k hlt, endsR_snoc]⟩
   have HT : Aside0 (atsR t S at0 (l.take (k + 1)) = atsR t S at0 (l.take k) ++ [plcAt t (endsR t S at0 (l.take k)) l[k]]) := ⟨by rw [take_next l k hlt, atsR_snoc]⟩
   have KR : Aside0 (∀ W, KeepBut w W g none → W.cell? (ae.add k) = some (.int .i64 l[k])) := ⟨fun W hK => by
    obtain ⟨ae', he, r0'⟩ := Kd.at_int (HL.out W hK) (k : Int) (by omega) (by omega)
    cases he
    rwa [Int.toNat_natCast, rd_get l k hlt] at r0'⟩
   have hal : Aside0 (((atsR t S at0 (l.take k)).length + 1) * 8 ≤ 140737488355328) := ⟨by rw [atsR_len, List.length_take]; omega⟩
   have hr0 := (HR.out k).1
   have hr1 := (HR.out k).2
   generalize l[k] = a at r0 HI HD HE HT KR
   obtain ⟨i0, i1⟩ := HI.out
   obtain ⟨ad, A6, c6, A7, c7, hA, p0, -, -, -, -, -, -, -, -, -, -, -, -, -⟩ := at_T40 HC.out a i0 i1
   subst hA
   have s0 := HZ.out.lo _ HI.out
   have s1 := HZ.out.hi _ HI.out
   replace p0 := (HB.out.ws.below.cell (World.block_lt_of_cell? w0 _ p0)).trans p0
   have q0 := HB.out.ws.z.c0
   have hpa : Aside0 (plcAt t (endsR t S at0 (l.take k)) a = if (rd_T40 t a).f0 = 2 ∨ (rd_T40 t a).f0 = 3 then endsR t S at0 (l.take k) else upP (endsR t S at0 (l.take k))) := ⟨rfl⟩
   have hpe : Aside0 (plcEndR t S (endsR t S at0 (l.take k)) a = mn (plcAt t (endsR t S at0 (l.take k)) a + S a) 32772) := ⟨rfl⟩
   have hu := upP_ge hr0
   generalize (rd_T40 t a).f0 = f at p0 hpa
   go_upto_region 6 with (fail)
   by_cases h2 : f = 2
   ·
    have b2 : (f != 2) = false := by simp [h2]
    replace hpa : Aside0 (plcAt t (endsR t S at0 (l.take k)) a = endsR t S at0 (l.take k)) := ⟨by rw [hpa.out, if_pos (.inl h2)]⟩
    replace h2 := Aside0.mk h2
    have hv : Aside0 (plcAt t (endsR t S at0 (l.take k)) a = endsR t S at0 (l.take k)) := hpa
    have hw1 : wrap64 (endsR t S at0 (l.take k) + S a) = endsR t S at0 (l.take k) + S a := wr_64 (by omega)
    have HV : Aside0 (mn (endsR t S at0 (l.take k) + S a) 32772 = plcEndR t S (endsR t S at0 (l.take k)) a) := ⟨by rw [hpe.out, hv.out]⟩
    have hmn : (if 32772 < endsR t S at0 (l.take k) + S a then 32772 else endsR t S at0 (l.take k) + S a) = plcEndR t S (endsR t S at0 (l.take k)) a := HV.out
    as_aux_lemma =>
     go_quiet (fail)
     all_goals
      have HQ := Aside0.mk (HB.out.on (pw_below_drewN (Below.refl _ _) nq))
      generalize World.drewN wr nq = wq at HQ ⊢
      go_wp2_with (first | ((with_reducible refine gate_builtin (b := .append) (xs := #[.tmp 36, .tmp 38]) rfl ?_); at_builtin; refine Kd.R_append (Kd.int .i64) (w0 := wq) w.heap.size rfl (.tmp 36) (.tmp 38) 32 3 (.int .i64 0) 8 rfl Try.underlying32 info3 rfl (by decide) (by omega) u8 (atsR t S at0 (l.take k)) (plcAt t (endsR t S at0 (l.take k)) a) [.int .i64 (endsR t S at0 (l.take k))] (fun b => b ≠ q ∧ b ≠ g) (fun _ => False) rfl ?aV ?aP (fun _ hk => hk.elim) ?aF ?aO ?aB ?aS ?aL ?_; (case aV => rfl); (case aP => rw [hv.out]; exact rfl); (case aB => exact Below.refl _ _); (case aF => exact (HQ.out.on (by first | exact Below.refl _ _ | exact pw_below_drewN (Below.refl _ _) _ | exact below_drew (Below.refl _ _) | exact HU.out | exact pw_below_drewN HU.out _)).fresh); (case aO => exact (HQ.out.on (by first | exact Below.refl _ _ | exact pw_below_drewN (Below.refl _ _) _ | exact below_drew (Below.refl _ _) | exact HU.out | exact pw_below_drewN HU.out _)).O); (case aS => exact (HQ.out.on (by first | exact Below.refl _ _ | exact pw_below_drewN (Below.refl _ _) _ | exact below_drew (Below.refl _ _) | exact HU.out | exact pw_below_drewN HU.out _)).keep.1); (case aL => exact hal.out); intro v1 w7 ho hb hg hat; have HP := Aside0.mk (LB.app (HQ.out.on (by first | exact Below.refl _ _ | exact pw_below_drewN (Below.refl _ _) _ | exact below_drew (Below.refl _ _) | exact HU.out | exact pw_below_drewN HU.out _)) hbase.out hg hb ho); clear ho hb hg hat; have r7 := KR.out _ HP.out.keep) | (go_at_call 36; refine (H36.out a _ HI.out HD.out (HP.out.on (by first | exact Below.refl _ _ | exact pw_below_drewN (Below.refl _ _) _)).ws).mono ?_; rintro e w8 ⟨rfl, hW8, hK8⟩))
      go_roundw
      case rel => exact ⟨k + 1, by omega, by go_num, by rw [HE.out], ⟨by rw [HT.out]; exact (HP.out.on (by first | exact Below.refl _ _ | exact pw_below_drewN (Below.refl _ _) _)).next hW8 hK8⟩⟩
      case measure => simp [intOf]; omega
   ·
    have b2 : (f != 2) = true := by simp [h2]
    by_cases h3 : f = 3
    ·
     have b3 : (f != 3) = false := by simp [h3]
     replace hpa : Aside0 (plcAt t (endsR t S at0 (l.take k)) a = endsR t S at0 (l.take k)) := ⟨by rw [hpa.out, if_pos (.inr h3)]⟩
     replace h2 := Aside0.mk h2
     replace h3 := Aside0.mk h3
     have hv : Aside0 (plcAt t (endsR t S at0 (l.take k)) a = endsR t S at0 (l.take k)) := hpa
     have hw1 : wrap64 (endsR t S at0 (l.take k) + S a) = endsR t S at0 (l.take k) + S a := wr_64 (by omega)
     have HV : Aside0 (mn (endsR t S at0 (l.take k) + S a) 32772 = plcEndR t S (endsR t S at0 (l.take k)) a) := ⟨by rw [hpe.out, hv.out]⟩
     have hmn : (if 32772 < endsR t S at0 (l.take k) + S a then 32772 else endsR t S at0 (l.take k) + S a) = plcEndR t S (endsR t S at0 (l.take k)) a := HV.out
     as_aux_lemma =>
      go_quiet (fail)
      all_goals
       have HQ := Aside0.mk (HB.out.on (pw_below_drewN (Below.refl _ _) nq))
       generalize World.drewN wr nq = wq at HQ ⊢
       go_wp2_with (first | ((with_reducible refine gate_builtin (b := .append) (xs := #[.tmp 36, .tmp 38]) rfl ?_); at_builtin; refine Kd.R_append (Kd.int .i64) (w0 := wq) w.heap.size rfl (.tmp 36) (.tmp 38) 32 3 (.int .i64 0) 8 rfl Try.underlying32 info3 rfl (by decide) (by omega) u8 (atsR t S at0 (l.take k)) (plcAt t (endsR t S at0 (l.take k)) a) [.int .i64 (endsR t S at0 (l.take k))] (fun b => b ≠ q ∧ b ≠ g) (fun _ => False) rfl ?aV ?aP (fun _ hk => hk.elim) ?aF ?aO ?aB ?aS ?aL ?_; (case aV => rfl); (case aP => rw [hv.out]; exact rfl); (case aB => exact Below.refl _ _); (case aF => exact (HQ.out.on (by first | exact Below.refl _ _ | exact pw_below_drewN (Below.refl _ _) _ | exact below_drew (Below.refl _ _) | exact HU.out | exact pw_below_drewN HU.out _)).fresh); (case aO => exact (HQ.out.on (by first | exact Below.refl _ _ | exact pw_below_drewN (Below.refl _ _) _ | exact below_drew (Below.refl _ _) | exact HU.out | exact pw_below_drewN HU.out _)).O); (case aS => exact (HQ.out.on (by first | exact Below.refl _ _ | exact pw_below_drewN (Below.refl _ _) _ | exact below_drew (Below.refl _ _) | exact HU.out | exact pw_below_drewN HU.out _)).keep.1); (case aL => exact hal.out); intro v1 w7 ho hb hg hat; have HP := Aside0.mk (LB.app (HQ.out.on (by first | exact Below.refl _ _ | exact pw_below_drewN (Below.refl _ _) _ | exact below_drew (Below.refl _ _) | exact HU.out | exact pw_below_drewN HU.out _)) hbase.out hg hb ho); clear ho hb hg hat; have r7 := KR.out _ HP.out.keep) | (go_at_call 36; refine (H36.out a _ HI.out HD.out (HP.out.on (by first | exact Below.refl _ _ | exact pw_below_drewN (Below.refl _ _) _)).ws).mono ?_; rintro e w8 ⟨rfl, hW8, hK8⟩))
       go_roundw
       case rel => exact ⟨k + 1, by omega, by go_num, by rw [HE.out], ⟨by rw [HT.out]; exact (HP.out.on (by first | exact Below.refl _ _ | exact pw_below_drewN (Below.refl _ _) _)).next hW8 hK8⟩⟩
       case measure => simp [intOf]; omega
    ·
     have b3 : (f != 3) = true := by simp [h3]
     replace hpa : Aside0 (plcAt t (endsR t S at0 (l.take k)) a = upP (endsR t S at0 (l.take k))) := ⟨by rw [hpa.out, if_neg (fun h => h.elim h2 h3)]⟩
     replace h2 := Aside0.mk h2
     replace h3 := Aside0.mk h3
     have hv : Aside0 (plcAt t (endsR t S at0 (l.take k)) a = upP (endsR t S at0 (l.take k))) := hpa
     have hw1 : wrap64 (upP (endsR t S at0 (l.take k)) + S a) = upP (endsR t S at0 (l.take k)) + S a := wr_64 (by omega)
     have HV : Aside0 (mn (upP (endsR t S at0 (l.take k)) + S a) 32772 = plcEndR t S (endsR t S at0 (l.take k)) a) := ⟨by rw [hpe.out, hv.out]⟩
     have hmn : (if 32772 < upP (endsR t S at0 (l.take k)) + S a then 32772 else upP (endsR t S at0 (l.take k)) + S a) = plcEndR t S (endsR t S at0 (l.take k)) a := HV.out
     as_aux_lemma =>
      go_quiet (fail)
      all_goals
       have HQ := Aside0.mk (HB.out.on (pw_below_drewN (Below.refl _ _) nq))
       generalize World.drewN wr nq = wq at HQ ⊢
       go_wp2_with (first | (go_at_call 42; refine (spinetref14_up.calls _ (upP (endsR t S at0 (l.take k))) _ (up14_is hr0 (by omega))).mono ?_; rintro e wu ⟨rfl, hD⟩; have HU : Aside0 (Below wq.heap.size wq wu) := ⟨by first | exact hD.below | exact (pw_below_drewN (Below.refl _ _) _).trans hD.below | exact (below_drew (Below.refl _ _)).trans hD.below⟩; clear hD) | ((with_reducible refine gate_builtin (b := .append) (xs := #[.tmp 36, .tmp 38]) rfl ?_); at_builtin; refine Kd.R_append (Kd.int .i64) (w0 := wu) w.heap.size rfl (.tmp 36) (.tmp 38) 32 3 (.int .i64 0) 8 rfl Try.underlying32 info3 rfl (by decide) (by omega) u8 (atsR t S at0 (l.take k)) (plcAt t (endsR t S at0 (l.take k)) a) [.int .i64 (upP (endsR t S at0 (l.take k)))] (fun b => b ≠ q ∧ b ≠ g) (fun _ => False) rfl ?aV ?aP (fun _ hk => hk.elim) ?aF ?aO ?aB ?aS ?aL ?_; (case aV => rfl); (case aP => rw [hv.out]; exact rfl); (case aB => exact Below.refl _ _); (case aF => exact (HQ.out.on (by first | exact Below.refl _ _ | exact pw_below_drewN (Below.refl _ _) _ | exact below_drew (Below.refl _ _) | exact HU.out | exact pw_below_drewN HU.out _)).fresh); (case aO => exact (HQ.out.on (by first | exact Below.refl _ _ | exact pw_below_drewN (Below.refl _ _) _ | exact below_drew (Below.refl _ _) | exact HU.out | exact pw_below_drewN HU.out _)).O); (case aS => exact (HQ.out.on (by first | exact Below.refl _ _ | exact pw_below_drewN (Below.refl _ _) _ | exact below_drew (Below.refl _ _) | exact HU.out | exact pw_below_drewN HU.out _)).keep.1); (case aL => exact hal.out); intro v1 w7 ho hb hg hat; have HP := Aside0.mk (LB.app (HQ.out.on (by first | exact Below.refl _ _ | exact pw_below_drewN (Below.refl _ _) _ | exact below_drew (Below.refl _ _) | exact HU.out | exact pw_below_drewN HU.out _)) hbase.out hg hb ho); clear ho hb hg hat; have r7 := KR.out _ HP.out.keep) | (go_at_call 36; refine (H36.out a _ HI.out HD.out (HP.out.on (by first | exact Below.refl _ _ | exact pw_below_drewN (Below.refl _ _) _)).ws).mono ?_; rintro e w8 ⟨rfl, hW8, hK8⟩))
       go_roundw
       case rel => exact ⟨k + 1, by omega, by go_num, by rw [HE.out], ⟨by rw [HT.out]; exact (HP.out.on (by first | exact Below.refl _ _ | exact pw_below_drewN (Below.refl _ _) _)).next hW8 hK8⟩⟩
       case measure => simp [intOf]; omega
  ·
   have hx : decide ((k : Int) < (l.length : Int)) = false := decide_eq_false (by omega)
   have he : l.take k = l := List.take_of_length_le (by omega)
   rw [he] at HB ⊢
   go_wp2
   go_ret2
   exact ⟨_, rfl, (HB.out.on (by first | exact Below.refl _ _ | exact pw_below_drewN (Below.refl _ _) _)).O, (HB.out.on (by first | exact Below.refl _ _ | exact pw_below_drewN (Below.refl _ _) _)).ws, (HB.out.on (by first | exact Below.refl _ _ | exact pw_below_drewN (Below.refl _ _) _)).keep⟩
end Go.Proofs.Ytgnbemgeiloegaa.Ly
