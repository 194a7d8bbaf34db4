import Derived.Test.YtgnbemgeiloegaaMTgP
import Derived.Deep.DeepCutAuto
namespace Go.Proofs.Ytgnbemgeiloegaa.Tg
open Go.RowKit Go.Maps Go.WideMaps
open Go.Proofs.YtgnbemgeiloegaaW.PrintWords Go.Proofs.YtgnbemgeiloegaaW.PrintLast Go.Proofs.YtgnbemgeiloegaaW.PrintMore
set_option linter.unusedVariables false
set_option linter.unusedSimpArgs false
open Go.Proofs.Ytgnbemgeiloegaa.PTypesGoods (S40 S42 S47 k40 k42 k47 rd_T40 rd_T42 rd_T47 at_T40 at_T42 at_T47)
def wantP (x : S40) : S40 :=
 ⟨x.f0, ⟨#[]⟩, ⟨#[]⟩, if x.f0 = 7 then x.f3 else 0, if x.f0 = 7 ∨ x.f0 = 8 ∨ x.f0 = 10 then x.f4 else 0, if x.f0 = 9 then x.f5 else 0, if x.f0 = 9 then x.f6 else [], if x.f0 = 11 then x.f7 else [], if x.f0 = 11 then x.f8 else 0, if x.f0 = 9 then x.f9 else 0⟩
def fieldsQ (t : List S40) (l : List S42) : Bool := l.all fun f => isName f.f0 && partP (form t f.f2)
def parsQ (t : List S40) (l : List S47) : Bool := l.all fun p => partP (form t p.f1) || decide (form t p.f1 = 8)
def rec1P (t : List S40) (x : S40) : Bool := (decide (x.f5 = 0) || decide (form t x.f5 = 9)) && decide (x.f6.length ≤ 64) && decide (-1 ≤ x.f9) && decide (x.f9 < 64)
def proc1P (t : List S40) (x : S40) : Bool := decide (x.f7.length ≤ 64) && (decide (x.f8 = 0) || plainP (form t x.f8))
def okP (t : List S40) (x : S40) : Bool :=
 if x.f0 = 7 then decide (1 ≤ x.f3) && decide (x.f3 ≤ 4096) && partP (form t x.f4)
 else if x.f0 = 8 then partP (form t x.f4) || decide (form t x.f4 = 8)
 else if x.f0 = 9 then rec1P t x && fieldsQ t x.f6
 else if x.f0 = 10 then decide (form t x.f4 = 9)
 else if x.f0 = 11 then proc1P t x && parsQ t x.f7
 else false
def namedP (x : S40) : Bool := (nul x.f1 && nul x.f2 && decide (x.f0 ≠ 9)) || (isName x.f1 && (isName x.f2 || (nul x.f2 && decide (x.f0 = 9))))
def formedP (t : List S40) (x : S40) : Bool :=
 okP t x && (namedP x && (decide (x.f9 = (wantP x).f9) && (decide (x.f3 = (wantP x).f3) && (decide (x.f4 = (wantP x).f4) && (decide (x.f5 = (wantP x).f5) && (decide (x.f8 = (wantP x).f8) && (decide (x.f6.length = (wantP x).f6.length) && decide (x.f7.length = (wantP x).f7.length))))))))
def cellsOf (x : S40) (A6 : Option Addr) (c6 : Nat) (A7 : Option Addr) (c7 : Nat) : List Value :=
 [.int .i64 x.f0, .string x.f1, .string x.f2, .int .i64 x.f3, .int .i64 x.f4, .int .i64 x.f5, .slice A6 x.f6.length c6, .slice A7 x.f7.length c7, .int .i64 x.f8, .int .i64 x.f9]
structure FB (w wr : World) (sl : Value) (xs ys : List Value) : Prop where
 s : wr.cell? ⟨w.heap.size, 0, none⟩ = some sl
 x : ∀ k v, xs[k]? = some v → wr.cell? ⟨w.heap.size + 1, k, none⟩ = some v
 y : ∀ k v, ys[k]? = some v → wr.cell? ⟨w.heap.size + 1 + 1, k, none⟩ = some v
 lt : w.heap.size + 1 + 1 < wr.heap.size
 below : Below w.heap.size w wr
theorem FB.made (w : World) (sl : Value) (xs ys : List Value) : FB w (((w.alloc (.cells #[sl] 22)).alloc (.cells xs.toArray 40)).alloc (.cells ys.toArray 40)) sl xs ys := by
 have z1 : (w.alloc (.cells #[sl] 22)).heap.size = w.heap.size + 1 := by simp
 have z2 : ((w.alloc (.cells #[sl] 22)).alloc (.cells xs.toArray 40)).heap.size = w.heap.size + 1 + 1 := by simp
 have b1 : (((w.alloc (.cells #[sl] 22)).alloc (.cells xs.toArray 40)).alloc (.cells ys.toArray 40)).heap[w.heap.size + 1]? = some (.cells xs.toArray 40) := by
  rw [Below.heap_alloc _ _ _ (by rw [z2]; omega), ← z1]
  exact heap_alloc_new _ _
 have b2 : (((w.alloc (.cells #[sl] 22)).alloc (.cells xs.toArray 40)).alloc (.cells ys.toArray 40)).heap[w.heap.size + 1 + 1]? = some (.cells ys.toArray 40) := by
  rw [← z2]
  exact heap_alloc_new _ _
 refine ⟨?_, ?_, ?_, by simp, below_alloc (below_alloc (below_alloc (Below.refl _ _) _) _) _⟩
 · go_simp
 ·
  intro k v h
  unfold World.cell?
  rw [b1]
  simpa using h
 ·
  intro k v h
  unfold World.cell?
  rw [b2]
  simpa using h
theorem FB.on {w wr w2 : World} {sl : Value} {xs ys : List Value} (h : FB w wr sl xs ys) (hb : Below wr.heap.size wr w2) : FB w w2 sl xs ys :=
 have k : ∀ b o, b ≤ w.heap.size + 1 + 1 → w2.cell? ⟨b, o, none⟩ = wr.cell? ⟨b, o, none⟩ := fun b o hb' => hb.cell (p := ⟨b, o, none⟩) (Nat.lt_of_le_of_lt hb' h.lt)
 ⟨(k _ _ (by omega)).trans h.s, fun i v e => (k _ _ (by omega)).trans (h.x i v e), fun i v e => (k _ _ (by omega)).trans (h.y i v e), Nat.lt_of_lt_of_le h.lt hb.size, h.below.trans (hb.mono h.below.size)⟩
theorem FB.drewN {w wr : World} {sl : Value} {xs ys : List Value} (h : FB w wr sl xs ys) (n : Nat) : FB w (wr.drewN n) sl xs ys := h.on ⟨rfl, rfl, rfl, Nat.le_refl _, fun _ _ => rfl⟩
set_option maxHeartbeats 16000000 in
set_option maxRecDepth 100000 in
theorem formed_calls {w : World} {A : Option Addr} {c : Nat} {t : List S40} (hC : Kd.C k40 w A t.length t) (hc : t.length ≤ c) (x : S40) {A6 A7 : Option Addr} {c6 c7 : Nat}
 (C6 : Kd.C k42 w A6 x.f6.length x.f6) (l6 : x.f6.length ≤ c6) (C7 : Kd.C k47 w A7 x.f7.length x.f7) (l7 : x.f7.length ≤ c7) (hx6 : x.f6.length ≤ 4000) (hx7 : x.f7.length ≤ 4000) :
 Calls Try.prog 60 #[.slice A t.length c, .agg #[.int .i64 x.f0, .string x.f1, .string x.f2, .int .i64 x.f3, .int .i64 x.f4, .int .i64 x.f5, .slice A6 x.f6.length c6, .slice A7 x.f7.length c7, .int .i64 x.f8, .int .i64 x.f9]] w fun e w' => e = .returned (.bool (formedP t x)) ∧ Below w.heap.size w w' := by
 have hCx := Aside0.mk hC
 have hC6 := Aside0.mk C6
 have hC7 := Aside0.mk C7
 clear hC C6 C7
 go_enter Try.func60, Try.ntmps60
 go_upto_block 0 with fail
 go_cut [7] (fun s7 wr => s7 = .bool (okP t x) ∧ ∃ B6 d6 B7 d7, FB w wr (.slice A t.length c) (cellsOf x A6 c6 A7 c7) (cellsOf (wantP x) B6 d6 B7 d7))
 case first =>
  by_cases e7 : x.f0 = 7
  ·
   as_aux_lemma =>
    have W : Aside0 (cellsOf (wantP x) none 0 none 0 = [.int .i64 7, .string ⟨#[]⟩, .string ⟨#[]⟩, .int .i64 x.f3, .int .i64 x.f4, .int .i64 0, .slice none 0 0, .slice none 0 0, .int .i64 0, .int .i64 0]) := ⟨by unfold wantP cellsOf; simp [e7]⟩
    have X : Aside0 (cellsOf x A6 c6 A7 c7 = [.int .i64 7, .string x.f1, .string x.f2, .int .i64 x.f3, .int .i64 x.f4, .int .i64 x.f5, .slice A6 x.f6.length c6, .slice A7 x.f7.length c7, .int .i64 x.f8, .int .i64 x.f9]) := ⟨by unfold cellsOf; simp [e7]⟩
    have HF0 := Aside0.mk (FB.made w (.slice A t.length c) [.int .i64 7, .string x.f1, .string x.f2, .int .i64 x.f3, .int .i64 x.f4, .int .i64 x.f5, .slice A6 x.f6.length c6, .slice A7 x.f7.length c7, .int .i64 x.f8, .int .i64 x.f9] [.int .i64 7, .string ⟨#[]⟩, .string ⟨#[]⟩, .int .i64 x.f3, .int .i64 x.f4, .int .i64 0, .slice none 0 0, .slice none 0 0, .int .i64 0, .int .i64 0])
    have R : Aside0 (okP t x = (decide (1 ≤ x.f3) && decide (x.f3 ≤ 4096) && partP (form t x.f4))) := ⟨by unfold okP; rw [if_pos e7]⟩
    go_upto_region 6 with fail
    go_region
    clear e7
    by_cases g1 : 1 ≤ x.f3
    ·
     have g1b : decide (1 ≤ x.f3) = true := decide_eq_true g1
     by_cases g2 : x.f3 ≤ 4096
     ·
      have g2b : decide (x.f3 ≤ 4096) = true := decide_eq_true g2
      have R2 : Aside0 (okP t x = partP (form t x.f4)) := ⟨by rw [R.out, g1b, g2b]; rfl⟩
      as_aux_lemma =>
       go_wp2_with (first | (go_at_call 69; (first | refine (form_calls (Kd.C_below hCx.out HF0.out.below) _ HF0.out.s _).mono ?_ | refine (form_calls (Kd.C_below hCx.out (HF0.out.drewN _).below) _ (HF0.out.drewN _).s _).mono ?_); rintro e w4 ⟨rfl, rfl⟩) | (go_at_call 70; refine (part_calls _ _).mono ?_; rintro e w5 ⟨rfl, ⟨⟨n5, rfl⟩⟩⟩))
       go_meet
       case rel => exact ⟨by rw [R2.out], none, 0, none, 0, by rw [X.out, W.out]; first | exact HF0.out | exact HF0.out.drewN _⟩
     ·
      have g2b : decide (x.f3 ≤ 4096) = false := decide_eq_false g2
      have R2 : Aside0 (okP t x = false) := ⟨by rw [R.out, g1b, g2b]; rfl⟩
      as_aux_lemma =>
       go_wp2
       go_meet
       case rel => exact ⟨by rw [R2.out], none, 0, none, 0, by rw [X.out, W.out]; first | exact HF0.out | exact HF0.out.drewN _⟩
    ·
     have g1b : decide (1 ≤ x.f3) = false := decide_eq_false g1
     have R2 : Aside0 (okP t x = false) := ⟨by rw [R.out, g1b]; rfl⟩
     as_aux_lemma =>
      go_wp2
      go_meet
      case rel => exact ⟨by rw [R2.out], none, 0, none, 0, by rw [X.out, W.out]; first | exact HF0.out | exact HF0.out.drewN _⟩
  by_cases e8 : x.f0 = 8
  ·
   as_aux_lemma =>
    have W : Aside0 (cellsOf (wantP x) none 0 none 0 = [.int .i64 8, .string ⟨#[]⟩, .string ⟨#[]⟩, .int .i64 0, .int .i64 x.f4, .int .i64 0, .slice none 0 0, .slice none 0 0, .int .i64 0, .int .i64 0]) := ⟨by unfold wantP cellsOf; simp [e8]⟩
    have X : Aside0 (cellsOf x A6 c6 A7 c7 = [.int .i64 8, .string x.f1, .string x.f2, .int .i64 x.f3, .int .i64 x.f4, .int .i64 x.f5, .slice A6 x.f6.length c6, .slice A7 x.f7.length c7, .int .i64 x.f8, .int .i64 x.f9]) := ⟨by unfold cellsOf; simp [e8]⟩
    have HF0 := Aside0.mk (FB.made w (.slice A t.length c) [.int .i64 8, .string x.f1, .string x.f2, .int .i64 x.f3, .int .i64 x.f4, .int .i64 x.f5, .slice A6 x.f6.length c6, .slice A7 x.f7.length c7, .int .i64 x.f8, .int .i64 x.f9] [.int .i64 8, .string ⟨#[]⟩, .string ⟨#[]⟩, .int .i64 0, .int .i64 x.f4, .int .i64 0, .slice none 0 0, .slice none 0 0, .int .i64 0, .int .i64 0])
    have R : Aside0 (okP t x = (partP (form t x.f4) || decide (form t x.f4 = 8))) := ⟨by unfold okP; rw [if_neg e7, if_pos e8]⟩
    go_upto_region 9 with fail
    clear e7 e8
    cases hp : partP (form t x.f4) with
    | true =>
     have R2 : Aside0 (okP t x = true) := ⟨by rw [R.out, hp]; rfl⟩
     as_aux_lemma =>
      go_wp2_with (first | (go_at_call 69; (first | refine (form_calls (Kd.C_below hCx.out HF0.out.below) _ HF0.out.s _).mono ?_ | refine (form_calls (Kd.C_below hCx.out (HF0.out.drewN _).below) _ (HF0.out.drewN _).s _).mono ?_); rintro e w4 ⟨rfl, rfl⟩) | (go_at_call 70; refine (part_calls _ _).mono ?_; rintro e w5 ⟨rfl, ⟨⟨n5, rfl⟩⟩⟩))
      go_meet
      case rel => exact ⟨by rw [R2.out], none, 0, none, 0, by rw [X.out, W.out]; first | exact HF0.out | exact HF0.out.drewN _⟩
    | false =>
     have R2 : Aside0 (okP t x = (form t x.f4 == 8)) := ⟨by rw [R.out, hp, Bool.false_or]; rfl⟩
     as_aux_lemma =>
      go_wp2_with (first | (go_at_call 69; (first | refine (form_calls (Kd.C_below hCx.out HF0.out.below) _ HF0.out.s _).mono ?_ | refine (form_calls (Kd.C_below hCx.out (HF0.out.drewN _).below) _ (HF0.out.drewN _).s _).mono ?_); rintro e w4 ⟨rfl, rfl⟩) | (go_at_call 70; refine (part_calls _ _).mono ?_; rintro e w5 ⟨rfl, ⟨⟨n5, rfl⟩⟩⟩))
      go_meet
      case rel => exact ⟨by rw [R2.out], none, 0, none, 0, by rw [X.out, W.out]; first | exact HF0.out | exact HF0.out.drewN _⟩
  by_cases e9 : x.f0 = 9
  ·
   as_aux_lemma =>
    have W : Aside0 (cellsOf (wantP x) A6 c6 none 0 = [.int .i64 9, .string ⟨#[]⟩, .string ⟨#[]⟩, .int .i64 0, .int .i64 0, .int .i64 x.f5, .slice A6 x.f6.length c6, .slice none 0 0, .int .i64 0, .int .i64 x.f9]) := ⟨by unfold wantP cellsOf; simp [e9]⟩
    have X : Aside0 (cellsOf x A6 c6 A7 c7 = [.int .i64 9, .string x.f1, .string x.f2, .int .i64 x.f3, .int .i64 x.f4, .int .i64 x.f5, .slice A6 x.f6.length c6, .slice A7 x.f7.length c7, .int .i64 x.f8, .int .i64 x.f9]) := ⟨by unfold cellsOf; simp [e9]⟩
    have HF0 := Aside0.mk (FB.made w (.slice A t.length c) [.int .i64 9, .string x.f1, .string x.f2, .int .i64 x.f3, .int .i64 x.f4, .int .i64 x.f5, .slice A6 x.f6.length c6, .slice A7 x.f7.length c7, .int .i64 x.f8, .int .i64 x.f9] [.int .i64 9, .string ⟨#[]⟩, .string ⟨#[]⟩, .int .i64 0, .int .i64 0, .int .i64 x.f5, .slice A6 x.f6.length c6, .slice none 0 0, .int .i64 0, .int .i64 x.f9])
    have R : Aside0 (okP t x = (rec1P t x && fieldsQ t x.f6)) := ⟨by unfold okP; rw [if_neg e7, if_neg e8, if_pos e9]⟩
    go_upto_region 12 with fail
    go_region
    clear e7 e8 e9
    go_upto_region 13 with fail
    go_cut [7] (fun s7 wr => s7 = .bool (rec1P t x) ∧ FB w wr (.slice A t.length c) (cellsOf x A6 c6 A7 c7) (cellsOf (wantP x) A6 c6 none 0))
    case first =>
     by_cases g0 : x.f5 = 0
     ·
      have g0b : (x.f5 == 0) = true := by simpa using g0
      have HA : Aside0 ((decide (x.f5 = 0) || decide (form t x.f5 = 9)) = true) := ⟨by simp [g0]⟩
      replace g0 := Aside0.mk g0
      by_cases g1 : x.f6.length ≤ 64
      ·
       have g1b : decide ((x.f6.length : Int) ≤ 64) = true := decide_eq_true (by omega)
       by_cases g2 : -1 ≤ x.f9
       ·
        have g2b : decide (-1 ≤ x.f9) = true := decide_eq_true g2
        by_cases g3 : x.f9 < 64
        ·
         have g3b : decide (x.f9 < 64) = true := decide_eq_true g3
         have R2 : Aside0 (rec1P t x = true) := ⟨by unfold rec1P; simp [HA.out, g1, g2, g3]⟩
         as_aux_lemma =>
          go_wp2
          go_meet
          case rel => exact ⟨by rw [R2.out], by rw [X.out, W.out]; first | exact HF0.out | exact HF0.out.drewN _⟩
        ·
         have g3b : decide (x.f9 < 64) = false := decide_eq_false g3
         have R2 : Aside0 (rec1P t x = false) := ⟨by unfold rec1P; simp [HA.out, g1, g2, g3]⟩
         as_aux_lemma =>
          go_wp2
          go_meet
          case rel => exact ⟨by rw [R2.out], by rw [X.out, W.out]; first | exact HF0.out | exact HF0.out.drewN _⟩
       ·
        have g2b : decide (-1 ≤ x.f9) = false := decide_eq_false g2
        have R2 : Aside0 (rec1P t x = false) := ⟨by unfold rec1P; simp [HA.out, g1, g2]⟩
        as_aux_lemma =>
         go_wp2
         go_meet
         case rel => exact ⟨by rw [R2.out], by rw [X.out, W.out]; first | exact HF0.out | exact HF0.out.drewN _⟩
      ·
       have g1b : decide ((x.f6.length : Int) ≤ 64) = false := decide_eq_false (by omega)
       have R2 : Aside0 (rec1P t x = false) := ⟨by unfold rec1P; simp [HA.out, g1]⟩
       as_aux_lemma =>
        go_wp2
        go_meet
        case rel => exact ⟨by rw [R2.out], by rw [X.out, W.out]; first | exact HF0.out | exact HF0.out.drewN _⟩
     ·
      have g0b : (x.f5 == 0) = false := by simpa using g0
      by_cases g9 : form t x.f5 = 9
      ·
       have g9b : (form t x.f5 == 9) = true := by simpa using g9
       have HA : Aside0 ((decide (x.f5 = 0) || decide (form t x.f5 = 9)) = true) := ⟨by simp [g9]⟩
       replace g0 := Aside0.mk g0
       replace g9 := Aside0.mk g9
       by_cases g1 : x.f6.length ≤ 64
       ·
        have g1b : decide ((x.f6.length : Int) ≤ 64) = true := decide_eq_true (by omega)
        by_cases g2 : -1 ≤ x.f9
        ·
         have g2b : decide (-1 ≤ x.f9) = true := decide_eq_true g2
         by_cases g3 : x.f9 < 64
         ·
          have g3b : decide (x.f9 < 64) = true := decide_eq_true g3
          have R2 : Aside0 (rec1P t x = true) := ⟨by unfold rec1P; simp [HA.out, g1, g2, g3]⟩
          as_aux_lemma =>
           go_wp2_with (first | (go_at_call 69; (first | refine (form_calls (Kd.C_below hCx.out HF0.out.below) _ HF0.out.s _).mono ?_ | refine (form_calls (Kd.C_below hCx.out (HF0.out.drewN _).below) _ (HF0.out.drewN _).s _).mono ?_); rintro e w4 ⟨rfl, rfl⟩))
           go_meet
           case rel => exact ⟨by rw [R2.out], by rw [X.out, W.out]; first | exact HF0.out | exact HF0.out.drewN _⟩
         ·
          have g3b : decide (x.f9 < 64) = false := decide_eq_false g3
          have R2 : Aside0 (rec1P t x = false) := ⟨by unfold rec1P; simp [HA.out, g1, g2, g3]⟩
          as_aux_lemma =>
           go_wp2_with (first | (go_at_call 69; (first | refine (form_calls (Kd.C_below hCx.out HF0.out.below) _ HF0.out.s _).mono ?_ | refine (form_calls (Kd.C_below hCx.out (HF0.out.drewN _).below) _ (HF0.out.drewN _).s _).mono ?_); rintro e w4 ⟨rfl, rfl⟩))
           go_meet
           case rel => exact ⟨by rw [R2.out], by rw [X.out, W.out]; first | exact HF0.out | exact HF0.out.drewN _⟩
        ·
         have g2b : decide (-1 ≤ x.f9) = false := decide_eq_false g2
         have R2 : Aside0 (rec1P t x = false) := ⟨by unfold rec1P; simp [HA.out, g1, g2]⟩
         as_aux_lemma =>
          go_wp2_with (first | (go_at_call 69; (first | refine (form_calls (Kd.C_below hCx.out HF0.out.below) _ HF0.out.s _).mono ?_ | refine (form_calls (Kd.C_below hCx.out (HF0.out.drewN _).below) _ (HF0.out.drewN _).s _).mono ?_); rintro e w4 ⟨rfl, rfl⟩))
          go_meet
          case rel => exact ⟨by rw [R2.out], by rw [X.out, W.out]; first | exact HF0.out | exact HF0.out.drewN _⟩
       ·
        have g1b : decide ((x.f6.length : Int) ≤ 64) = false := decide_eq_false (by omega)
        have R2 : Aside0 (rec1P t x = false) := ⟨by unfold rec1P; simp [HA.out, g1]⟩
        as_aux_lemma =>
         go_wp2_with (first | (go_at_call 69; (first | refine (form_calls (Kd.C_below hCx.out HF0.out.below) _ HF0.out.s _).mono ?_ | refine (form_calls (Kd.C_below hCx.out (HF0.out.drewN _).below) _ (HF0.out.drewN _).s _).mono ?_); rintro e w4 ⟨rfl, rfl⟩))
         go_meet
         case rel => exact ⟨by rw [R2.out], by rw [X.out, W.out]; first | exact HF0.out | exact HF0.out.drewN _⟩
      ·
       have g9b : (form t x.f5 == 9) = false := by simpa using g9
       have HA : Aside0 ((decide (x.f5 = 0) || decide (form t x.f5 = 9)) = false) := ⟨by simp [g0, g9]⟩
       replace g0 := Aside0.mk g0
       replace g9 := Aside0.mk g9
       have R2 : Aside0 (rec1P t x = false) := ⟨by unfold rec1P; simp [HA.out]⟩
       as_aux_lemma =>
        go_wp2_with (first | (go_at_call 69; (first | refine (form_calls (Kd.C_below hCx.out HF0.out.below) _ HF0.out.s _).mono ?_ | refine (form_calls (Kd.C_below hCx.out (HF0.out.drewN _).below) _ (HF0.out.drewN _).s _).mono ?_); rintro e w4 ⟨rfl, rfl⟩))
        go_meet
        case rel => exact ⟨by rw [R2.out], by rw [X.out, W.out]; first | exact HF0.out | exact HF0.out.drewN _⟩
    case rest =>
     obtain ⟨rfl, HFc⟩ := hcut
     clear HF0 W X
     have HF := Aside0.mk HFc
     clear HFc
     obtain ⟨wx, rfl⟩ : ∃ wx, wx = wc := ⟨_, rfl⟩
     generalize rec1P t x = b1 at R ⊢
     have x6 := HF.out.x 6 _ rfl
     go_wp2
     clear x6
     go_loopw [7, 99] (fun s7 i wr => ∃ (i0 : Nat) (bb : Bool), i0 ≤ x.f6.length ∧ i = .int .i64 i0 ∧ s7 = .bool bb ∧ Aside0 (bb = (b1 && fieldsQ t (x.f6.take i0))) ∧ Aside0 (FB w wr (.slice A t.length c) (cellsOf x A6 c6 A7 c7) (cellsOf (wantP x) A6 c6 none 0))) (fun _ i _ => x.f6.length - (intOf i).toNat)
     case atStart => exact ⟨0, b1, Nat.zero_le _, rfl, rfl, ⟨by simp [fieldsQ]⟩, HF⟩
     case round =>
      clear HF
      obtain ⟨wo, rfl⟩ : ∃ wo : World, wo = wr := ⟨_, rfl⟩
      obtain ⟨i0, bb, hi0, rfl, rfl, hS, HF⟩ := hrel
      by_cases hlt : i0 < x.f6.length
      ·
       have hx : decide ((i0 : Int) < (x.f6.length : Int)) = true := decide_eq_true (by omega)
       have hin := size_in hlt
       obtain ⟨fd, hfA, r0, r1, r2⟩ := at_T42 (Kd.C_below hC6.out HF.out.below) (i0 : Int) (by omega) (by omega)
       obtain rfl := hfA
       have hk00 : ((i0 : Nat) : Int).toNat = i0 := by omega
       have hrd : rd_T42 x.f6 (i0 : Int) = x.f6[i0] := by unfold rd_T42; simp [List.getD_eq_getElem?_getD, List.getElem?_eq_getElem hlt]
       rw [hk00, hrd] at r0 r1 r2
       have htk : x.f6.take (i0 + 1) = x.f6.take i0 ++ [x.f6[i0]] := by rw [List.take_add_one, List.getElem?_eq_getElem hlt]; rfl
       have hstep : Aside0 ((b1 && fieldsQ t (x.f6.take (i0 + 1))) = (bb && (isName (x.f6[i0]).f0 && partP (form t (x.f6[i0]).f2)))) := ⟨by rw [htk, hS.out]; unfold fieldsQ; rw [List.all_append, List.all_cons, List.all_nil, Bool.and_true, Bool.and_assoc]⟩
       clear htk hrd hk00 hS
       generalize x.f6[i0] = f at r0 r1 r2 hstep
       have HFB := Aside0.mk (fun (w4 : World) (hb : Below wo.heap.size wo w4) => HF.out.on hb)
       cases bb with
       | false =>
        go_wp2
        go_roundw
        case rel => exact ⟨i0 + 1, false, by omega, by go_num, rfl, ⟨by rw [hstep.out]; rfl⟩, ⟨HFB.out _ (below_alloc (Below.refl _ _) _)⟩⟩
        case measure => simp [intOf]; omega
       | true =>
        go_wp2_with fail
        refine (name_calls f.f0 _).mono ?_
        rintro e w4 ⟨rfl, hb4⟩
        have HF4 := Aside0.mk ((HFB.out _ (below_alloc (Below.refl _ _) (.cells #[.string f.f0, .bool f.f1, .int .i64 f.f2] 42))).on hb4)
        have g2 : w4.cell? ⟨wo.heap.size, 2, none⟩ = some (.int .i64 f.f2) := (hb4.cell (p := ⟨wo.heap.size, 2, none⟩) (by simp)).trans (by go_simp)
        clear r0 r1 r2
        cases hnm : isName f.f0 with
        | false =>
         go_wp2
         go_roundw
         case rel => exact ⟨i0 + 1, false, by omega, by go_num, rfl, ⟨by rw [hstep.out, hnm]; rfl⟩, HF4⟩
         case measure => simp [intOf]; omega
        | true =>
         have s4 := Aside0.mk HF4.out.s
         go_wp2_with fail
         refine (form_calls (Kd.C_below hCx.out HF4.out.below) _ s4.out _).mono ?_
         rintro e w5 ⟨rfl, rfl⟩
         go_wp2_with fail
         refine (part_calls _ _).mono ?_
         rintro e w5 ⟨rfl, ⟨⟨n5, rfl⟩⟩⟩
         go_wp2
         go_roundw
         case rel => exact ⟨i0 + 1, partP (form t f.f2), by omega, by go_num, rfl, ⟨by rw [hstep.out, hnm]; rfl⟩, ⟨HF4.out.drewN _⟩⟩
         case measure => simp [intOf]; omega
      ·
       have hx : decide ((i0 : Int) < (x.f6.length : Int)) = false := decide_eq_false (by omega)
       have R2 : Aside0 (okP t x = bb) := ⟨by rw [R.out, hS.out, List.take_of_length_le (by omega)]⟩
       clear hS
       go_wp2
       go_meet
       case rel => exact ⟨by rw [R2.out], A6, c6, none, 0, HF.out⟩
  by_cases e10 : x.f0 = 10
  ·
   as_aux_lemma =>
    have W : Aside0 (cellsOf (wantP x) none 0 none 0 = [.int .i64 10, .string ⟨#[]⟩, .string ⟨#[]⟩, .int .i64 0, .int .i64 x.f4, .int .i64 0, .slice none 0 0, .slice none 0 0, .int .i64 0, .int .i64 0]) := ⟨by unfold wantP cellsOf; simp [e10]⟩
    have X : Aside0 (cellsOf x A6 c6 A7 c7 = [.int .i64 10, .string x.f1, .string x.f2, .int .i64 x.f3, .int .i64 x.f4, .int .i64 x.f5, .slice A6 x.f6.length c6, .slice A7 x.f7.length c7, .int .i64 x.f8, .int .i64 x.f9]) := ⟨by unfold cellsOf; simp [e10]⟩
    have HF0 := Aside0.mk (FB.made w (.slice A t.length c) [.int .i64 10, .string x.f1, .string x.f2, .int .i64 x.f3, .int .i64 x.f4, .int .i64 x.f5, .slice A6 x.f6.length c6, .slice A7 x.f7.length c7, .int .i64 x.f8, .int .i64 x.f9] [.int .i64 10, .string ⟨#[]⟩, .string ⟨#[]⟩, .int .i64 0, .int .i64 x.f4, .int .i64 0, .slice none 0 0, .slice none 0 0, .int .i64 0, .int .i64 0])
    have R : Aside0 (okP t x = (form t x.f4 == 9)) := ⟨by unfold okP; rw [if_neg e7, if_neg e8, if_neg e9, if_pos e10]; rfl⟩
    go_upto_region 20 with fail
    clear e7 e8 e9 e10
    as_aux_lemma =>
     go_wp2_with (first | (go_at_call 69; (first | refine (form_calls (Kd.C_below hCx.out HF0.out.below) _ HF0.out.s _).mono ?_ | refine (form_calls (Kd.C_below hCx.out (HF0.out.drewN _).below) _ (HF0.out.drewN _).s _).mono ?_); rintro e w4 ⟨rfl, rfl⟩))
     go_meet
     case rel => exact ⟨by rw [R.out], none, 0, none, 0, by rw [X.out, W.out]; first | exact HF0.out | exact HF0.out.drewN _⟩
  by_cases e11 : x.f0 = 11
  ·
   as_aux_lemma =>
    have W : Aside0 (cellsOf (wantP x) none 0 A7 c7 = [.int .i64 11, .string ⟨#[]⟩, .string ⟨#[]⟩, .int .i64 0, .int .i64 0, .int .i64 0, .slice none 0 0, .slice A7 x.f7.length c7, .int .i64 x.f8, .int .i64 0]) := ⟨by unfold wantP cellsOf; simp [e11]⟩
    have X : Aside0 (cellsOf x A6 c6 A7 c7 = [.int .i64 11, .string x.f1, .string x.f2, .int .i64 x.f3, .int .i64 x.f4, .int .i64 x.f5, .slice A6 x.f6.length c6, .slice A7 x.f7.length c7, .int .i64 x.f8, .int .i64 x.f9]) := ⟨by unfold cellsOf; simp [e11]⟩
    have HF0 := Aside0.mk (FB.made w (.slice A t.length c) [.int .i64 11, .string x.f1, .string x.f2, .int .i64 x.f3, .int .i64 x.f4, .int .i64 x.f5, .slice A6 x.f6.length c6, .slice A7 x.f7.length c7, .int .i64 x.f8, .int .i64 x.f9] [.int .i64 11, .string ⟨#[]⟩, .string ⟨#[]⟩, .int .i64 0, .int .i64 0, .int .i64 0, .slice none 0 0, .slice A7 x.f7.length c7, .int .i64 x.f8, .int .i64 0])
    have R : Aside0 (okP t x = (proc1P t x && parsQ t x.f7)) := ⟨by unfold okP; rw [if_neg e7, if_neg e8, if_neg e9, if_neg e10, if_pos e11]⟩
    go_upto_region 23 with fail
    go_region
    clear e7 e8 e9 e10 e11
    go_upto_region 24 with fail
    go_cut [7] (fun s7 wr => s7 = .bool (proc1P t x) ∧ FB w wr (.slice A t.length c) (cellsOf x A6 c6 A7 c7) (cellsOf (wantP x) none 0 A7 c7))
    case first =>
     by_cases g1 : x.f7.length ≤ 64
     ·
      have g1b : decide ((x.f7.length : Int) ≤ 64) = true := decide_eq_true (by omega)
      by_cases g0 : x.f8 = 0
      ·
       have g0b : (x.f8 == 0) = true := by simpa using g0
       replace g0 := Aside0.mk g0
       have R2 : Aside0 (proc1P t x = true) := ⟨by unfold proc1P; simp [g1, g0.out]⟩
       as_aux_lemma =>
        go_wp2
        go_meet
        case rel => exact ⟨by rw [R2.out], by rw [X.out, W.out]; first | exact HF0.out | exact HF0.out.drewN _⟩
      ·
       have g0b : (x.f8 == 0) = false := by simpa using g0
       replace g0 := Aside0.mk g0
       have R2 : Aside0 (proc1P t x = plainP (form t x.f8)) := ⟨by unfold proc1P; simp [g1, g0.out]⟩
       as_aux_lemma =>
        go_wp2_with (first | (go_at_call 69; (first | refine (form_calls (Kd.C_below hCx.out HF0.out.below) _ HF0.out.s _).mono ?_ | refine (form_calls (Kd.C_below hCx.out (HF0.out.drewN _).below) _ (HF0.out.drewN _).s _).mono ?_); rintro e w4 ⟨rfl, rfl⟩) | (go_at_call 72; refine (plain_calls _ _).mono ?_; rintro e w5 ⟨rfl, ⟨⟨n5, rfl⟩⟩⟩))
        go_meet
        case rel => exact ⟨by rw [R2.out], by rw [X.out, W.out]; first | exact HF0.out | exact HF0.out.drewN _⟩
     ·
      have g1b : decide ((x.f7.length : Int) ≤ 64) = false := decide_eq_false (by omega)
      have R2 : Aside0 (proc1P t x = false) := ⟨by unfold proc1P; simp [g1]⟩
      as_aux_lemma =>
       go_wp2
       go_meet
       case rel => exact ⟨by rw [R2.out], by rw [X.out, W.out]; first | exact HF0.out | exact HF0.out.drewN _⟩
    case rest =>
     obtain ⟨rfl, HFc⟩ := hcut
     clear HF0 W X
     have HF := Aside0.mk HFc
     clear HFc
     obtain ⟨wx, rfl⟩ : ∃ wx, wx = wc := ⟨_, rfl⟩
     generalize proc1P t x = b1 at R ⊢
     have x7 := HF.out.x 7 _ rfl
     go_wp2
     clear x7
     go_loopw [7, 154] (fun s7 i wr => ∃ (i0 : Nat) (bb : Bool), i0 ≤ x.f7.length ∧ i = .int .i64 i0 ∧ s7 = .bool bb ∧ Aside0 (bb = (b1 && parsQ t (x.f7.take i0))) ∧ Aside0 (FB w wr (.slice A t.length c) (cellsOf x A6 c6 A7 c7) (cellsOf (wantP x) none 0 A7 c7))) (fun _ i _ => x.f7.length - (intOf i).toNat)
     case atStart => exact ⟨0, b1, Nat.zero_le _, rfl, rfl, ⟨by simp [parsQ]⟩, HF⟩
     case round =>
      clear HF
      obtain ⟨wo, rfl⟩ : ∃ wo : World, wo = wr := ⟨_, rfl⟩
      obtain ⟨i0, bb, hi0, rfl, rfl, hS, HF⟩ := hrel
      by_cases hlt : i0 < x.f7.length
      ·
       have hx : decide ((i0 : Int) < (x.f7.length : Int)) = true := decide_eq_true (by omega)
       have hin := size_in hlt
       obtain ⟨fd, hfA, r0, r1⟩ := at_T47 (Kd.C_below hC7.out HF.out.below) (i0 : Int) (by omega) (by omega)
       obtain rfl := hfA
       have hk00 : ((i0 : Nat) : Int).toNat = i0 := by omega
       have hrd : rd_T47 x.f7 (i0 : Int) = x.f7[i0] := by unfold rd_T47; simp [List.getD_eq_getElem?_getD, List.getElem?_eq_getElem hlt]
       rw [hk00, hrd] at r0 r1
       have htk : x.f7.take (i0 + 1) = x.f7.take i0 ++ [x.f7[i0]] := by rw [List.take_add_one, List.getElem?_eq_getElem hlt]; rfl
       have hstep : Aside0 ((b1 && parsQ t (x.f7.take (i0 + 1))) = (bb && (partP (form t (x.f7[i0]).f1) || decide (form t (x.f7[i0]).f1 = 8)))) := ⟨by rw [htk, hS.out]; unfold parsQ; rw [List.all_append, List.all_cons, List.all_nil, Bool.and_true, Bool.and_assoc]⟩
       clear htk hrd hk00 hS
       generalize x.f7[i0] = f at r0 r1 hstep
       have HFB := Aside0.mk (HF.out.on (below_alloc (Below.refl _ _) (.cells #[.bool f.f0, .int .i64 f.f1] 47)))
       cases bb with
       | false =>
        go_wp2
        go_roundw
        case rel => exact ⟨i0 + 1, false, by omega, by go_num, rfl, ⟨by rw [hstep.out]; rfl⟩, HFB⟩
        case measure => simp [intOf]; omega
       | true =>
        go_wp2_with fail
        refine (form_calls (Kd.C_below hCx.out HFB.out.below) _ HFB.out.s _).mono ?_
        rintro e w5 ⟨rfl, rfl⟩
        go_wp2_with fail
        refine (part_calls _ _).mono ?_
        rintro e w5 ⟨rfl, ⟨⟨n5, rfl⟩⟩⟩
        cases hp : partP (form t f.f1) with
        | true =>
         go_wp2
         go_roundw
         case rel => exact ⟨i0 + 1, true, by omega, by go_num, rfl, ⟨by rw [hstep.out, hp]; rfl⟩, ⟨HFB.out.drewN _⟩⟩
         case measure => simp [intOf]; omega
        | false =>
         go_wp2_with fail
         refine (form_calls (Kd.C_below hCx.out (HFB.out.drewN _).below) _ (HFB.out.drewN _).s _).mono ?_
         rintro e w5 ⟨rfl, rfl⟩
         go_wp2
         go_roundw
         case rel => exact ⟨i0 + 1, (form t f.f1 == 8), by omega, by go_num, rfl, ⟨by rw [hstep.out, hp]; rfl⟩, ⟨HFB.out.drewN _⟩⟩
         case measure => simp [intOf]; omega
      ·
       have hx : decide ((i0 : Int) < (x.f7.length : Int)) = false := decide_eq_false (by omega)
       have R2 : Aside0 (okP t x = bb) := ⟨by rw [R.out, hS.out, List.take_of_length_le (by omega)]⟩
       clear hS
       go_wp2
       go_meet
       case rel => exact ⟨by rw [R2.out], none, 0, A7, c7, HF.out⟩
  as_aux_lemma =>
   have W : Aside0 (cellsOf (wantP x) none 0 none 0 = [.int .i64 x.f0, .string ⟨#[]⟩, .string ⟨#[]⟩, .int .i64 0, .int .i64 0, .int .i64 0, .slice none 0 0, .slice none 0 0, .int .i64 0, .int .i64 0]) := ⟨by unfold wantP cellsOf; simp [e7, e8, e9, e10, e11]⟩
   have X : Aside0 (cellsOf x A6 c6 A7 c7 = [.int .i64 x.f0, .string x.f1, .string x.f2, .int .i64 x.f3, .int .i64 x.f4, .int .i64 x.f5, .slice A6 x.f6.length c6, .slice A7 x.f7.length c7, .int .i64 x.f8, .int .i64 x.f9]) := ⟨by unfold cellsOf; rfl⟩
   have HF0 := Aside0.mk (FB.made w (.slice A t.length c) [.int .i64 x.f0, .string x.f1, .string x.f2, .int .i64 x.f3, .int .i64 x.f4, .int .i64 x.f5, .slice A6 x.f6.length c6, .slice A7 x.f7.length c7, .int .i64 x.f8, .int .i64 x.f9] [.int .i64 x.f0, .string ⟨#[]⟩, .string ⟨#[]⟩, .int .i64 0, .int .i64 0, .int .i64 0, .slice none 0 0, .slice none 0 0, .int .i64 0, .int .i64 0])
   have R2 : Aside0 (okP t x = false) := ⟨by unfold okP; rw [if_neg e7, if_neg e8, if_neg e9, if_neg e10, if_neg e11]⟩
   have g7 : (x.f0 == 7) = false := by simpa using e7
   have g8 : (x.f0 == 8) = false := by simpa using e8
   have g9 : (x.f0 == 9) = false := by simpa using e9
   have g10 : (x.f0 == 10) = false := by simpa using e10
   have g11 : (x.f0 == 11) = false := by simpa using e11
   clear e7 e8 e9 e10 e11
   as_aux_lemma =>
    go_wp2
    go_meet
    case rel => exact ⟨by rw [R2.out], none, 0, none, 0, by rw [X.out, W.out]; first | exact HF0.out | exact HF0.out.drewN _⟩
 case rest =>
  obtain ⟨rfl, B6, d6, B7, d7, HF0⟩ := hcut
  have HF := Aside0.mk HF0
  clear HF0
  have HR : Aside0 (formedP t x = (okP t x && (namedP x && (decide (x.f9 = (wantP x).f9) && (decide (x.f3 = (wantP x).f3) && (decide (x.f4 = (wantP x).f4) && (decide (x.f5 = (wantP x).f5) && (decide (x.f8 = (wantP x).f8) && (decide (x.f6.length = (wantP x).f6.length) && decide (x.f7.length = (wantP x).f7.length)))))))))) := ⟨rfl⟩
  generalize okP t x = ok at HR ⊢
  generalize wantP x = y at HR HF
  obtain ⟨wx, rfl⟩ : ∃ wx, wx = wc := ⟨_, rfl⟩
  go_upto_region 30 with fail
  go_cut [12] (fun s12 wr => s12 = .bool (namedP x) ∧ FB w wr (.slice A t.length c) (cellsOf x A6 c6 A7 c7) (cellsOf y B6 d6 B7 d7))
  case first =>
   as_aux_lemma =>
    have x0 := HF.out.x 0 _ rfl
    have x1 := HF.out.x 1 _ rfl
    have x2 := HF.out.x 2 _ rfl
    clear HR
    have FB4 : ∀ (w4 : World), Below wx.heap.size wx w4 → FB w w4 (.slice A t.length c) (cellsOf x A6 c6 A7 c7) (cellsOf y B6 d6 B7 d7) := fun w4 hb => HF.out.on hb
    have HFB := Aside0.mk FB4
    clear FB4
    cases n1 : x.f1.toList.isEmpty with
    | true =>
     have i1 : isName x.f1 = false := by rw [empty_iff] at n1; have := of_decide_eq_true n1; simp [isName, this]
     cases n2 : x.f2.toList.isEmpty with
     | true =>
      by_cases e9 : x.f0 = 9
      ·
       rw [e9] at x0
       replace e9 := Aside0.mk e9
       as_aux_lemma =>
        go_wp2_with fail
        refine (name_calls x.f1 _).mono ?_
        rintro e w4 ⟨rfl, hb4⟩
        have HF4 := Aside0.mk (HFB.out w4 hb4)
        go_wp2
        go_meet
        case rel => exact ⟨by simp [namedP, nul, n1, n2, i1, e9.out], HF4.out⟩
      ·
       have e9b : (x.f0 != 9) = true := by simpa using e9
       replace e9 := Aside0.mk e9
       as_aux_lemma =>
        go_wp2
        go_meet
        case rel => exact ⟨by simp [namedP, nul, n1, n2, e9.out], HF.out⟩
     | false =>
      as_aux_lemma =>
       go_wp2_with fail
       refine (name_calls x.f1 _).mono ?_
       rintro e w4 ⟨rfl, hb4⟩
       have HF4 := Aside0.mk (HFB.out w4 hb4)
       go_wp2
       go_meet
       case rel => exact ⟨by simp [namedP, nul, n1, n2, i1], HF4.out⟩
    | false =>
     cases i1 : isName x.f1 with
     | false =>
      as_aux_lemma =>
       go_wp2_with fail
       refine (name_calls x.f1 _).mono ?_
       rintro e w4 ⟨rfl, hb4⟩
       have HF4 := Aside0.mk (HFB.out w4 hb4)
       go_wp2
       go_meet
       case rel => exact ⟨by simp [namedP, nul, n1, i1], HF4.out⟩
     | true =>
      cases i2 : isName x.f2 with
      | true =>
       as_aux_lemma =>
        go_wp2_with fail
        refine (name_calls x.f1 _).mono ?_
        rintro e w4 ⟨rfl, hb4⟩
        have HF4 := Aside0.mk (HFB.out w4 hb4)
        have z2 := HF4.out.x 2 _ rfl
        clear x0 x1 x2
        go_wp2_with fail
        refine (name_calls x.f2 _).mono ?_
        rintro e w5 ⟨rfl, hb5⟩
        have HF5 := Aside0.mk (HF4.out.on hb5)
        clear z2
        have z2 := HF5.out.x 2 _ rfl
        have z0 := HF5.out.x 0 _ rfl
        go_wp2
        go_meet
        case rel => exact ⟨by simp [namedP, nul, n1, i1, i2], HF5.out⟩
      | false =>
       cases n2 : x.f2.toList.isEmpty with
       | false =>
        as_aux_lemma =>
         go_wp2_with fail
         refine (name_calls x.f1 _).mono ?_
         rintro e w4 ⟨rfl, hb4⟩
         have HF4 := Aside0.mk (HFB.out w4 hb4)
         have z2 := HF4.out.x 2 _ rfl
         clear x0 x1 x2
         go_wp2_with fail
         refine (name_calls x.f2 _).mono ?_
         rintro e w5 ⟨rfl, hb5⟩
         have HF5 := Aside0.mk (HF4.out.on hb5)
         clear z2
         have z2 := HF5.out.x 2 _ rfl
         have z0 := HF5.out.x 0 _ rfl
         go_wp2
         go_meet
         case rel => exact ⟨by simp [namedP, nul, n1, i1, i2, n2], HF5.out⟩
       | true =>
        by_cases e9 : x.f0 = 9
        ·
         replace e9 := Aside0.mk e9
         as_aux_lemma =>
          go_wp2_with fail
          refine (name_calls x.f1 _).mono ?_
          rintro e w4 ⟨rfl, hb4⟩
          have HF4 := Aside0.mk (HFB.out w4 hb4)
          have z2 := HF4.out.x 2 _ rfl
          clear x0 x1 x2
          go_wp2_with fail
          refine (name_calls x.f2 _).mono ?_
          rintro e w5 ⟨rfl, hb5⟩
          have HF5 := Aside0.mk (HF4.out.on hb5)
          clear z2
          have z2 := HF5.out.x 2 _ rfl
          have z0 := HF5.out.x 0 _ rfl
          rw [e9.out] at z0
          go_wp2
          go_meet
          case rel => exact ⟨by simp [namedP, nul, n1, i1, i2, n2, e9.out], HF5.out⟩
        ·
         have e9b : (x.f0 == 9) = false := by simpa using e9
         replace e9 := Aside0.mk e9
         as_aux_lemma =>
          go_wp2_with fail
          refine (name_calls x.f1 _).mono ?_
          rintro e w4 ⟨rfl, hb4⟩
          have HF4 := Aside0.mk (HFB.out w4 hb4)
          have z2 := HF4.out.x 2 _ rfl
          clear x0 x1 x2
          go_wp2_with fail
          refine (name_calls x.f2 _).mono ?_
          rintro e w5 ⟨rfl, hb5⟩
          have HF5 := Aside0.mk (HF4.out.on hb5)
          clear z2
          have z2 := HF5.out.x 2 _ rfl
          have z0 := HF5.out.x 0 _ rfl
          go_wp2
          go_meet
          case rel => exact ⟨by simp [namedP, nul, n1, i1, i2, n2, e9.out], HF5.out⟩
  case rest =>
   as_aux_lemma =>
    obtain ⟨rfl, HF0⟩ := hcut
    clear HF
    have HF := Aside0.mk HF0
    clear HF0
    generalize namedP x = nm at HR ⊢
    obtain ⟨wx, rfl⟩ : ∃ wx, wx = wc := ⟨_, rfl⟩
    have x9 := HF.out.x 9 _ rfl
    have x3 := HF.out.x 3 _ rfl
    have x4 := HF.out.x 4 _ rfl
    have x5 := HF.out.x 5 _ rfl
    have x6 := HF.out.x 6 _ rfl
    have x7 := HF.out.x 7 _ rfl
    have x8 := HF.out.x 8 _ rfl
    have y9 := HF.out.y 9 _ rfl
    have y3 := HF.out.y 3 _ rfl
    have y4 := HF.out.y 4 _ rfl
    have y5 := HF.out.y 5 _ rfl
    have y6 := HF.out.y 6 _ rfl
    have y7 := HF.out.y 7 _ rfl
    have y8 := HF.out.y 8 _ rfl
    cases hk : ok with
    | false =>
     have R : Aside0 (formedP t x = false) := ⟨by rw [HR.out, hk]; simp⟩
     as_aux_lemma =>
      go_wp2
      go_ret
      exact ⟨ret_bool R.out.symm, HF.out.below⟩
    | true =>
     cases hn : nm with
     | false =>
      have R : Aside0 (formedP t x = false) := ⟨by rw [HR.out, hk, hn]; simp⟩
      as_aux_lemma =>
       go_wp2
       go_ret
       exact ⟨ret_bool R.out.symm, HF.out.below⟩
     | true =>
      have R : Aside0 (formedP t x = (decide (x.f9 = y.f9) && (decide (x.f3 = y.f3) && (decide (x.f4 = y.f4) && (decide (x.f5 = y.f5) && (decide (x.f8 = y.f8) && (decide (x.f6.length = y.f6.length) && decide (x.f7.length = y.f7.length)))))))) := ⟨by rw [HR.out, hk, hn]; simp only [Bool.true_and]⟩
      clear HR hk hn
      by_cases h0 : x.f9 = y.f9
      ·
       replace R := Aside0.mk (R.out.trans (by rw [decide_eq_true h0, Bool.true_and]))
       have h0b : (x.f9 == y.f9) = true := by simpa using h0
       replace h0 := Aside0.mk h0
       by_cases h1 : x.f3 = y.f3
       ·
        replace R := Aside0.mk (R.out.trans (by rw [decide_eq_true h1, Bool.true_and]))
        have h1b : (x.f3 == y.f3) = true := by simpa using h1
        replace h1 := Aside0.mk h1
        by_cases h2 : x.f4 = y.f4
        ·
         replace R := Aside0.mk (R.out.trans (by rw [decide_eq_true h2, Bool.true_and]))
         have h2b : (x.f4 == y.f4) = true := by simpa using h2
         replace h2 := Aside0.mk h2
         by_cases h3 : x.f5 = y.f5
         ·
          replace R := Aside0.mk (R.out.trans (by rw [decide_eq_true h3, Bool.true_and]))
          have h3b : (x.f5 == y.f5) = true := by simpa using h3
          replace h3 := Aside0.mk h3
          by_cases h4 : x.f8 = y.f8
          ·
           replace R := Aside0.mk (R.out.trans (by rw [decide_eq_true h4, Bool.true_and]))
           have h4b : (x.f8 == y.f8) = true := by simpa using h4
           replace h4 := Aside0.mk h4
           by_cases h5 : x.f6.length = y.f6.length
           ·
            replace R := Aside0.mk (R.out.trans (by rw [decide_eq_true h5, Bool.true_and]))
            have h5b : (x.f6.length == y.f6.length) = true := by simpa using h5
            have h5c : ((x.f6.length : Int) == (y.f6.length : Int)) = true := by simp [h5]
            replace h5 := Aside0.mk h5
            by_cases h6 : x.f7.length = y.f7.length
            ·
             replace R := Aside0.mk (R.out.trans (decide_eq_true h6))
             have h6b : (x.f7.length == y.f7.length) = true := by simpa using h6
             have h6c : ((x.f7.length : Int) == (y.f7.length : Int)) = true := by simp [h6]
             replace h6 := Aside0.mk h6
             as_aux_lemma =>
              go_wp2
              go_ret
              exact ⟨ret_bool R.out.symm, HF.out.below⟩
            ·
             replace R := Aside0.mk (R.out.trans (decide_eq_false h6))
             have h6b : (x.f7.length == y.f7.length) = false := by simpa using h6
             have h6c : ((x.f7.length : Int) == (y.f7.length : Int)) = false := by simp; omega
             replace h6 := Aside0.mk h6
             as_aux_lemma =>
              go_wp2
              go_ret
              exact ⟨ret_bool R.out.symm, HF.out.below⟩
           ·
            replace R := Aside0.mk (R.out.trans (by rw [decide_eq_false h5, Bool.false_and]))
            have h5b : (x.f6.length == y.f6.length) = false := by simpa using h5
            have h5c : ((x.f6.length : Int) == (y.f6.length : Int)) = false := by simp; omega
            replace h5 := Aside0.mk h5
            as_aux_lemma =>
             go_wp2
             go_ret
             exact ⟨ret_bool R.out.symm, HF.out.below⟩
          ·
           replace R := Aside0.mk (R.out.trans (by rw [decide_eq_false h4, Bool.false_and]))
           have h4b : (x.f8 == y.f8) = false := by simpa using h4
           replace h4 := Aside0.mk h4
           as_aux_lemma =>
            go_wp2
            go_ret
            exact ⟨ret_bool R.out.symm, HF.out.below⟩
         ·
          replace R := Aside0.mk (R.out.trans (by rw [decide_eq_false h3, Bool.false_and]))
          have h3b : (x.f5 == y.f5) = false := by simpa using h3
          replace h3 := Aside0.mk h3
          as_aux_lemma =>
           go_wp2
           go_ret
           exact ⟨ret_bool R.out.symm, HF.out.below⟩
        ·
         replace R := Aside0.mk (R.out.trans (by rw [decide_eq_false h2, Bool.false_and]))
         have h2b : (x.f4 == y.f4) = false := by simpa using h2
         replace h2 := Aside0.mk h2
         as_aux_lemma =>
          go_wp2
          go_ret
          exact ⟨ret_bool R.out.symm, HF.out.below⟩
       ·
        replace R := Aside0.mk (R.out.trans (by rw [decide_eq_false h1, Bool.false_and]))
        have h1b : (x.f3 == y.f3) = false := by simpa using h1
        replace h1 := Aside0.mk h1
        as_aux_lemma =>
         go_wp2
         go_ret
         exact ⟨ret_bool R.out.symm, HF.out.below⟩
      ·
       replace R := Aside0.mk (R.out.trans (by rw [decide_eq_false h0, Bool.false_and]))
       have h0b : (x.f9 == y.f9) = false := by simpa using h0
       replace h0 := Aside0.mk h0
       as_aux_lemma =>
        go_wp2
        go_ret
        exact ⟨ret_bool R.out.symm, HF.out.below⟩
end Go.Proofs.Ytgnbemgeiloegaa.Tg
