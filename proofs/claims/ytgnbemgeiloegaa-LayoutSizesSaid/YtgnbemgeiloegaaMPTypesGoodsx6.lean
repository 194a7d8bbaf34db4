import Derived.Test.YtgnbemgeiloegaaMTgM
namespace Go.Proofs.Ytgnbemgeiloegaa.PTypesGoods
open Go.RowKit Go.Proofs.YtgnbemgeiloegaaW.PrintWords Go.Proofs.YtgnbemgeiloegaaW.PrintLast Go.Proofs.YtgnbemgeiloegaaW.PrintMore
attribute [local go_sem] max2_int min2_int max_two min_two max_three min_three max_four min_four
set_option linter.unusedVariables false
set_option linter.unusedSimpArgs false
def tables_bare.f (a0_0 : Int) (a0_1 : ByteArray) (a0_2 : ByteArray) (a0_3 : Int) (a0_4 : Int) (a0_5 : Int) (l0_6 : List (S42)) (l0_7 : List (S47)) (a0_8 : Int) (a0_9 : Int) (a1 : Int) : Option (Bool) := if a0_0 = a1 then (if a0_1.toList = ([] : List UInt8) then (if a0_2.toList = ([] : List UInt8) then (if a0_3 = 0 then (if a0_4 = 0 then (if a0_5 = 0 then (if a0_8 = 0 then (if a0_9 = 0 then (if (l0_6.length : Int) = 0 then (some ((l0_7.length : Int) == 0)) else (some false)) else (some false)) else (some false)) else (some false)) else (some false)) else (some false)) else (some false)) else (some false)) else (some false)
set_option maxHeartbeats 8000000 in
set_option maxRecDepth 100000 in
theorem tables_bare.calls (a0_0 : Int) (a0_1 : ByteArray) (a0_2 : ByteArray) (a0_3 : Int) (a0_4 : Int) (a0_5 : Int) (A0_6 : Option Addr) (c0_6 : Nat) (l0_6 : List (S42)) (A0_7 : Option Addr) (c0_7 : Nat) (l0_7 : List (S47)) (a0_8 : Int) (a0_9 : Int) (a1 : Int) (r : Bool) (w : World) (hr0_6 : Kd.C k42 w A0_6 l0_6.length l0_6) (hc0_6 : l0_6.length ≤ c0_6) (hr0_7 : Kd.C k47 w A0_7 l0_7.length l0_7) (hc0_7 : l0_7.length ≤ c0_7) (h : tables_bare.f a0_0 a0_1 a0_2 a0_3 a0_4 a0_5 l0_6 l0_7 a0_8 a0_9 a1 = some r) :
 Calls Try.prog 59 #[.agg #[.int .i64 a0_0, .string a0_1, .string a0_2, .int .i64 a0_3, .int .i64 a0_4, .int .i64 a0_5, .slice A0_6 l0_6.length c0_6, .slice A0_7 l0_7.length c0_7, .int .i64 a0_8, .int .i64 a0_9], .int .i64 a1] w fun e w' => e = .returned (.bool r) ∧ Below w.heap.size w w' := by
 have hu40 := Try.underlying40
 have HR0_6 := Aside0.mk hr0_6
 have HC0_6 := Aside0.mk hc0_6
 clear hr0_6 hc0_6
 have HR0_7 := Aside0.mk hr0_7
 have HC0_7 := Aside0.mk hc0_7
 clear hr0_7 hc0_7
 have HB := Aside0.mk (Below.refl w.heap.size w)
 have H : (if a0_0 = a1 then (if a0_1.toList = ([] : List UInt8) then (if a0_2.toList = ([] : List UInt8) then (if a0_3 = 0 then (if a0_4 = 0 then (if a0_5 = 0 then (if a0_8 = 0 then (if a0_9 = 0 then (if (l0_6.length : Int) = 0 then (some ((l0_7.length : Int) == 0)) else (some false)) else (some false)) else (some false)) else (some false)) else (some false)) else (some false)) else (some false)) else (some false)) else (some false)) = some r := h
 clear h
 by_cases c3 : a0_0 = a1
 ·
  rw [if_pos c3] at H
  have c3b0 : (a0_0 == a1) = true := beq_iff_eq.mpr c3
  have c3b1 : (a0_0 != a1) = false := bne_eq_false_iff_eq.mpr c3
  clear c3
  by_cases c4 : a0_1.toList = ([] : List UInt8)
  ·
   rw [if_pos c4] at H
   have c4b0 : (a0_1.toList == ([] : List UInt8)) = true := beq_iff_eq.mpr c4
   have c4b1 : (a0_1.toList != ([] : List UInt8)) = false := bne_eq_false_iff_eq.mpr c4
   clear c4
   by_cases c5 : a0_2.toList = ([] : List UInt8)
   ·
    rw [if_pos c5] at H
    have c5b0 : (a0_2.toList == ([] : List UInt8)) = true := beq_iff_eq.mpr c5
    have c5b1 : (a0_2.toList != ([] : List UInt8)) = false := bne_eq_false_iff_eq.mpr c5
    clear c5
    by_cases c6 : a0_3 = 0
    ·
     rw [if_pos c6] at H
     have c6b0 : (a0_3 == 0) = true := beq_iff_eq.mpr c6
     have c6b1 : (a0_3 != 0) = false := bne_eq_false_iff_eq.mpr c6
     clear c6
     by_cases c7 : a0_4 = 0
     ·
      rw [if_pos c7] at H
      have c7b0 : (a0_4 == 0) = true := beq_iff_eq.mpr c7
      have c7b1 : (a0_4 != 0) = false := bne_eq_false_iff_eq.mpr c7
      clear c7
      by_cases c8 : a0_5 = 0
      ·
       rw [if_pos c8] at H
       have c8b0 : (a0_5 == 0) = true := beq_iff_eq.mpr c8
       have c8b1 : (a0_5 != 0) = false := bne_eq_false_iff_eq.mpr c8
       clear c8
       by_cases c9 : a0_8 = 0
       ·
        rw [if_pos c9] at H
        have c9b0 : (a0_8 == 0) = true := beq_iff_eq.mpr c9
        have c9b1 : (a0_8 != 0) = false := bne_eq_false_iff_eq.mpr c9
        clear c9
        by_cases c10 : a0_9 = 0
        ·
         rw [if_pos c10] at H
         have c10b0 : (a0_9 == 0) = true := beq_iff_eq.mpr c10
         have c10b1 : (a0_9 != 0) = false := bne_eq_false_iff_eq.mpr c10
         clear c10
         by_cases c11 : (l0_6.length : Int) = 0
         ·
          rw [if_pos c11] at H
          have c11b0 : ((l0_6.length : Int) == 0) = true := beq_iff_eq.mpr c11
          have c11b1 : ((l0_6.length : Int) != 0) = false := bne_eq_false_iff_eq.mpr c11
          clear c11
          obtain rfl := Option.some.inj H
          go_enter Try.func59, Try.ntmps59
          go_wp2_with (first | ((with_reducible refine gate_dst (N := 2) rfl ?_); (try (refine gate_guard (by rfl) ?_; dsimp only)); refine box_event ?hg (N := 2) ?hd (cs := #[.int .i64 a0_0, .string a0_1, .string a0_2, .int .i64 a0_3, .int .i64 a0_4, .int .i64 a0_5, .slice A0_6 l0_6.length c0_6, .slice A0_7 l0_7.length c0_7, .int .i64 a0_8, .int .i64 a0_9]) (t := 40) ?hr ?_; (case hd => rfl); (case hg => rfl); (case hr => first | (go_simp; done) | (go_simp; rfl)); intro gb204 hg w12 hbox hb; have n0_ := Aside0.mk (below_step (by repeat (first | (with_reducible first | exact HB.out | apply below_alloc | apply pw_below_drewN | apply below_drew1) | exact HB.out)) hb); have n1_ := Aside0.mk (hbox); have n2_ := Aside0.mk ((by rw [hg]; exact (below_size (by repeat (first | (with_reducible first | exact HB.out | apply below_alloc | apply pw_below_drewN | apply below_drew1) | exact HB.out))) : w.heap.size ≤ gb204)); have n3_ := Aside0.mk ((by rw [hg]; exact (below_size (by repeat (first | (with_reducible first | exact HB.out | apply below_alloc | apply pw_below_drewN | apply below_drew1) | exact HB.out))) : w.heap.size ≤ gb204)); clear HB; have HB := n0_; have BK204 := n1_; have GW204 := n2_; have GE204 := n3_; clear n0_ n1_ n2_ n3_; clear hb hbox hg; have hcz13_0 : w12.cell? ⟨gb204, 0, none⟩ = some (.int .i64 a0_0) := (blk_cell BK204.out 0).trans rfl; have hcz13_1 : w12.cell? ⟨gb204, 1, none⟩ = some (.string a0_1) := (blk_cell BK204.out 1).trans rfl; have hcz13_2 : w12.cell? ⟨gb204, 2, none⟩ = some (.string a0_2) := (blk_cell BK204.out 2).trans rfl; have hcz13_3 : w12.cell? ⟨gb204, 3, none⟩ = some (.int .i64 a0_3) := (blk_cell BK204.out 3).trans rfl; have hcz13_4 : w12.cell? ⟨gb204, 4, none⟩ = some (.int .i64 a0_4) := (blk_cell BK204.out 4).trans rfl; have hcz13_5 : w12.cell? ⟨gb204, 5, none⟩ = some (.int .i64 a0_5) := (blk_cell BK204.out 5).trans rfl; have hcz13_6 : w12.cell? ⟨gb204, 6, none⟩ = some (.slice A0_6 l0_6.length c0_6) := (blk_cell BK204.out 6).trans rfl; have hcz13_7 : w12.cell? ⟨gb204, 7, none⟩ = some (.slice A0_7 l0_7.length c0_7) := (blk_cell BK204.out 7).trans rfl; have hcz13_8 : w12.cell? ⟨gb204, 8, none⟩ = some (.int .i64 a0_8) := (blk_cell BK204.out 8).trans rfl; have hcz13_9 : w12.cell? ⟨gb204, 9, none⟩ = some (.int .i64 a0_9) := (blk_cell BK204.out 9).trans rfl; have hfz13_0 := blk_frozen BK204.out 0; have hfz13_1 := blk_frozen BK204.out 1; have hfz13_2 := blk_frozen BK204.out 2; have hfz13_3 := blk_frozen BK204.out 3; have hfz13_4 := blk_frozen BK204.out 4; have hfz13_5 := blk_frozen BK204.out 5; have hfz13_6 := blk_frozen BK204.out 6; have hfz13_7 := blk_frozen BK204.out 7; have hfz13_8 := blk_frozen BK204.out 8; have hfz13_9 := blk_frozen BK204.out 9))
          go_ret
          exact ⟨by first | rfl | (simp [errW_none, errW_some] <;> rfl) | (simp [*, errW_none, errW_some] <;> rfl), by repeat (first | (with_reducible first | exact HB.out | apply below_alloc | apply pw_below_drewN | apply below_drew1 | refine below_set ?_ GE204.out) | exact HB.out)⟩
         ·
          rw [if_neg c11] at H
          have c11b0 : ((l0_6.length : Int) == 0) = false := beq_eq_false_iff_ne.mpr c11
          have c11b1 : ((l0_6.length : Int) != 0) = true := bne_iff_ne.mpr c11
          have c11b2 : ¬ (l0_6 = []) := fun h_ => c11 (by rw [h_]; rfl)
          obtain rfl := Option.some.inj H
          go_enter Try.func59, Try.ntmps59
          go_wp2_with (first | ((with_reducible refine gate_dst (N := 2) rfl ?_); (try (refine gate_guard (by rfl) ?_; dsimp only)); refine box_event ?hg (N := 2) ?hd (cs := #[.int .i64 a0_0, .string a0_1, .string a0_2, .int .i64 a0_3, .int .i64 a0_4, .int .i64 a0_5, .slice A0_6 l0_6.length c0_6, .slice A0_7 l0_7.length c0_7, .int .i64 a0_8, .int .i64 a0_9]) (t := 40) ?hr ?_; (case hd => rfl); (case hg => rfl); (case hr => first | (go_simp; done) | (go_simp; rfl)); intro gb204 hg w14 hbox hb; have n0_ := Aside0.mk (below_step (by repeat (first | (with_reducible first | exact HB.out | apply below_alloc | apply pw_below_drewN | apply below_drew1) | exact HB.out)) hb); have n1_ := Aside0.mk (hbox); have n2_ := Aside0.mk ((by rw [hg]; exact (below_size (by repeat (first | (with_reducible first | exact HB.out | apply below_alloc | apply pw_below_drewN | apply below_drew1) | exact HB.out))) : w.heap.size ≤ gb204)); have n3_ := Aside0.mk ((by rw [hg]; exact (below_size (by repeat (first | (with_reducible first | exact HB.out | apply below_alloc | apply pw_below_drewN | apply below_drew1) | exact HB.out))) : w.heap.size ≤ gb204)); clear HB; have HB := n0_; have BK204 := n1_; have GW204 := n2_; have GE204 := n3_; clear n0_ n1_ n2_ n3_; clear hb hbox hg; have hcz15_0 : w14.cell? ⟨gb204, 0, none⟩ = some (.int .i64 a0_0) := (blk_cell BK204.out 0).trans rfl; have hcz15_1 : w14.cell? ⟨gb204, 1, none⟩ = some (.string a0_1) := (blk_cell BK204.out 1).trans rfl; have hcz15_2 : w14.cell? ⟨gb204, 2, none⟩ = some (.string a0_2) := (blk_cell BK204.out 2).trans rfl; have hcz15_3 : w14.cell? ⟨gb204, 3, none⟩ = some (.int .i64 a0_3) := (blk_cell BK204.out 3).trans rfl; have hcz15_4 : w14.cell? ⟨gb204, 4, none⟩ = some (.int .i64 a0_4) := (blk_cell BK204.out 4).trans rfl; have hcz15_5 : w14.cell? ⟨gb204, 5, none⟩ = some (.int .i64 a0_5) := (blk_cell BK204.out 5).trans rfl; have hcz15_6 : w14.cell? ⟨gb204, 6, none⟩ = some (.slice A0_6 l0_6.length c0_6) := (blk_cell BK204.out 6).trans rfl; have hcz15_7 : w14.cell? ⟨gb204, 7, none⟩ = some (.slice A0_7 l0_7.length c0_7) := (blk_cell BK204.out 7).trans rfl; have hcz15_8 : w14.cell? ⟨gb204, 8, none⟩ = some (.int .i64 a0_8) := (blk_cell BK204.out 8).trans rfl; have hcz15_9 : w14.cell? ⟨gb204, 9, none⟩ = some (.int .i64 a0_9) := (blk_cell BK204.out 9).trans rfl; have hfz15_0 := blk_frozen BK204.out 0; have hfz15_1 := blk_frozen BK204.out 1; have hfz15_2 := blk_frozen BK204.out 2; have hfz15_3 := blk_frozen BK204.out 3; have hfz15_4 := blk_frozen BK204.out 4; have hfz15_5 := blk_frozen BK204.out 5; have hfz15_6 := blk_frozen BK204.out 6; have hfz15_7 := blk_frozen BK204.out 7; have hfz15_8 := blk_frozen BK204.out 8; have hfz15_9 := blk_frozen BK204.out 9))
          go_ret
          exact ⟨by first | rfl | (simp [errW_none, errW_some] <;> rfl) | (simp [*, errW_none, errW_some] <;> rfl), by repeat (first | (with_reducible first | exact HB.out | apply below_alloc | apply pw_below_drewN | apply below_drew1 | refine below_set ?_ GE204.out) | exact HB.out)⟩
        ·
         rw [if_neg c10] at H
         have c10b0 : (a0_9 == 0) = false := beq_eq_false_iff_ne.mpr c10
         have c10b1 : (a0_9 != 0) = true := bne_iff_ne.mpr c10
         obtain rfl := Option.some.inj H
         go_enter Try.func59, Try.ntmps59
         go_wp2_with (first | ((with_reducible refine gate_dst (N := 2) rfl ?_); (try (refine gate_guard (by rfl) ?_; dsimp only)); refine box_event ?hg (N := 2) ?hd (cs := #[.int .i64 a0_0, .string a0_1, .string a0_2, .int .i64 a0_3, .int .i64 a0_4, .int .i64 a0_5, .slice A0_6 l0_6.length c0_6, .slice A0_7 l0_7.length c0_7, .int .i64 a0_8, .int .i64 a0_9]) (t := 40) ?hr ?_; (case hd => rfl); (case hg => rfl); (case hr => first | (go_simp; done) | (go_simp; rfl)); intro gb204 hg w16 hbox hb; have n0_ := Aside0.mk (below_step (by repeat (first | (with_reducible first | exact HB.out | apply below_alloc | apply pw_below_drewN | apply below_drew1) | exact HB.out)) hb); have n1_ := Aside0.mk (hbox); have n2_ := Aside0.mk ((by rw [hg]; exact (below_size (by repeat (first | (with_reducible first | exact HB.out | apply below_alloc | apply pw_below_drewN | apply below_drew1) | exact HB.out))) : w.heap.size ≤ gb204)); have n3_ := Aside0.mk ((by rw [hg]; exact (below_size (by repeat (first | (with_reducible first | exact HB.out | apply below_alloc | apply pw_below_drewN | apply below_drew1) | exact HB.out))) : w.heap.size ≤ gb204)); clear HB; have HB := n0_; have BK204 := n1_; have GW204 := n2_; have GE204 := n3_; clear n0_ n1_ n2_ n3_; clear hb hbox hg; have hcz17_0 : w16.cell? ⟨gb204, 0, none⟩ = some (.int .i64 a0_0) := (blk_cell BK204.out 0).trans rfl; have hcz17_1 : w16.cell? ⟨gb204, 1, none⟩ = some (.string a0_1) := (blk_cell BK204.out 1).trans rfl; have hcz17_2 : w16.cell? ⟨gb204, 2, none⟩ = some (.string a0_2) := (blk_cell BK204.out 2).trans rfl; have hcz17_3 : w16.cell? ⟨gb204, 3, none⟩ = some (.int .i64 a0_3) := (blk_cell BK204.out 3).trans rfl; have hcz17_4 : w16.cell? ⟨gb204, 4, none⟩ = some (.int .i64 a0_4) := (blk_cell BK204.out 4).trans rfl; have hcz17_5 : w16.cell? ⟨gb204, 5, none⟩ = some (.int .i64 a0_5) := (blk_cell BK204.out 5).trans rfl; have hcz17_6 : w16.cell? ⟨gb204, 6, none⟩ = some (.slice A0_6 l0_6.length c0_6) := (blk_cell BK204.out 6).trans rfl; have hcz17_7 : w16.cell? ⟨gb204, 7, none⟩ = some (.slice A0_7 l0_7.length c0_7) := (blk_cell BK204.out 7).trans rfl; have hcz17_8 : w16.cell? ⟨gb204, 8, none⟩ = some (.int .i64 a0_8) := (blk_cell BK204.out 8).trans rfl; have hcz17_9 : w16.cell? ⟨gb204, 9, none⟩ = some (.int .i64 a0_9) := (blk_cell BK204.out 9).trans rfl; have hfz17_0 := blk_frozen BK204.out 0; have hfz17_1 := blk_frozen BK204.out 1; have hfz17_2 := blk_frozen BK204.out 2; have hfz17_3 := blk_frozen BK204.out 3; have hfz17_4 := blk_frozen BK204.out 4; have hfz17_5 := blk_frozen BK204.out 5; have hfz17_6 := blk_frozen BK204.out 6; have hfz17_7 := blk_frozen BK204.out 7; have hfz17_8 := blk_frozen BK204.out 8; have hfz17_9 := blk_frozen BK204.out 9))
         go_ret
         exact ⟨by first | rfl | (simp [errW_none, errW_some] <;> rfl) | (simp [*, errW_none, errW_some] <;> rfl), by repeat (first | (with_reducible first | exact HB.out | apply below_alloc | apply pw_below_drewN | apply below_drew1 | refine below_set ?_ GE204.out) | exact HB.out)⟩
       ·
        rw [if_neg c9] at H
        have c9b0 : (a0_8 == 0) = false := beq_eq_false_iff_ne.mpr c9
        have c9b1 : (a0_8 != 0) = true := bne_iff_ne.mpr c9
        obtain rfl := Option.some.inj H
        go_enter Try.func59, Try.ntmps59
        go_wp2_with (first | ((with_reducible refine gate_dst (N := 2) rfl ?_); (try (refine gate_guard (by rfl) ?_; dsimp only)); refine box_event ?hg (N := 2) ?hd (cs := #[.int .i64 a0_0, .string a0_1, .string a0_2, .int .i64 a0_3, .int .i64 a0_4, .int .i64 a0_5, .slice A0_6 l0_6.length c0_6, .slice A0_7 l0_7.length c0_7, .int .i64 a0_8, .int .i64 a0_9]) (t := 40) ?hr ?_; (case hd => rfl); (case hg => rfl); (case hr => first | (go_simp; done) | (go_simp; rfl)); intro gb204 hg w18 hbox hb; have n0_ := Aside0.mk (below_step (by repeat (first | (with_reducible first | exact HB.out | apply below_alloc | apply pw_below_drewN | apply below_drew1) | exact HB.out)) hb); have n1_ := Aside0.mk (hbox); have n2_ := Aside0.mk ((by rw [hg]; exact (below_size (by repeat (first | (with_reducible first | exact HB.out | apply below_alloc | apply pw_below_drewN | apply below_drew1) | exact HB.out))) : w.heap.size ≤ gb204)); have n3_ := Aside0.mk ((by rw [hg]; exact (below_size (by repeat (first | (with_reducible first | exact HB.out | apply below_alloc | apply pw_below_drewN | apply below_drew1) | exact HB.out))) : w.heap.size ≤ gb204)); clear HB; have HB := n0_; have BK204 := n1_; have GW204 := n2_; have GE204 := n3_; clear n0_ n1_ n2_ n3_; clear hb hbox hg; have hcz19_0 : w18.cell? ⟨gb204, 0, none⟩ = some (.int .i64 a0_0) := (blk_cell BK204.out 0).trans rfl; have hcz19_1 : w18.cell? ⟨gb204, 1, none⟩ = some (.string a0_1) := (blk_cell BK204.out 1).trans rfl; have hcz19_2 : w18.cell? ⟨gb204, 2, none⟩ = some (.string a0_2) := (blk_cell BK204.out 2).trans rfl; have hcz19_3 : w18.cell? ⟨gb204, 3, none⟩ = some (.int .i64 a0_3) := (blk_cell BK204.out 3).trans rfl; have hcz19_4 : w18.cell? ⟨gb204, 4, none⟩ = some (.int .i64 a0_4) := (blk_cell BK204.out 4).trans rfl; have hcz19_5 : w18.cell? ⟨gb204, 5, none⟩ = some (.int .i64 a0_5) := (blk_cell BK204.out 5).trans rfl; have hcz19_6 : w18.cell? ⟨gb204, 6, none⟩ = some (.slice A0_6 l0_6.length c0_6) := (blk_cell BK204.out 6).trans rfl; have hcz19_7 : w18.cell? ⟨gb204, 7, none⟩ = some (.slice A0_7 l0_7.length c0_7) := (blk_cell BK204.out 7).trans rfl; have hcz19_8 : w18.cell? ⟨gb204, 8, none⟩ = some (.int .i64 a0_8) := (blk_cell BK204.out 8).trans rfl; have hcz19_9 : w18.cell? ⟨gb204, 9, none⟩ = some (.int .i64 a0_9) := (blk_cell BK204.out 9).trans rfl; have hfz19_0 := blk_frozen BK204.out 0; have hfz19_1 := blk_frozen BK204.out 1; have hfz19_2 := blk_frozen BK204.out 2; have hfz19_3 := blk_frozen BK204.out 3; have hfz19_4 := blk_frozen BK204.out 4; have hfz19_5 := blk_frozen BK204.out 5; have hfz19_6 := blk_frozen BK204.out 6; have hfz19_7 := blk_frozen BK204.out 7; have hfz19_8 := blk_frozen BK204.out 8; have hfz19_9 := blk_frozen BK204.out 9))
        go_ret
        exact ⟨by first | rfl | (simp [errW_none, errW_some] <;> rfl) | (simp [*, errW_none, errW_some] <;> rfl), by repeat (first | (with_reducible first | exact HB.out | apply below_alloc | apply pw_below_drewN | apply below_drew1 | refine below_set ?_ GE204.out) | exact HB.out)⟩
      ·
       rw [if_neg c8] at H
       have c8b0 : (a0_5 == 0) = false := beq_eq_false_iff_ne.mpr c8
       have c8b1 : (a0_5 != 0) = true := bne_iff_ne.mpr c8
       obtain rfl := Option.some.inj H
       go_enter Try.func59, Try.ntmps59
       go_wp2_with (first | ((with_reducible refine gate_dst (N := 2) rfl ?_); (try (refine gate_guard (by rfl) ?_; dsimp only)); refine box_event ?hg (N := 2) ?hd (cs := #[.int .i64 a0_0, .string a0_1, .string a0_2, .int .i64 a0_3, .int .i64 a0_4, .int .i64 a0_5, .slice A0_6 l0_6.length c0_6, .slice A0_7 l0_7.length c0_7, .int .i64 a0_8, .int .i64 a0_9]) (t := 40) ?hr ?_; (case hd => rfl); (case hg => rfl); (case hr => first | (go_simp; done) | (go_simp; rfl)); intro gb204 hg w20 hbox hb; have n0_ := Aside0.mk (below_step (by repeat (first | (with_reducible first | exact HB.out | apply below_alloc | apply pw_below_drewN | apply below_drew1) | exact HB.out)) hb); have n1_ := Aside0.mk (hbox); have n2_ := Aside0.mk ((by rw [hg]; exact (below_size (by repeat (first | (with_reducible first | exact HB.out | apply below_alloc | apply pw_below_drewN | apply below_drew1) | exact HB.out))) : w.heap.size ≤ gb204)); have n3_ := Aside0.mk ((by rw [hg]; exact (below_size (by repeat (first | (with_reducible first | exact HB.out | apply below_alloc | apply pw_below_drewN | apply below_drew1) | exact HB.out))) : w.heap.size ≤ gb204)); clear HB; have HB := n0_; have BK204 := n1_; have GW204 := n2_; have GE204 := n3_; clear n0_ n1_ n2_ n3_; clear hb hbox hg; have hcz21_0 : w20.cell? ⟨gb204, 0, none⟩ = some (.int .i64 a0_0) := (blk_cell BK204.out 0).trans rfl; have hcz21_1 : w20.cell? ⟨gb204, 1, none⟩ = some (.string a0_1) := (blk_cell BK204.out 1).trans rfl; have hcz21_2 : w20.cell? ⟨gb204, 2, none⟩ = some (.string a0_2) := (blk_cell BK204.out 2).trans rfl; have hcz21_3 : w20.cell? ⟨gb204, 3, none⟩ = some (.int .i64 a0_3) := (blk_cell BK204.out 3).trans rfl; have hcz21_4 : w20.cell? ⟨gb204, 4, none⟩ = some (.int .i64 a0_4) := (blk_cell BK204.out 4).trans rfl; have hcz21_5 : w20.cell? ⟨gb204, 5, none⟩ = some (.int .i64 a0_5) := (blk_cell BK204.out 5).trans rfl; have hcz21_6 : w20.cell? ⟨gb204, 6, none⟩ = some (.slice A0_6 l0_6.length c0_6) := (blk_cell BK204.out 6).trans rfl; have hcz21_7 : w20.cell? ⟨gb204, 7, none⟩ = some (.slice A0_7 l0_7.length c0_7) := (blk_cell BK204.out 7).trans rfl; have hcz21_8 : w20.cell? ⟨gb204, 8, none⟩ = some (.int .i64 a0_8) := (blk_cell BK204.out 8).trans rfl; have hcz21_9 : w20.cell? ⟨gb204, 9, none⟩ = some (.int .i64 a0_9) := (blk_cell BK204.out 9).trans rfl; have hfz21_0 := blk_frozen BK204.out 0; have hfz21_1 := blk_frozen BK204.out 1; have hfz21_2 := blk_frozen BK204.out 2; have hfz21_3 := blk_frozen BK204.out 3; have hfz21_4 := blk_frozen BK204.out 4; have hfz21_5 := blk_frozen BK204.out 5; have hfz21_6 := blk_frozen BK204.out 6; have hfz21_7 := blk_frozen BK204.out 7; have hfz21_8 := blk_frozen BK204.out 8; have hfz21_9 := blk_frozen BK204.out 9))
       go_ret
       exact ⟨by first | rfl | (simp [errW_none, errW_some] <;> rfl) | (simp [*, errW_none, errW_some] <;> rfl), by repeat (first | (with_reducible first | exact HB.out | apply below_alloc | apply pw_below_drewN | apply below_drew1 | refine below_set ?_ GE204.out) | exact HB.out)⟩
     ·
      rw [if_neg c7] at H
      have c7b0 : (a0_4 == 0) = false := beq_eq_false_iff_ne.mpr c7
      have c7b1 : (a0_4 != 0) = true := bne_iff_ne.mpr c7
      obtain rfl := Option.some.inj H
      go_enter Try.func59, Try.ntmps59
      go_wp2_with (first | ((with_reducible refine gate_dst (N := 2) rfl ?_); (try (refine gate_guard (by rfl) ?_; dsimp only)); refine box_event ?hg (N := 2) ?hd (cs := #[.int .i64 a0_0, .string a0_1, .string a0_2, .int .i64 a0_3, .int .i64 a0_4, .int .i64 a0_5, .slice A0_6 l0_6.length c0_6, .slice A0_7 l0_7.length c0_7, .int .i64 a0_8, .int .i64 a0_9]) (t := 40) ?hr ?_; (case hd => rfl); (case hg => rfl); (case hr => first | (go_simp; done) | (go_simp; rfl)); intro gb204 hg w22 hbox hb; have n0_ := Aside0.mk (below_step (by repeat (first | (with_reducible first | exact HB.out | apply below_alloc | apply pw_below_drewN | apply below_drew1) | exact HB.out)) hb); have n1_ := Aside0.mk (hbox); have n2_ := Aside0.mk ((by rw [hg]; exact (below_size (by repeat (first | (with_reducible first | exact HB.out | apply below_alloc | apply pw_below_drewN | apply below_drew1) | exact HB.out))) : w.heap.size ≤ gb204)); have n3_ := Aside0.mk ((by rw [hg]; exact (below_size (by repeat (first | (with_reducible first | exact HB.out | apply below_alloc | apply pw_below_drewN | apply below_drew1) | exact HB.out))) : w.heap.size ≤ gb204)); clear HB; have HB := n0_; have BK204 := n1_; have GW204 := n2_; have GE204 := n3_; clear n0_ n1_ n2_ n3_; clear hb hbox hg; have hcz23_0 : w22.cell? ⟨gb204, 0, none⟩ = some (.int .i64 a0_0) := (blk_cell BK204.out 0).trans rfl; have hcz23_1 : w22.cell? ⟨gb204, 1, none⟩ = some (.string a0_1) := (blk_cell BK204.out 1).trans rfl; have hcz23_2 : w22.cell? ⟨gb204, 2, none⟩ = some (.string a0_2) := (blk_cell BK204.out 2).trans rfl; have hcz23_3 : w22.cell? ⟨gb204, 3, none⟩ = some (.int .i64 a0_3) := (blk_cell BK204.out 3).trans rfl; have hcz23_4 : w22.cell? ⟨gb204, 4, none⟩ = some (.int .i64 a0_4) := (blk_cell BK204.out 4).trans rfl; have hcz23_5 : w22.cell? ⟨gb204, 5, none⟩ = some (.int .i64 a0_5) := (blk_cell BK204.out 5).trans rfl; have hcz23_6 : w22.cell? ⟨gb204, 6, none⟩ = some (.slice A0_6 l0_6.length c0_6) := (blk_cell BK204.out 6).trans rfl; have hcz23_7 : w22.cell? ⟨gb204, 7, none⟩ = some (.slice A0_7 l0_7.length c0_7) := (blk_cell BK204.out 7).trans rfl; have hcz23_8 : w22.cell? ⟨gb204, 8, none⟩ = some (.int .i64 a0_8) := (blk_cell BK204.out 8).trans rfl; have hcz23_9 : w22.cell? ⟨gb204, 9, none⟩ = some (.int .i64 a0_9) := (blk_cell BK204.out 9).trans rfl; have hfz23_0 := blk_frozen BK204.out 0; have hfz23_1 := blk_frozen BK204.out 1; have hfz23_2 := blk_frozen BK204.out 2; have hfz23_3 := blk_frozen BK204.out 3; have hfz23_4 := blk_frozen BK204.out 4; have hfz23_5 := blk_frozen BK204.out 5; have hfz23_6 := blk_frozen BK204.out 6; have hfz23_7 := blk_frozen BK204.out 7; have hfz23_8 := blk_frozen BK204.out 8; have hfz23_9 := blk_frozen BK204.out 9))
      go_ret
      exact ⟨by first | rfl | (simp [errW_none, errW_some] <;> rfl) | (simp [*, errW_none, errW_some] <;> rfl), by repeat (first | (with_reducible first | exact HB.out | apply below_alloc | apply pw_below_drewN | apply below_drew1 | refine below_set ?_ GE204.out) | exact HB.out)⟩
    ·
     rw [if_neg c6] at H
     have c6b0 : (a0_3 == 0) = false := beq_eq_false_iff_ne.mpr c6
     have c6b1 : (a0_3 != 0) = true := bne_iff_ne.mpr c6
     obtain rfl := Option.some.inj H
     go_enter Try.func59, Try.ntmps59
     go_wp2_with (first | ((with_reducible refine gate_dst (N := 2) rfl ?_); (try (refine gate_guard (by rfl) ?_; dsimp only)); refine box_event ?hg (N := 2) ?hd (cs := #[.int .i64 a0_0, .string a0_1, .string a0_2, .int .i64 a0_3, .int .i64 a0_4, .int .i64 a0_5, .slice A0_6 l0_6.length c0_6, .slice A0_7 l0_7.length c0_7, .int .i64 a0_8, .int .i64 a0_9]) (t := 40) ?hr ?_; (case hd => rfl); (case hg => rfl); (case hr => first | (go_simp; done) | (go_simp; rfl)); intro gb204 hg w24 hbox hb; have n0_ := Aside0.mk (below_step (by repeat (first | (with_reducible first | exact HB.out | apply below_alloc | apply pw_below_drewN | apply below_drew1) | exact HB.out)) hb); have n1_ := Aside0.mk (hbox); have n2_ := Aside0.mk ((by rw [hg]; exact (below_size (by repeat (first | (with_reducible first | exact HB.out | apply below_alloc | apply pw_below_drewN | apply below_drew1) | exact HB.out))) : w.heap.size ≤ gb204)); have n3_ := Aside0.mk ((by rw [hg]; exact (below_size (by repeat (first | (with_reducible first | exact HB.out | apply below_alloc | apply pw_below_drewN | apply below_drew1) | exact HB.out))) : w.heap.size ≤ gb204)); clear HB; have HB := n0_; have BK204 := n1_; have GW204 := n2_; have GE204 := n3_; clear n0_ n1_ n2_ n3_; clear hb hbox hg; have hcz25_0 : w24.cell? ⟨gb204, 0, none⟩ = some (.int .i64 a0_0) := (blk_cell BK204.out 0).trans rfl; have hcz25_1 : w24.cell? ⟨gb204, 1, none⟩ = some (.string a0_1) := (blk_cell BK204.out 1).trans rfl; have hcz25_2 : w24.cell? ⟨gb204, 2, none⟩ = some (.string a0_2) := (blk_cell BK204.out 2).trans rfl; have hcz25_3 : w24.cell? ⟨gb204, 3, none⟩ = some (.int .i64 a0_3) := (blk_cell BK204.out 3).trans rfl; have hcz25_4 : w24.cell? ⟨gb204, 4, none⟩ = some (.int .i64 a0_4) := (blk_cell BK204.out 4).trans rfl; have hcz25_5 : w24.cell? ⟨gb204, 5, none⟩ = some (.int .i64 a0_5) := (blk_cell BK204.out 5).trans rfl; have hcz25_6 : w24.cell? ⟨gb204, 6, none⟩ = some (.slice A0_6 l0_6.length c0_6) := (blk_cell BK204.out 6).trans rfl; have hcz25_7 : w24.cell? ⟨gb204, 7, none⟩ = some (.slice A0_7 l0_7.length c0_7) := (blk_cell BK204.out 7).trans rfl; have hcz25_8 : w24.cell? ⟨gb204, 8, none⟩ = some (.int .i64 a0_8) := (blk_cell BK204.out 8).trans rfl; have hcz25_9 : w24.cell? ⟨gb204, 9, none⟩ = some (.int .i64 a0_9) := (blk_cell BK204.out 9).trans rfl; have hfz25_0 := blk_frozen BK204.out 0; have hfz25_1 := blk_frozen BK204.out 1; have hfz25_2 := blk_frozen BK204.out 2; have hfz25_3 := blk_frozen BK204.out 3; have hfz25_4 := blk_frozen BK204.out 4; have hfz25_5 := blk_frozen BK204.out 5; have hfz25_6 := blk_frozen BK204.out 6; have hfz25_7 := blk_frozen BK204.out 7; have hfz25_8 := blk_frozen BK204.out 8; have hfz25_9 := blk_frozen BK204.out 9))
     go_ret
     exact ⟨by first | rfl | (simp [errW_none, errW_some] <;> rfl) | (simp [*, errW_none, errW_some] <;> rfl), by repeat (first | (with_reducible first | exact HB.out | apply below_alloc | apply pw_below_drewN | apply below_drew1 | refine below_set ?_ GE204.out) | exact HB.out)⟩
   ·
    rw [if_neg c5] at H
    have c5b0 : (a0_2.toList == ([] : List UInt8)) = false := beq_eq_false_iff_ne.mpr c5
    have c5b1 : (a0_2.toList != ([] : List UInt8)) = true := bne_iff_ne.mpr c5
    obtain rfl := Option.some.inj H
    go_enter Try.func59, Try.ntmps59
    go_wp2_with (first | ((with_reducible refine gate_dst (N := 2) rfl ?_); (try (refine gate_guard (by rfl) ?_; dsimp only)); refine box_event ?hg (N := 2) ?hd (cs := #[.int .i64 a0_0, .string a0_1, .string a0_2, .int .i64 a0_3, .int .i64 a0_4, .int .i64 a0_5, .slice A0_6 l0_6.length c0_6, .slice A0_7 l0_7.length c0_7, .int .i64 a0_8, .int .i64 a0_9]) (t := 40) ?hr ?_; (case hd => rfl); (case hg => rfl); (case hr => first | (go_simp; done) | (go_simp; rfl)); intro gb204 hg w26 hbox hb; have n0_ := Aside0.mk (below_step (by repeat (first | (with_reducible first | exact HB.out | apply below_alloc | apply pw_below_drewN | apply below_drew1) | exact HB.out)) hb); have n1_ := Aside0.mk (hbox); have n2_ := Aside0.mk ((by rw [hg]; exact (below_size (by repeat (first | (with_reducible first | exact HB.out | apply below_alloc | apply pw_below_drewN | apply below_drew1) | exact HB.out))) : w.heap.size ≤ gb204)); have n3_ := Aside0.mk ((by rw [hg]; exact (below_size (by repeat (first | (with_reducible first | exact HB.out | apply below_alloc | apply pw_below_drewN | apply below_drew1) | exact HB.out))) : w.heap.size ≤ gb204)); clear HB; have HB := n0_; have BK204 := n1_; have GW204 := n2_; have GE204 := n3_; clear n0_ n1_ n2_ n3_; clear hb hbox hg; have hcz27_0 : w26.cell? ⟨gb204, 0, none⟩ = some (.int .i64 a0_0) := (blk_cell BK204.out 0).trans rfl; have hcz27_1 : w26.cell? ⟨gb204, 1, none⟩ = some (.string a0_1) := (blk_cell BK204.out 1).trans rfl; have hcz27_2 : w26.cell? ⟨gb204, 2, none⟩ = some (.string a0_2) := (blk_cell BK204.out 2).trans rfl; have hcz27_3 : w26.cell? ⟨gb204, 3, none⟩ = some (.int .i64 a0_3) := (blk_cell BK204.out 3).trans rfl; have hcz27_4 : w26.cell? ⟨gb204, 4, none⟩ = some (.int .i64 a0_4) := (blk_cell BK204.out 4).trans rfl; have hcz27_5 : w26.cell? ⟨gb204, 5, none⟩ = some (.int .i64 a0_5) := (blk_cell BK204.out 5).trans rfl; have hcz27_6 : w26.cell? ⟨gb204, 6, none⟩ = some (.slice A0_6 l0_6.length c0_6) := (blk_cell BK204.out 6).trans rfl; have hcz27_7 : w26.cell? ⟨gb204, 7, none⟩ = some (.slice A0_7 l0_7.length c0_7) := (blk_cell BK204.out 7).trans rfl; have hcz27_8 : w26.cell? ⟨gb204, 8, none⟩ = some (.int .i64 a0_8) := (blk_cell BK204.out 8).trans rfl; have hcz27_9 : w26.cell? ⟨gb204, 9, none⟩ = some (.int .i64 a0_9) := (blk_cell BK204.out 9).trans rfl; have hfz27_0 := blk_frozen BK204.out 0; have hfz27_1 := blk_frozen BK204.out 1; have hfz27_2 := blk_frozen BK204.out 2; have hfz27_3 := blk_frozen BK204.out 3; have hfz27_4 := blk_frozen BK204.out 4; have hfz27_5 := blk_frozen BK204.out 5; have hfz27_6 := blk_frozen BK204.out 6; have hfz27_7 := blk_frozen BK204.out 7; have hfz27_8 := blk_frozen BK204.out 8; have hfz27_9 := blk_frozen BK204.out 9))
    go_ret
    exact ⟨by first | rfl | (simp [errW_none, errW_some] <;> rfl) | (simp [*, errW_none, errW_some] <;> rfl), by repeat (first | (with_reducible first | exact HB.out | apply below_alloc | apply pw_below_drewN | apply below_drew1 | refine below_set ?_ GE204.out) | exact HB.out)⟩
  ·
   rw [if_neg c4] at H
   have c4b0 : (a0_1.toList == ([] : List UInt8)) = false := beq_eq_false_iff_ne.mpr c4
   have c4b1 : (a0_1.toList != ([] : List UInt8)) = true := bne_iff_ne.mpr c4
   obtain rfl := Option.some.inj H
   go_enter Try.func59, Try.ntmps59
   go_wp2_with (first | ((with_reducible refine gate_dst (N := 2) rfl ?_); (try (refine gate_guard (by rfl) ?_; dsimp only)); refine box_event ?hg (N := 2) ?hd (cs := #[.int .i64 a0_0, .string a0_1, .string a0_2, .int .i64 a0_3, .int .i64 a0_4, .int .i64 a0_5, .slice A0_6 l0_6.length c0_6, .slice A0_7 l0_7.length c0_7, .int .i64 a0_8, .int .i64 a0_9]) (t := 40) ?hr ?_; (case hd => rfl); (case hg => rfl); (case hr => first | (go_simp; done) | (go_simp; rfl)); intro gb204 hg w28 hbox hb; have n0_ := Aside0.mk (below_step (by repeat (first | (with_reducible first | exact HB.out | apply below_alloc | apply pw_below_drewN | apply below_drew1) | exact HB.out)) hb); have n1_ := Aside0.mk (hbox); have n2_ := Aside0.mk ((by rw [hg]; exact (below_size (by repeat (first | (with_reducible first | exact HB.out | apply below_alloc | apply pw_below_drewN | apply below_drew1) | exact HB.out))) : w.heap.size ≤ gb204)); have n3_ := Aside0.mk ((by rw [hg]; exact (below_size (by repeat (first | (with_reducible first | exact HB.out | apply below_alloc | apply pw_below_drewN | apply below_drew1) | exact HB.out))) : w.heap.size ≤ gb204)); clear HB; have HB := n0_; have BK204 := n1_; have GW204 := n2_; have GE204 := n3_; clear n0_ n1_ n2_ n3_; clear hb hbox hg; have hcz29_0 : w28.cell? ⟨gb204, 0, none⟩ = some (.int .i64 a0_0) := (blk_cell BK204.out 0).trans rfl; have hcz29_1 : w28.cell? ⟨gb204, 1, none⟩ = some (.string a0_1) := (blk_cell BK204.out 1).trans rfl; have hcz29_2 : w28.cell? ⟨gb204, 2, none⟩ = some (.string a0_2) := (blk_cell BK204.out 2).trans rfl; have hcz29_3 : w28.cell? ⟨gb204, 3, none⟩ = some (.int .i64 a0_3) := (blk_cell BK204.out 3).trans rfl; have hcz29_4 : w28.cell? ⟨gb204, 4, none⟩ = some (.int .i64 a0_4) := (blk_cell BK204.out 4).trans rfl; have hcz29_5 : w28.cell? ⟨gb204, 5, none⟩ = some (.int .i64 a0_5) := (blk_cell BK204.out 5).trans rfl; have hcz29_6 : w28.cell? ⟨gb204, 6, none⟩ = some (.slice A0_6 l0_6.length c0_6) := (blk_cell BK204.out 6).trans rfl; have hcz29_7 : w28.cell? ⟨gb204, 7, none⟩ = some (.slice A0_7 l0_7.length c0_7) := (blk_cell BK204.out 7).trans rfl; have hcz29_8 : w28.cell? ⟨gb204, 8, none⟩ = some (.int .i64 a0_8) := (blk_cell BK204.out 8).trans rfl; have hcz29_9 : w28.cell? ⟨gb204, 9, none⟩ = some (.int .i64 a0_9) := (blk_cell BK204.out 9).trans rfl; have hfz29_0 := blk_frozen BK204.out 0; have hfz29_1 := blk_frozen BK204.out 1; have hfz29_2 := blk_frozen BK204.out 2; have hfz29_3 := blk_frozen BK204.out 3; have hfz29_4 := blk_frozen BK204.out 4; have hfz29_5 := blk_frozen BK204.out 5; have hfz29_6 := blk_frozen BK204.out 6; have hfz29_7 := blk_frozen BK204.out 7; have hfz29_8 := blk_frozen BK204.out 8; have hfz29_9 := blk_frozen BK204.out 9))
   go_ret
   exact ⟨by first | rfl | (simp [errW_none, errW_some] <;> rfl) | (simp [*, errW_none, errW_some] <;> rfl), by repeat (first | (with_reducible first | exact HB.out | apply below_alloc | apply pw_below_drewN | apply below_drew1 | refine below_set ?_ GE204.out) | exact HB.out)⟩
 ·
  rw [if_neg c3] at H
  have c3b0 : (a0_0 == a1) = false := beq_eq_false_iff_ne.mpr c3
  have c3b1 : (a0_0 != a1) = true := bne_iff_ne.mpr c3
  obtain rfl := Option.some.inj H
  go_enter Try.func59, Try.ntmps59
  go_wp2_with (first | ((with_reducible refine gate_dst (N := 2) rfl ?_); (try (refine gate_guard (by rfl) ?_; dsimp only)); refine box_event ?hg (N := 2) ?hd (cs := #[.int .i64 a0_0, .string a0_1, .string a0_2, .int .i64 a0_3, .int .i64 a0_4, .int .i64 a0_5, .slice A0_6 l0_6.length c0_6, .slice A0_7 l0_7.length c0_7, .int .i64 a0_8, .int .i64 a0_9]) (t := 40) ?hr ?_; (case hd => rfl); (case hg => rfl); (case hr => first | (go_simp; done) | (go_simp; rfl)); intro gb204 hg w30 hbox hb; have n0_ := Aside0.mk (below_step (by repeat (first | (with_reducible first | exact HB.out | apply below_alloc | apply pw_below_drewN | apply below_drew1) | exact HB.out)) hb); have n1_ := Aside0.mk (hbox); have n2_ := Aside0.mk ((by rw [hg]; exact (below_size (by repeat (first | (with_reducible first | exact HB.out | apply below_alloc | apply pw_below_drewN | apply below_drew1) | exact HB.out))) : w.heap.size ≤ gb204)); have n3_ := Aside0.mk ((by rw [hg]; exact (below_size (by repeat (first | (with_reducible first | exact HB.out | apply below_alloc | apply pw_below_drewN | apply below_drew1) | exact HB.out))) : w.heap.size ≤ gb204)); clear HB; have HB := n0_; have BK204 := n1_; have GW204 := n2_; have GE204 := n3_; clear n0_ n1_ n2_ n3_; clear hb hbox hg; have hcz31_0 : w30.cell? ⟨gb204, 0, none⟩ = some (.int .i64 a0_0) := (blk_cell BK204.out 0).trans rfl; have hcz31_1 : w30.cell? ⟨gb204, 1, none⟩ = some (.string a0_1) := (blk_cell BK204.out 1).trans rfl; have hcz31_2 : w30.cell? ⟨gb204, 2, none⟩ = some (.string a0_2) := (blk_cell BK204.out 2).trans rfl; have hcz31_3 : w30.cell? ⟨gb204, 3, none⟩ = some (.int .i64 a0_3) := (blk_cell BK204.out 3).trans rfl; have hcz31_4 : w30.cell? ⟨gb204, 4, none⟩ = some (.int .i64 a0_4) := (blk_cell BK204.out 4).trans rfl; have hcz31_5 : w30.cell? ⟨gb204, 5, none⟩ = some (.int .i64 a0_5) := (blk_cell BK204.out 5).trans rfl; have hcz31_6 : w30.cell? ⟨gb204, 6, none⟩ = some (.slice A0_6 l0_6.length c0_6) := (blk_cell BK204.out 6).trans rfl; have hcz31_7 : w30.cell? ⟨gb204, 7, none⟩ = some (.slice A0_7 l0_7.length c0_7) := (blk_cell BK204.out 7).trans rfl; have hcz31_8 : w30.cell? ⟨gb204, 8, none⟩ = some (.int .i64 a0_8) := (blk_cell BK204.out 8).trans rfl; have hcz31_9 : w30.cell? ⟨gb204, 9, none⟩ = some (.int .i64 a0_9) := (blk_cell BK204.out 9).trans rfl; have hfz31_0 := blk_frozen BK204.out 0; have hfz31_1 := blk_frozen BK204.out 1; have hfz31_2 := blk_frozen BK204.out 2; have hfz31_3 := blk_frozen BK204.out 3; have hfz31_4 := blk_frozen BK204.out 4; have hfz31_5 := blk_frozen BK204.out 5; have hfz31_6 := blk_frozen BK204.out 6; have hfz31_7 := blk_frozen BK204.out 7; have hfz31_8 := blk_frozen BK204.out 8; have hfz31_9 := blk_frozen BK204.out 9))
  go_ret
  exact ⟨by first | rfl | (simp [errW_none, errW_some] <;> rfl) | (simp [*, errW_none, errW_some] <;> rfl), by repeat (first | (with_reducible first | exact HB.out | apply below_alloc | apply pw_below_drewN | apply below_drew1 | refine below_set ?_ GE204.out) | exact HB.out)⟩
def tables_part.f (a0 : Int) : Option (Bool) := if a0 ≥ 1 then (if a0 ≤ 4 then (some true) else (if a0 = 7 then (some true) else (if a0 ≥ 9 then (some (decide (a0 ≤ 11))) else (some false)))) else (if a0 = 7 then (some true) else (if a0 ≥ 9 then (some (decide (a0 ≤ 11))) else (some false)))
set_option maxHeartbeats 8000000 in
set_option maxRecDepth 100000 in
theorem tables_part.calls (a0 : Int) (r : Bool) (w : World) (h : tables_part.f a0 = some r) :
 Calls Try.prog 70 #[.int .i64 a0] w fun e w' => e = .returned (.bool r) ∧ Drawn0 w w' := by
 have H : (if a0 ≥ 1 then (if a0 ≤ 4 then (some true) else (if a0 = 7 then (some true) else (if a0 ≥ 9 then (some (decide (a0 ≤ 11))) else (some false)))) else (if a0 = 7 then (some true) else (if a0 ≥ 9 then (some (decide (a0 ≤ 11))) else (some false)))) = some r := h
 clear h
 by_cases c2 : a0 ≥ 1
 ·
  rw [if_pos c2] at H
  have c2b0 : decide (1 ≤ a0) = true := decide_eq_true c2
  clear c2
  by_cases c3 : a0 ≤ 4
  ·
   rw [if_pos c3] at H
   have c3b0 : decide (a0 ≤ 4) = true := decide_eq_true c3
   clear c3
   obtain rfl := Option.some.inj H
   go_enter Try.func70, Try.ntmps70
   go_wp2
   go_ret
   exact ⟨by first | rfl | (simp; done) | (simp [*]; done), by repeat (first | exact Drawn0.refl _ | apply Drawn0.step)⟩
  ·
   rw [if_neg c3] at H
   have c3b0 : decide (a0 ≤ 4) = false := decide_eq_false c3
   clear c3
   by_cases c4 : a0 = 7
   ·
    rw [if_pos c4] at H
    have c4b0 : (a0 == 7) = true := beq_iff_eq.mpr c4
    have c4b1 : (a0 != 7) = false := bne_eq_false_iff_eq.mpr c4
    clear c4
    obtain rfl := Option.some.inj H
    go_enter Try.func70, Try.ntmps70
    go_wp2
    go_ret
    exact ⟨by first | rfl | (simp; done) | (simp [*]; done), by repeat (first | exact Drawn0.refl _ | apply Drawn0.step)⟩
   ·
    rw [if_neg c4] at H
    have c4b0 : (a0 == 7) = false := beq_eq_false_iff_ne.mpr c4
    have c4b1 : (a0 != 7) = true := bne_iff_ne.mpr c4
    by_cases c5 : a0 ≥ 9
    ·
     rw [if_pos c5] at H
     have c5b0 : decide (9 ≤ a0) = true := decide_eq_true c5
     clear c5
     obtain rfl := Option.some.inj H
     go_enter Try.func70, Try.ntmps70
     go_wp2
     go_ret
     exact ⟨by first | rfl | (simp; done) | (simp [*]; done), by repeat (first | exact Drawn0.refl _ | apply Drawn0.step)⟩
    ·
     rw [if_neg c5] at H
     have c5b0 : decide (9 ≤ a0) = false := decide_eq_false c5
     clear c5
     obtain rfl := Option.some.inj H
     go_enter Try.func70, Try.ntmps70
     go_wp2
     go_ret
     exact ⟨by first | rfl | (simp; done) | (simp [*]; done), by repeat (first | exact Drawn0.refl _ | apply Drawn0.step)⟩
 ·
  rw [if_neg c2] at H
  have c2b0 : decide (1 ≤ a0) = false := decide_eq_false c2
  clear c2
  by_cases c6 : a0 = 7
  ·
   rw [if_pos c6] at H
   have c6b0 : (a0 == 7) = true := beq_iff_eq.mpr c6
   have c6b1 : (a0 != 7) = false := bne_eq_false_iff_eq.mpr c6
   clear c6
   obtain rfl := Option.some.inj H
   go_enter Try.func70, Try.ntmps70
   go_wp2
   go_ret
   exact ⟨by first | rfl | (simp; done) | (simp [*]; done), by repeat (first | exact Drawn0.refl _ | apply Drawn0.step)⟩
  ·
   rw [if_neg c6] at H
   have c6b0 : (a0 == 7) = false := beq_eq_false_iff_ne.mpr c6
   have c6b1 : (a0 != 7) = true := bne_iff_ne.mpr c6
   by_cases c7 : a0 ≥ 9
   ·
    rw [if_pos c7] at H
    have c7b0 : decide (9 ≤ a0) = true := decide_eq_true c7
    clear c7
    obtain rfl := Option.some.inj H
    go_enter Try.func70, Try.ntmps70
    go_wp2
    go_ret
    exact ⟨by first | rfl | (simp; done) | (simp [*]; done), by repeat (first | exact Drawn0.refl _ | apply Drawn0.step)⟩
   ·
    rw [if_neg c7] at H
    have c7b0 : decide (9 ≤ a0) = false := decide_eq_false c7
    clear c7
    obtain rfl := Option.some.inj H
    go_enter Try.func70, Try.ntmps70
    go_wp2
    go_ret
    exact ⟨by first | rfl | (simp; done) | (simp [*]; done), by repeat (first | exact Drawn0.refl _ | apply Drawn0.step)⟩
def tables_plain.f (a0 : Int) : Option (Bool) := if a0 ≥ 1 then (if a0 ≤ 4 then (some true) else (if a0 = 10 then (some true) else (some (a0 == 11)))) else (if a0 = 10 then (some true) else (some (a0 == 11)))
set_option maxHeartbeats 8000000 in
set_option maxRecDepth 100000 in
theorem tables_plain.calls (a0 : Int) (r : Bool) (w : World) (h : tables_plain.f a0 = some r) :
 Calls Try.prog 72 #[.int .i64 a0] w fun e w' => e = .returned (.bool r) ∧ Drawn0 w w' := by
 have H : (if a0 ≥ 1 then (if a0 ≤ 4 then (some true) else (if a0 = 10 then (some true) else (some (a0 == 11)))) else (if a0 = 10 then (some true) else (some (a0 == 11)))) = some r := h
 clear h
 by_cases c2 : a0 ≥ 1
 ·
  rw [if_pos c2] at H
  have c2b0 : decide (1 ≤ a0) = true := decide_eq_true c2
  clear c2
  by_cases c3 : a0 ≤ 4
  ·
   rw [if_pos c3] at H
   have c3b0 : decide (a0 ≤ 4) = true := decide_eq_true c3
   clear c3
   obtain rfl := Option.some.inj H
   go_enter Try.func72, Try.ntmps72
   go_wp2
   go_ret
   exact ⟨by first | rfl | (simp; done) | (simp [*]; done), by repeat (first | exact Drawn0.refl _ | apply Drawn0.step)⟩
  ·
   rw [if_neg c3] at H
   have c3b0 : decide (a0 ≤ 4) = false := decide_eq_false c3
   clear c3
   by_cases c4 : a0 = 10
   ·
    rw [if_pos c4] at H
    have c4b0 : (a0 == 10) = true := beq_iff_eq.mpr c4
    have c4b1 : (a0 != 10) = false := bne_eq_false_iff_eq.mpr c4
    clear c4
    obtain rfl := Option.some.inj H
    go_enter Try.func72, Try.ntmps72
    go_wp2
    go_ret
    exact ⟨by first | rfl | (simp; done) | (simp [*]; done), by repeat (first | exact Drawn0.refl _ | apply Drawn0.step)⟩
   ·
    rw [if_neg c4] at H
    have c4b0 : (a0 == 10) = false := beq_eq_false_iff_ne.mpr c4
    have c4b1 : (a0 != 10) = true := bne_iff_ne.mpr c4
    obtain rfl := Option.some.inj H
    go_enter Try.func72, Try.ntmps72
    go_wp2
    go_ret
    exact ⟨by first | rfl | (simp; done) | (simp [*]; done), by repeat (first | exact Drawn0.refl _ | apply Drawn0.step)⟩
 ·
  rw [if_neg c2] at H
  have c2b0 : decide (1 ≤ a0) = false := decide_eq_false c2
  clear c2
  by_cases c5 : a0 = 10
  ·
   rw [if_pos c5] at H
   have c5b0 : (a0 == 10) = true := beq_iff_eq.mpr c5
   have c5b1 : (a0 != 10) = false := bne_eq_false_iff_eq.mpr c5
   clear c5
   obtain rfl := Option.some.inj H
   go_enter Try.func72, Try.ntmps72
   go_wp2
   go_ret
   exact ⟨by first | rfl | (simp; done) | (simp [*]; done), by repeat (first | exact Drawn0.refl _ | apply Drawn0.step)⟩
  ·
   rw [if_neg c5] at H
   have c5b0 : (a0 == 10) = false := beq_eq_false_iff_ne.mpr c5
   have c5b1 : (a0 != 10) = true := bne_iff_ne.mpr c5
   obtain rfl := Option.some.inj H
   go_enter Try.func72, Try.ntmps72
   go_wp2
   go_ret
   exact ⟨by first | rfl | (simp; done) | (simp [*]; done), by repeat (first | exact Drawn0.refl _ | apply Drawn0.step)⟩
end Go.Proofs.Ytgnbemgeiloegaa.PTypesGoods
