import Derived.Test.YtgnbemgeiloegaaKPTypesGoodsx0
namespace Go.Proofs.Ytgnbemgeiloegaa.PTypesGoods
open Go.RowKit Go.Proofs.YtgnbemgeiloegaaW.PrintWords Go.Proofs.YtgnbemgeiloegaaW.PrintLast Go.Proofs.YtgnbemgeiloegaaW.PrintMore
attribute [local go_sem] max2_int min2_int max_two min_two max_three min_three max_four min_four   -- for this text's walks alone
set_option linter.unusedVariables false
set_option linter.unusedSimpArgs false
/-! ### spinetref13_Alike: function 37 -/
mutual
def spinetref13_Alike.j0 : Nat → Bool → Int → ByteArray → ByteArray → Int → Int → Int → List (S42) → List (S47) → Int → Int → Int → ByteArray → ByteArray → Int → Int → Int → List (S42) → List (S47) → Int → Int → Option (Bool)
  | 0, _, _, _, _, _, _, _, _, _, _, _, _, _, _, _, _, _, _, _, _, _ => none
  | k + 1, x78, x123000, x123001, x123002, x123003, x123004, x123005, x123006, x123007, x123008, x123009, x124000, x124001, x124002, x124003, x124004, x124005, x124006, x124007, x124008, x124009 => if x78 = true then (some false) else (spinetref13_Alike.l0 k 0 x123000 x123001 x123002 x123003 x123004 x123005 x123006 x123007 x123008 x123009 x124000 x124001 x124002 x124003 x124004 x124005 x124006 x124007 x124008 x124009)
def spinetref13_Alike.l0 : Nat → Int → Int → ByteArray → ByteArray → Int → Int → Int → List (S42) → List (S47) → Int → Int → Int → ByteArray → ByteArray → Int → Int → Int → List (S42) → List (S47) → Int → Int → Option (Bool)
  | 0, _, _, _, _, _, _, _, _, _, _, _, _, _, _, _, _, _, _, _, _, _ => none
  | k + 1, x5, x123000, x123001, x123002, x123003, x123004, x123005, x123006, x123007, x123008, x123009, x124000, x124001, x124002, x124003, x124004, x124005, x124006, x124007, x124008, x124009 => if x5 < (x123006.length : Int) then (if 0 ≤ x5 then (if x5 < (x124006.length : Int) then (if ((rd_T42 x123006 x5).f0).toList = ((rd_T42 x124006 x5).f0).toList then (if (((rd_T42 x123006 x5).f1) != ((rd_T42 x124006 x5).f1)) = true then (some false) else (if ((rd_T42 x123006 x5).f2) = ((rd_T42 x124006 x5).f2) then (spinetref13_Alike.l0 k (wrap64 (x5 + 1)) x123000 x123001 x123002 x123003 x123004 x123005 x123006 x123007 x123008 x123009 x124000 x124001 x124002 x124003 x124004 x124005 x124006 x124007 x124008 x124009) else (some false))) else (some false)) else (none)) else (none)) else (spinetref13_Alike.l1 k 0 x123000 x123001 x123002 x123003 x123004 x123005 x123006 x123007 x123008 x123009 x124000 x124001 x124002 x124003 x124004 x124005 x124006 x124007 x124008 x124009)
def spinetref13_Alike.l1 : Nat → Int → Int → ByteArray → ByteArray → Int → Int → Int → List (S42) → List (S47) → Int → Int → Int → ByteArray → ByteArray → Int → Int → Int → List (S42) → List (S47) → Int → Int → Option (Bool)
  | 0, _, _, _, _, _, _, _, _, _, _, _, _, _, _, _, _, _, _, _, _, _ => none
  | k + 1, x6, x123000, x123001, x123002, x123003, x123004, x123005, x123006, x123007, x123008, x123009, x124000, x124001, x124002, x124003, x124004, x124005, x124006, x124007, x124008, x124009 => if x6 < (x123007.length : Int) then (if 0 ≤ x6 then (if x6 < (x124007.length : Int) then (if (((rd_T47 x123007 x6).f0) != ((rd_T47 x124007 x6).f0)) = true then (some false) else (if ((rd_T47 x123007 x6).f1) = ((rd_T47 x124007 x6).f1) then (spinetref13_Alike.l1 k (wrap64 (x6 + 1)) x123000 x123001 x123002 x123003 x123004 x123005 x123006 x123007 x123008 x123009 x124000 x124001 x124002 x124003 x124004 x124005 x124006 x124007 x124008 x124009) else (some false))) else (none)) else (none)) else (some true)
end
def spinetref13_Alike.f (k : Nat) (a0_0 : Int) (a0_1 : ByteArray) (a0_2 : ByteArray) (a0_3 : Int) (a0_4 : Int) (a0_5 : Int) (l0_6 : List (S42)) (l0_7 : List (S47)) (a0_8 : Int) (a0_9 : Int) (a1_0 : Int) (a1_1 : ByteArray) (a1_2 : ByteArray) (a1_3 : Int) (a1_4 : Int) (a1_5 : Int) (l1_6 : List (S42)) (l1_7 : List (S47)) (a1_8 : Int) (a1_9 : Int) : Option (Bool) := if a0_0 = a1_0 then (if a0_1.toList = a1_1.toList then (if a0_2.toList = a1_2.toList then (if a0_3 = a1_3 then (if a0_4 = a1_4 then (if a0_5 = a1_5 then (if a0_8 = a1_8 then (if a0_9 = a1_9 then (if (l0_6.length : Int) = (l1_6.length : Int) then (spinetref13_Alike.j0 k ((l0_7.length : Int) != (l1_7.length : Int)) a0_0 a0_1 a0_2 a0_3 a0_4 a0_5 l0_6 l0_7 a0_8 a0_9 a1_0 a1_1 a1_2 a1_3 a1_4 a1_5 l1_6 l1_7 a1_8 a1_9) else (spinetref13_Alike.j0 k true a0_0 a0_1 a0_2 a0_3 a0_4 a0_5 l0_6 l0_7 a0_8 a0_9 a1_0 a1_1 a1_2 a1_3 a1_4 a1_5 l1_6 l1_7 a1_8 a1_9)) else (spinetref13_Alike.j0 k true a0_0 a0_1 a0_2 a0_3 a0_4 a0_5 l0_6 l0_7 a0_8 a0_9 a1_0 a1_1 a1_2 a1_3 a1_4 a1_5 l1_6 l1_7 a1_8 a1_9)) else (spinetref13_Alike.j0 k true a0_0 a0_1 a0_2 a0_3 a0_4 a0_5 l0_6 l0_7 a0_8 a0_9 a1_0 a1_1 a1_2 a1_3 a1_4 a1_5 l1_6 l1_7 a1_8 a1_9)) else (spinetref13_Alike.j0 k true a0_0 a0_1 a0_2 a0_3 a0_4 a0_5 l0_6 l0_7 a0_8 a0_9 a1_0 a1_1 a1_2 a1_3 a1_4 a1_5 l1_6 l1_7 a1_8 a1_9)) else (spinetref13_Alike.j0 k true a0_0 a0_1 a0_2 a0_3 a0_4 a0_5 l0_6 l0_7 a0_8 a0_9 a1_0 a1_1 a1_2 a1_3 a1_4 a1_5 l1_6 l1_7 a1_8 a1_9)) else (spinetref13_Alike.j0 k true a0_0 a0_1 a0_2 a0_3 a0_4 a0_5 l0_6 l0_7 a0_8 a0_9 a1_0 a1_1 a1_2 a1_3 a1_4 a1_5 l1_6 l1_7 a1_8 a1_9)) else (spinetref13_Alike.j0 k true a0_0 a0_1 a0_2 a0_3 a0_4 a0_5 l0_6 l0_7 a0_8 a0_9 a1_0 a1_1 a1_2 a1_3 a1_4 a1_5 l1_6 l1_7 a1_8 a1_9)) else (spinetref13_Alike.j0 k true a0_0 a0_1 a0_2 a0_3 a0_4 a0_5 l0_6 l0_7 a0_8 a0_9 a1_0 a1_1 a1_2 a1_3 a1_4 a1_5 l1_6 l1_7 a1_8 a1_9)) else (spinetref13_Alike.j0 k true a0_0 a0_1 a0_2 a0_3 a0_4 a0_5 l0_6 l0_7 a0_8 a0_9 a1_0 a1_1 a1_2 a1_3 a1_4 a1_5 l1_6 l1_7 a1_8 a1_9)
theorem spinetref13_Alike.mono_l : ∀ k, (∀ y0 y1 y2 y3 y4 y5 y6 y7 y8 y9 y10 y11 y12 y13 y14 y15 y16 y17 y18 y19 y20, LeO (spinetref13_Alike.j0 k y0 y1 y2 y3 y4 y5 y6 y7 y8 y9 y10 y11 y12 y13 y14 y15 y16 y17 y18 y19 y20) (spinetref13_Alike.j0 (k + 1) y0 y1 y2 y3 y4 y5 y6 y7 y8 y9 y10 y11 y12 y13 y14 y15 y16 y17 y18 y19 y20)) ∧ (∀ y0 y1 y2 y3 y4 y5 y6 y7 y8 y9 y10 y11 y12 y13 y14 y15 y16 y17 y18 y19 y20, LeO (spinetref13_Alike.l0 k y0 y1 y2 y3 y4 y5 y6 y7 y8 y9 y10 y11 y12 y13 y14 y15 y16 y17 y18 y19 y20) (spinetref13_Alike.l0 (k + 1) y0 y1 y2 y3 y4 y5 y6 y7 y8 y9 y10 y11 y12 y13 y14 y15 y16 y17 y18 y19 y20)) ∧ (∀ y0 y1 y2 y3 y4 y5 y6 y7 y8 y9 y10 y11 y12 y13 y14 y15 y16 y17 y18 y19 y20, LeO (spinetref13_Alike.l1 k y0 y1 y2 y3 y4 y5 y6 y7 y8 y9 y10 y11 y12 y13 y14 y15 y16 y17 y18 y19 y20) (spinetref13_Alike.l1 (k + 1) y0 y1 y2 y3 y4 y5 y6 y7 y8 y9 y10 y11 y12 y13 y14 y15 y16 y17 y18 y19 y20))
  | 0 => ⟨fun _ _ _ _ _ _ _ _ _ _ _ _ _ _ _ _ _ _ _ _ _ r h => by simp [spinetref13_Alike.j0] at h, fun _ _ _ _ _ _ _ _ _ _ _ _ _ _ _ _ _ _ _ _ _ r h => by simp [spinetref13_Alike.l0] at h, fun _ _ _ _ _ _ _ _ _ _ _ _ _ _ _ _ _ _ _ _ _ r h => by simp [spinetref13_Alike.l1] at h⟩
  | k + 1 => by
    obtain ⟨ih0, ih1, ih2⟩ := spinetref13_Alike.mono_l k
    refine ⟨?_, ?_, ?_⟩
    · intro y0 y1 y2 y3 y4 y5 y6 y7 y8 y9 y10 y11 y12 y13 y14 y15 y16 y17 y18 y19 y20
      unfold spinetref13_Alike.j0
      repeat' first
      | (with_reducible exact ih0 _ _ _ _ _ _ _ _ _ _ _ _ _ _ _ _ _ _ _ _ _)
      | (with_reducible exact ih1 _ _ _ _ _ _ _ _ _ _ _ _ _ _ _ _ _ _ _ _ _)
      | (with_reducible exact ih2 _ _ _ _ _ _ _ _ _ _ _ _ _ _ _ _ _ _ _ _ _)
      | (with_reducible exact LeO.refl _)
      | (with_reducible exact LeO.none _)
      | (with_reducible refine LeO.ite ?_ ?_)
      | (with_reducible refine LeO.bind ?_ (fun _ => ?_))
      | exact ih0 _ _ _ _ _ _ _ _ _ _ _ _ _ _ _ _ _ _ _ _ _
      | exact ih1 _ _ _ _ _ _ _ _ _ _ _ _ _ _ _ _ _ _ _ _ _
      | exact ih2 _ _ _ _ _ _ _ _ _ _ _ _ _ _ _ _ _ _ _ _ _
      | exact LeO.none _
      | refine LeO.ite ?_ ?_
      | refine LeO.bind ?_ (fun _ => ?_)
    · intro y0 y1 y2 y3 y4 y5 y6 y7 y8 y9 y10 y11 y12 y13 y14 y15 y16 y17 y18 y19 y20
      unfold spinetref13_Alike.l0
      repeat' first
      | (with_reducible exact ih0 _ _ _ _ _ _ _ _ _ _ _ _ _ _ _ _ _ _ _ _ _)
      | (with_reducible exact ih1 _ _ _ _ _ _ _ _ _ _ _ _ _ _ _ _ _ _ _ _ _)
      | (with_reducible exact ih2 _ _ _ _ _ _ _ _ _ _ _ _ _ _ _ _ _ _ _ _ _)
      | (with_reducible exact LeO.refl _)
      | (with_reducible exact LeO.none _)
      | (with_reducible refine LeO.ite ?_ ?_)
      | (with_reducible refine LeO.bind ?_ (fun _ => ?_))
      | exact ih0 _ _ _ _ _ _ _ _ _ _ _ _ _ _ _ _ _ _ _ _ _
      | exact ih1 _ _ _ _ _ _ _ _ _ _ _ _ _ _ _ _ _ _ _ _ _
      | exact ih2 _ _ _ _ _ _ _ _ _ _ _ _ _ _ _ _ _ _ _ _ _
      | exact LeO.none _
      | refine LeO.ite ?_ ?_
      | refine LeO.bind ?_ (fun _ => ?_)
    · intro y0 y1 y2 y3 y4 y5 y6 y7 y8 y9 y10 y11 y12 y13 y14 y15 y16 y17 y18 y19 y20
      unfold spinetref13_Alike.l1
      repeat' first
      | (with_reducible exact ih0 _ _ _ _ _ _ _ _ _ _ _ _ _ _ _ _ _ _ _ _ _)
      | (with_reducible exact ih1 _ _ _ _ _ _ _ _ _ _ _ _ _ _ _ _ _ _ _ _ _)
      | (with_reducible exact ih2 _ _ _ _ _ _ _ _ _ _ _ _ _ _ _ _ _ _ _ _ _)
      | (with_reducible exact LeO.refl _)
      | (with_reducible exact LeO.none _)
      | (with_reducible refine LeO.ite ?_ ?_)
      | (with_reducible refine LeO.bind ?_ (fun _ => ?_))
      | exact ih0 _ _ _ _ _ _ _ _ _ _ _ _ _ _ _ _ _ _ _ _ _
      | exact ih1 _ _ _ _ _ _ _ _ _ _ _ _ _ _ _ _ _ _ _ _ _
      | exact ih2 _ _ _ _ _ _ _ _ _ _ _ _ _ _ _ _ _ _ _ _ _
      | exact LeO.none _
      | refine LeO.ite ?_ ?_
      | refine LeO.bind ?_ (fun _ => ?_)
theorem spinetref13_Alike.mono : ∀ a0 a1 a2 a3 a4 a5 a6 a7 a8 a9 a10 a11 a12 a13 a14 a15 a16 a17 a18 a19 k, LeO (spinetref13_Alike.f k a0 a1 a2 a3 a4 a5 a6 a7 a8 a9 a10 a11 a12 a13 a14 a15 a16 a17 a18 a19) (spinetref13_Alike.f (k + 1) a0 a1 a2 a3 a4 a5 a6 a7 a8 a9 a10 a11 a12 a13 a14 a15 a16 a17 a18 a19) := by
  intro a0 a1 a2 a3 a4 a5 a6 a7 a8 a9 a10 a11 a12 a13 a14 a15 a16 a17 a18 a19 k
  obtain ⟨ih0, ih1, ih2⟩ := spinetref13_Alike.mono_l k
  unfold spinetref13_Alike.f
  repeat' first
      | (with_reducible exact ih0 _ _ _ _ _ _ _ _ _ _ _ _ _ _ _ _ _ _ _ _ _)
      | (with_reducible exact ih1 _ _ _ _ _ _ _ _ _ _ _ _ _ _ _ _ _ _ _ _ _)
      | (with_reducible exact ih2 _ _ _ _ _ _ _ _ _ _ _ _ _ _ _ _ _ _ _ _ _)
      | (with_reducible exact LeO.refl _)
      | (with_reducible exact LeO.none _)
      | (with_reducible refine LeO.ite ?_ ?_)
      | (with_reducible refine LeO.bind ?_ (fun _ => ?_))
      | exact ih0 _ _ _ _ _ _ _ _ _ _ _ _ _ _ _ _ _ _ _ _ _
      | exact ih1 _ _ _ _ _ _ _ _ _ _ _ _ _ _ _ _ _ _ _ _ _
      | exact ih2 _ _ _ _ _ _ _ _ _ _ _ _ _ _ _ _ _ _ _ _ _
      | exact LeO.none _
      | refine LeO.ite ?_ ?_
      | refine LeO.bind ?_ (fun _ => ?_)
set_option maxHeartbeats 8000000 in
set_option maxRecDepth 100000 in
theorem spinetref13_Alike.calls (k : Nat) (a0_0 : Int) (a0_1 : ByteArray) (a0_2 : ByteArray) (a0_3 : Int) (a0_4 : Int) (a0_5 : Int) (A0_6 : Option Addr) (c0_6 : Nat) (l0_6 : List (S42)) (A0_7 : Option Addr) (c0_7 : Nat) (l0_7 : List (S47)) (a0_8 : Int) (a0_9 : Int) (a1_0 : Int) (a1_1 : ByteArray) (a1_2 : ByteArray) (a1_3 : Int) (a1_4 : Int) (a1_5 : Int) (A1_6 : Option Addr) (c1_6 : Nat) (l1_6 : List (S42)) (A1_7 : Option Addr) (c1_7 : Nat) (l1_7 : List (S47)) (a1_8 : Int) (a1_9 : Int) (r : Bool) (w : World) (hr0_6 : Kd.C k42 w A0_6 l0_6.length l0_6) (hc0_6 : l0_6.length ≤ c0_6) (hr0_7 : Kd.C k47 w A0_7 l0_7.length l0_7) (hc0_7 : l0_7.length ≤ c0_7) (hr1_6 : Kd.C k42 w A1_6 l1_6.length l1_6) (hc1_6 : l1_6.length ≤ c1_6) (hr1_7 : Kd.C k47 w A1_7 l1_7.length l1_7) (hc1_7 : l1_7.length ≤ c1_7) (h : spinetref13_Alike.f k a0_0 a0_1 a0_2 a0_3 a0_4 a0_5 l0_6 l0_7 a0_8 a0_9 a1_0 a1_1 a1_2 a1_3 a1_4 a1_5 l1_6 l1_7 a1_8 a1_9 = some r) :
    Calls Try.prog 37 #[.agg #[.int .i64 a0_0, .string a0_1, .string a0_2, .int .i64 a0_3, .int .i64 a0_4, .int .i64 a0_5, .slice A0_6 l0_6.length c0_6, .slice A0_7 l0_7.length c0_7, .int .i64 a0_8, .int .i64 a0_9], .agg #[.int .i64 a1_0, .string a1_1, .string a1_2, .int .i64 a1_3, .int .i64 a1_4, .int .i64 a1_5, .slice A1_6 l1_6.length c1_6, .slice A1_7 l1_7.length c1_7, .int .i64 a1_8, .int .i64 a1_9]] w fun e w' => e = .returned (.bool r) ∧ Below w.heap.size w w' := by
  have hu40 := Try.underlying40
  have HR0_6 := Aside0.mk hr0_6
  have HC0_6 := Aside0.mk hc0_6
  clear hr0_6 hc0_6
  have HR0_7 := Aside0.mk hr0_7
  have HC0_7 := Aside0.mk hc0_7
  clear hr0_7 hc0_7
  have HR1_6 := Aside0.mk hr1_6
  have HC1_6 := Aside0.mk hc1_6
  clear hr1_6 hc1_6
  have HR1_7 := Aside0.mk hr1_7
  have HC1_7 := Aside0.mk hc1_7
  clear hr1_7 hc1_7
  have HB := Aside0.mk (Below.refl w.heap.size w)
  have H : (if a0_0 = a1_0 then (if a0_1.toList = a1_1.toList then (if a0_2.toList = a1_2.toList then (if a0_3 = a1_3 then (if a0_4 = a1_4 then (if a0_5 = a1_5 then (if a0_8 = a1_8 then (if a0_9 = a1_9 then (if (l0_6.length : Int) = (l1_6.length : Int) then (spinetref13_Alike.j0 k ((l0_7.length : Int) != (l1_7.length : Int)) a0_0 a0_1 a0_2 a0_3 a0_4 a0_5 l0_6 l0_7 a0_8 a0_9 a1_0 a1_1 a1_2 a1_3 a1_4 a1_5 l1_6 l1_7 a1_8 a1_9) else (spinetref13_Alike.j0 k true a0_0 a0_1 a0_2 a0_3 a0_4 a0_5 l0_6 l0_7 a0_8 a0_9 a1_0 a1_1 a1_2 a1_3 a1_4 a1_5 l1_6 l1_7 a1_8 a1_9)) else (spinetref13_Alike.j0 k true a0_0 a0_1 a0_2 a0_3 a0_4 a0_5 l0_6 l0_7 a0_8 a0_9 a1_0 a1_1 a1_2 a1_3 a1_4 a1_5 l1_6 l1_7 a1_8 a1_9)) else (spinetref13_Alike.j0 k true a0_0 a0_1 a0_2 a0_3 a0_4 a0_5 l0_6 l0_7 a0_8 a0_9 a1_0 a1_1 a1_2 a1_3 a1_4 a1_5 l1_6 l1_7 a1_8 a1_9)) else (spinetref13_Alike.j0 k true a0_0 a0_1 a0_2 a0_3 a0_4 a0_5 l0_6 l0_7 a0_8 a0_9 a1_0 a1_1 a1_2 a1_3 a1_4 a1_5 l1_6 l1_7 a1_8 a1_9)) else (spinetref13_Alike.j0 k true a0_0 a0_1 a0_2 a0_3 a0_4 a0_5 l0_6 l0_7 a0_8 a0_9 a1_0 a1_1 a1_2 a1_3 a1_4 a1_5 l1_6 l1_7 a1_8 a1_9)) else (spinetref13_Alike.j0 k true a0_0 a0_1 a0_2 a0_3 a0_4 a0_5 l0_6 l0_7 a0_8 a0_9 a1_0 a1_1 a1_2 a1_3 a1_4 a1_5 l1_6 l1_7 a1_8 a1_9)) else (spinetref13_Alike.j0 k true a0_0 a0_1 a0_2 a0_3 a0_4 a0_5 l0_6 l0_7 a0_8 a0_9 a1_0 a1_1 a1_2 a1_3 a1_4 a1_5 l1_6 l1_7 a1_8 a1_9)) else (spinetref13_Alike.j0 k true a0_0 a0_1 a0_2 a0_3 a0_4 a0_5 l0_6 l0_7 a0_8 a0_9 a1_0 a1_1 a1_2 a1_3 a1_4 a1_5 l1_6 l1_7 a1_8 a1_9)) else (spinetref13_Alike.j0 k true a0_0 a0_1 a0_2 a0_3 a0_4 a0_5 l0_6 l0_7 a0_8 a0_9 a1_0 a1_1 a1_2 a1_3 a1_4 a1_5 l1_6 l1_7 a1_8 a1_9)) = some r := h
  clear h
  have HC3 := Aside0.mk H
  clear H
  go_enter Try.func37, Try.ntmps37
  go_upto_region 1 with (first | ((with_reducible refine gate_dst (N := 2) rfl ?_); (try (refine gate_guard (by rfl) ?_; dsimp only)); refine box_event ?hg (N := 2) ?hd (cs := #[.int .i64 a0_0, .string a0_1, .string a0_2, .int .i64 a0_3, .int .i64 a0_4, .int .i64 a0_5, .slice A0_6 l0_6.length c0_6, .slice A0_7 l0_7.length c0_7, .int .i64 a0_8, .int .i64 a0_9]) (t := 40) ?hr ?_; (case hd => rfl); (case hg => rfl); (case hr => first | (go_simp; done) | (go_simp; rfl)); intro gb122 hg w4 hbox hb; have n0_ := Aside0.mk (below_step (by repeat (first | (with_reducible first | exact HB.out | apply below_alloc | apply pw_below_drewN | apply below_drew1) | exact HB.out)) hb); have n1_ := Aside0.mk (hbox); have n2_ := Aside0.mk ((by rw [hg]; exact (below_size (by repeat (first | (with_reducible first | exact HB.out | apply below_alloc | apply pw_below_drewN | apply below_drew1) | exact HB.out))) : w.heap.size ≤ gb122)); have n3_ := Aside0.mk ((by rw [hg]; exact (below_size (by repeat (first | (with_reducible first | exact HB.out | apply below_alloc | apply pw_below_drewN | apply below_drew1) | exact HB.out))) : w.heap.size ≤ gb122)); clear HB; have HB := n0_; have BK122 := n1_; have GW122 := n2_; have GE122 := n3_; clear n0_ n1_ n2_ n3_; clear hb hbox hg) | ((with_reducible refine gate_dst (N := 3) rfl ?_); (try (refine gate_guard (by rfl) ?_; dsimp only)); refine box_event ?hg (N := 3) ?hd (cs := #[.int .i64 a1_0, .string a1_1, .string a1_2, .int .i64 a1_3, .int .i64 a1_4, .int .i64 a1_5, .slice A1_6 l1_6.length c1_6, .slice A1_7 l1_7.length c1_7, .int .i64 a1_8, .int .i64 a1_9]) (t := 40) ?hr ?_; (case hd => rfl); (case hg => rfl); (case hr => first | (go_simp; done) | (go_simp; rfl)); intro gb123 hg w5 hbox hb; have n0_ := Aside0.mk (blk_below (g := gb122) (o := .cells #[.int .i64 a0_0, .string a0_1, .string a0_2, .int .i64 a0_3, .int .i64 a0_4, .int .i64 a0_5, .slice A0_6 l0_6.length c0_6, .slice A0_7 l0_7.length c0_7, .int .i64 a0_8, .int .i64 a0_9] 40 (0, 0)) (by (with_reducible repeat (first | refine blk_drewN ?_ _ | refine blk_drew ?_ | refine blk_alloc ?_ _)); exact BK122.out) hb); have n1_ := Aside0.mk (below_step (by repeat (first | (with_reducible first | exact HB.out | apply below_alloc | apply pw_below_drewN | apply below_drew1 | refine below_set ?_ GE122.out) | exact HB.out)) hb); have n2_ := Aside0.mk (hbox); have n3_ := Aside0.mk ((by rw [hg]; exact (below_size (by repeat (first | (with_reducible first | exact HB.out | apply below_alloc | apply pw_below_drewN | apply below_drew1 | refine below_set ?_ GE122.out) | exact HB.out))) : w.heap.size ≤ gb123)); have n4_ := Aside0.mk ((by rw [hg]; exact (below_size (by repeat (first | (with_reducible first | exact HB.out | apply below_alloc | apply pw_below_drewN | apply below_drew1 | refine below_set ?_ GE122.out) | exact HB.out))) : w.heap.size ≤ gb123)); have n5_ := Aside0.mk ((by rw [hg]; exact Nat.ne_of_lt (blk_lt (g := gb122) (o := .cells #[.int .i64 a0_0, .string a0_1, .string a0_2, .int .i64 a0_3, .int .i64 a0_4, .int .i64 a0_5, .slice A0_6 l0_6.length c0_6, .slice A0_7 l0_7.length c0_7, .int .i64 a0_8, .int .i64 a0_9] 40 (0, 0)) (by (with_reducible repeat (first | refine blk_drewN ?_ _ | refine blk_drew ?_ | refine blk_alloc ?_ _)); exact BK122.out)) : gb122 ≠ gb123)); have n6_ := Aside0.mk ((by rw [hg]; exact Nat.ne_of_gt (blk_lt (g := gb122) (o := .cells #[.int .i64 a0_0, .string a0_1, .string a0_2, .int .i64 a0_3, .int .i64 a0_4, .int .i64 a0_5, .slice A0_6 l0_6.length c0_6, .slice A0_7 l0_7.length c0_7, .int .i64 a0_8, .int .i64 a0_9] 40 (0, 0)) (by (with_reducible repeat (first | refine blk_drewN ?_ _ | refine blk_drew ?_ | refine blk_alloc ?_ _)); exact BK122.out)) : gb123 ≠ gb122)); clear BK122; clear HB; have BK122 := n0_; have HB := n1_; have BK123 := n2_; have GW123 := n3_; have GE123 := n4_; have NB122_123 := n5_; have NB123_122 := n6_; clear n0_ n1_ n2_ n3_ n4_ n5_ n6_; clear hb hbox hg))
  repeat (go_quiet (first | ((with_reducible refine gate_dst (N := 2) rfl ?_); (try (refine gate_guard (by rfl) ?_; dsimp only)); refine box_event ?hg (N := 2) ?hd (cs := #[.int .i64 a0_0, .string a0_1, .string a0_2, .int .i64 a0_3, .int .i64 a0_4, .int .i64 a0_5, .slice A0_6 l0_6.length c0_6, .slice A0_7 l0_7.length c0_7, .int .i64 a0_8, .int .i64 a0_9]) (t := 40) ?hr ?_; (case hd => rfl); (case hg => rfl); (case hr => first | (go_simp; done) | (go_simp; rfl)); intro gb122 hg w4 hbox hb; have n0_ := Aside0.mk (below_step (by repeat (first | (with_reducible first | exact HB.out | apply below_alloc | apply pw_below_drewN | apply below_drew1) | exact HB.out)) hb); have n1_ := Aside0.mk (hbox); have n2_ := Aside0.mk ((by rw [hg]; exact (below_size (by repeat (first | (with_reducible first | exact HB.out | apply below_alloc | apply pw_below_drewN | apply below_drew1) | exact HB.out))) : w.heap.size ≤ gb122)); have n3_ := Aside0.mk ((by rw [hg]; exact (below_size (by repeat (first | (with_reducible first | exact HB.out | apply below_alloc | apply pw_below_drewN | apply below_drew1) | exact HB.out))) : w.heap.size ≤ gb122)); clear HB; have HB := n0_; have BK122 := n1_; have GW122 := n2_; have GE122 := n3_; clear n0_ n1_ n2_ n3_; clear hb hbox hg) | ((with_reducible refine gate_dst (N := 3) rfl ?_); (try (refine gate_guard (by rfl) ?_; dsimp only)); refine box_event ?hg (N := 3) ?hd (cs := #[.int .i64 a1_0, .string a1_1, .string a1_2, .int .i64 a1_3, .int .i64 a1_4, .int .i64 a1_5, .slice A1_6 l1_6.length c1_6, .slice A1_7 l1_7.length c1_7, .int .i64 a1_8, .int .i64 a1_9]) (t := 40) ?hr ?_; (case hd => rfl); (case hg => rfl); (case hr => first | (go_simp; done) | (go_simp; rfl)); intro gb123 hg w5 hbox hb; have n0_ := Aside0.mk (blk_below (g := gb122) (o := .cells #[.int .i64 a0_0, .string a0_1, .string a0_2, .int .i64 a0_3, .int .i64 a0_4, .int .i64 a0_5, .slice A0_6 l0_6.length c0_6, .slice A0_7 l0_7.length c0_7, .int .i64 a0_8, .int .i64 a0_9] 40 (0, 0)) (by (with_reducible repeat (first | refine blk_drewN ?_ _ | refine blk_drew ?_ | refine blk_alloc ?_ _)); exact BK122.out) hb); have n1_ := Aside0.mk (below_step (by repeat (first | (with_reducible first | exact HB.out | apply below_alloc | apply pw_below_drewN | apply below_drew1 | refine below_set ?_ GE122.out) | exact HB.out)) hb); have n2_ := Aside0.mk (hbox); have n3_ := Aside0.mk ((by rw [hg]; exact (below_size (by repeat (first | (with_reducible first | exact HB.out | apply below_alloc | apply pw_below_drewN | apply below_drew1 | refine below_set ?_ GE122.out) | exact HB.out))) : w.heap.size ≤ gb123)); have n4_ := Aside0.mk ((by rw [hg]; exact (below_size (by repeat (first | (with_reducible first | exact HB.out | apply below_alloc | apply pw_below_drewN | apply below_drew1 | refine below_set ?_ GE122.out) | exact HB.out))) : w.heap.size ≤ gb123)); have n5_ := Aside0.mk ((by rw [hg]; exact Nat.ne_of_lt (blk_lt (g := gb122) (o := .cells #[.int .i64 a0_0, .string a0_1, .string a0_2, .int .i64 a0_3, .int .i64 a0_4, .int .i64 a0_5, .slice A0_6 l0_6.length c0_6, .slice A0_7 l0_7.length c0_7, .int .i64 a0_8, .int .i64 a0_9] 40 (0, 0)) (by (with_reducible repeat (first | refine blk_drewN ?_ _ | refine blk_drew ?_ | refine blk_alloc ?_ _)); exact BK122.out)) : gb122 ≠ gb123)); have n6_ := Aside0.mk ((by rw [hg]; exact Nat.ne_of_gt (blk_lt (g := gb122) (o := .cells #[.int .i64 a0_0, .string a0_1, .string a0_2, .int .i64 a0_3, .int .i64 a0_4, .int .i64 a0_5, .slice A0_6 l0_6.length c0_6, .slice A0_7 l0_7.length c0_7, .int .i64 a0_8, .int .i64 a0_9] 40 (0, 0)) (by (with_reducible repeat (first | refine blk_drewN ?_ _ | refine blk_drew ?_ | refine blk_alloc ?_ _)); exact BK122.out)) : gb123 ≠ gb122)); clear BK122; clear HB; have BK122 := n0_; have HB := n1_; have BK123 := n2_; have GW123 := n3_; have GE123 := n4_; have NB122_123 := n5_; have NB123_122 := n6_; clear n0_ n1_ n2_ n3_ n4_ n5_ n6_; clear hb hbox hg)); go_upto_region 1 with (first | ((with_reducible refine gate_dst (N := 2) rfl ?_); (try (refine gate_guard (by rfl) ?_; dsimp only)); refine box_event ?hg (N := 2) ?hd (cs := #[.int .i64 a0_0, .string a0_1, .string a0_2, .int .i64 a0_3, .int .i64 a0_4, .int .i64 a0_5, .slice A0_6 l0_6.length c0_6, .slice A0_7 l0_7.length c0_7, .int .i64 a0_8, .int .i64 a0_9]) (t := 40) ?hr ?_; (case hd => rfl); (case hg => rfl); (case hr => first | (go_simp; done) | (go_simp; rfl)); intro gb122 hg w4 hbox hb; have n0_ := Aside0.mk (below_step (by repeat (first | (with_reducible first | exact HB.out | apply below_alloc | apply pw_below_drewN | apply below_drew1) | exact HB.out)) hb); have n1_ := Aside0.mk (hbox); have n2_ := Aside0.mk ((by rw [hg]; exact (below_size (by repeat (first | (with_reducible first | exact HB.out | apply below_alloc | apply pw_below_drewN | apply below_drew1) | exact HB.out))) : w.heap.size ≤ gb122)); have n3_ := Aside0.mk ((by rw [hg]; exact (below_size (by repeat (first | (with_reducible first | exact HB.out | apply below_alloc | apply pw_below_drewN | apply below_drew1) | exact HB.out))) : w.heap.size ≤ gb122)); clear HB; have HB := n0_; have BK122 := n1_; have GW122 := n2_; have GE122 := n3_; clear n0_ n1_ n2_ n3_; clear hb hbox hg) | ((with_reducible refine gate_dst (N := 3) rfl ?_); (try (refine gate_guard (by rfl) ?_; dsimp only)); refine box_event ?hg (N := 3) ?hd (cs := #[.int .i64 a1_0, .string a1_1, .string a1_2, .int .i64 a1_3, .int .i64 a1_4, .int .i64 a1_5, .slice A1_6 l1_6.length c1_6, .slice A1_7 l1_7.length c1_7, .int .i64 a1_8, .int .i64 a1_9]) (t := 40) ?hr ?_; (case hd => rfl); (case hg => rfl); (case hr => first | (go_simp; done) | (go_simp; rfl)); intro gb123 hg w5 hbox hb; have n0_ := Aside0.mk (blk_below (g := gb122) (o := .cells #[.int .i64 a0_0, .string a0_1, .string a0_2, .int .i64 a0_3, .int .i64 a0_4, .int .i64 a0_5, .slice A0_6 l0_6.length c0_6, .slice A0_7 l0_7.length c0_7, .int .i64 a0_8, .int .i64 a0_9] 40 (0, 0)) (by (with_reducible repeat (first | refine blk_drewN ?_ _ | refine blk_drew ?_ | refine blk_alloc ?_ _)); exact BK122.out) hb); have n1_ := Aside0.mk (below_step (by repeat (first | (with_reducible first | exact HB.out | apply below_alloc | apply pw_below_drewN | apply below_drew1 | refine below_set ?_ GE122.out) | exact HB.out)) hb); have n2_ := Aside0.mk (hbox); have n3_ := Aside0.mk ((by rw [hg]; exact (below_size (by repeat (first | (with_reducible first | exact HB.out | apply below_alloc | apply pw_below_drewN | apply below_drew1 | refine below_set ?_ GE122.out) | exact HB.out))) : w.heap.size ≤ gb123)); have n4_ := Aside0.mk ((by rw [hg]; exact (below_size (by repeat (first | (with_reducible first | exact HB.out | apply below_alloc | apply pw_below_drewN | apply below_drew1 | refine below_set ?_ GE122.out) | exact HB.out))) : w.heap.size ≤ gb123)); have n5_ := Aside0.mk ((by rw [hg]; exact Nat.ne_of_lt (blk_lt (g := gb122) (o := .cells #[.int .i64 a0_0, .string a0_1, .string a0_2, .int .i64 a0_3, .int .i64 a0_4, .int .i64 a0_5, .slice A0_6 l0_6.length c0_6, .slice A0_7 l0_7.length c0_7, .int .i64 a0_8, .int .i64 a0_9] 40 (0, 0)) (by (with_reducible repeat (first | refine blk_drewN ?_ _ | refine blk_drew ?_ | refine blk_alloc ?_ _)); exact BK122.out)) : gb122 ≠ gb123)); have n6_ := Aside0.mk ((by rw [hg]; exact Nat.ne_of_gt (blk_lt (g := gb122) (o := .cells #[.int .i64 a0_0, .string a0_1, .string a0_2, .int .i64 a0_3, .int .i64 a0_4, .int .i64 a0_5, .slice A0_6 l0_6.length c0_6, .slice A0_7 l0_7.length c0_7, .int .i64 a0_8, .int .i64 a0_9] 40 (0, 0)) (by (with_reducible repeat (first | refine blk_drewN ?_ _ | refine blk_drew ?_ | refine blk_alloc ?_ _)); exact BK122.out)) : gb123 ≠ gb122)); clear BK122; clear HB; have BK122 := n0_; have HB := n1_; have BK123 := n2_; have GW123 := n3_; have GE123 := n4_; have NB122_123 := n5_; have NB123_122 := n6_; clear n0_ n1_ n2_ n3_ n4_ n5_ n6_; clear hb hbox hg)))
  (try simp only [Act.put, List.setIfInBounds_toArray, List.set_cons_zero, List.set_cons_succ])
  go_cut [78] (fun v78 wc => ∃ (kq : Nat) (x78_2 : Bool), v78 = .bool x78_2 ∧ Aside0 (spinetref13_Alike.j0 kq x78_2 a0_0 a0_1 a0_2 a0_3 a0_4 a0_5 l0_6 l0_7 a0_8 a0_9 a1_0 a1_1 a1_2 a1_3 a1_4 a1_5 l1_6 l1_7 a1_8 a1_9 = some r) ∧ Aside0 (kq ≤ k) ∧ Aside0 (wc.heap[gb122]? = some (.cells #[.int .i64 a0_0, .string a0_1, .string a0_2, .int .i64 a0_3, .int .i64 a0_4, .int .i64 a0_5, (.slice A0_6 l0_6.length c0_6), (.slice A0_7 l0_7.length c0_7), .int .i64 a0_8, .int .i64 a0_9] 40 (0, 0))) ∧ Aside0 (wc.heap[gb123]? = some (.cells #[.int .i64 a1_0, .string a1_1, .string a1_2, .int .i64 a1_3, .int .i64 a1_4, .int .i64 a1_5, (.slice A1_6 l1_6.length c1_6), (.slice A1_7 l1_7.length c1_7), .int .i64 a1_8, .int .i64 a1_9] 40 (0, 0))) ∧ Aside0 (Below w.heap.size w wc))
  case first =>
    have H := HC3.out
    clear HC3
    by_cases c6 : a0_0 = a1_0
    · rw [if_pos c6] at H
      have c6b0 : (a0_0 == a1_0) = true := beq_iff_eq.mpr c6
      have c6b1 : (a0_0 != a1_0) = false := bne_eq_false_iff_eq.mpr c6
      clear c6
      (first | rw [c6b0] | (simp only [i64_w, i32_w]; rw [c6b0]) | skip)
      by_cases c7 : a0_1.toList = a1_1.toList
      · rw [if_pos c7] at H
        have c7b0 : (a0_1.toList == a1_1.toList) = true := beq_iff_eq.mpr c7
        have c7b1 : (a0_1.toList != a1_1.toList) = false := bne_eq_false_iff_eq.mpr c7
        clear c7
        by_cases c8 : a0_2.toList = a1_2.toList
        · rw [if_pos c8] at H
          have c8b0 : (a0_2.toList == a1_2.toList) = true := beq_iff_eq.mpr c8
          have c8b1 : (a0_2.toList != a1_2.toList) = false := bne_eq_false_iff_eq.mpr c8
          clear c8
          by_cases c9 : a0_3 = a1_3
          · rw [if_pos c9] at H
            have c9b0 : (a0_3 == a1_3) = true := beq_iff_eq.mpr c9
            have c9b1 : (a0_3 != a1_3) = false := bne_eq_false_iff_eq.mpr c9
            clear c9
            by_cases c10 : a0_4 = a1_4
            · rw [if_pos c10] at H
              have c10b0 : (a0_4 == a1_4) = true := beq_iff_eq.mpr c10
              have c10b1 : (a0_4 != a1_4) = false := bne_eq_false_iff_eq.mpr c10
              clear c10
              by_cases c11 : a0_5 = a1_5
              · rw [if_pos c11] at H
                have c11b0 : (a0_5 == a1_5) = true := beq_iff_eq.mpr c11
                have c11b1 : (a0_5 != a1_5) = false := bne_eq_false_iff_eq.mpr c11
                clear c11
                by_cases c12 : a0_8 = a1_8
                · rw [if_pos c12] at H
                  have c12b0 : (a0_8 == a1_8) = true := beq_iff_eq.mpr c12
                  have c12b1 : (a0_8 != a1_8) = false := bne_eq_false_iff_eq.mpr c12
                  clear c12
                  by_cases c13 : a0_9 = a1_9
                  · rw [if_pos c13] at H
                    have c13b0 : (a0_9 == a1_9) = true := beq_iff_eq.mpr c13
                    have c13b1 : (a0_9 != a1_9) = false := bne_eq_false_iff_eq.mpr c13
                    clear c13
                    by_cases c14 : (l0_6.length : Int) = (l1_6.length : Int)
                    · rw [if_pos c14] at H
                      have c14b0 : ((l0_6.length : Int) == (l1_6.length : Int)) = true := beq_iff_eq.mpr c14
                      have c14b1 : ((l0_6.length : Int) != (l1_6.length : Int)) = false := bne_eq_false_iff_eq.mpr c14
                      have c14b2 : (l0_6.length == l1_6.length) = true := by first | simpa using c14 | (simp at c14 ⊢; omega)
                      clear c14
                      have H' := Aside0.mk H
                      clear H
                      have hnb15 := NB122_123.out
                      have hnc15 := NB123_122.out
                      have hcz16_0 : w5.cell? ⟨gb122, 0, none⟩ = some (.int .i64 a0_0) := (blk_cell BK122.out 0).trans rfl
                      have hcz16_1 : w5.cell? ⟨gb122, 1, none⟩ = some (.string a0_1) := (blk_cell BK122.out 1).trans rfl
                      have hcz16_2 : w5.cell? ⟨gb122, 2, none⟩ = some (.string a0_2) := (blk_cell BK122.out 2).trans rfl
                      have hcz16_3 : w5.cell? ⟨gb122, 3, none⟩ = some (.int .i64 a0_3) := (blk_cell BK122.out 3).trans rfl
                      have hcz16_4 : w5.cell? ⟨gb122, 4, none⟩ = some (.int .i64 a0_4) := (blk_cell BK122.out 4).trans rfl
                      have hcz16_5 : w5.cell? ⟨gb122, 5, none⟩ = some (.int .i64 a0_5) := (blk_cell BK122.out 5).trans rfl
                      have hcz16_6 : w5.cell? ⟨gb122, 6, none⟩ = some (.slice A0_6 l0_6.length c0_6) := (blk_cell BK122.out 6).trans rfl
                      have hcz16_7 : w5.cell? ⟨gb122, 7, none⟩ = some (.slice A0_7 l0_7.length c0_7) := (blk_cell BK122.out 7).trans rfl
                      have hcz16_8 : w5.cell? ⟨gb122, 8, none⟩ = some (.int .i64 a0_8) := (blk_cell BK122.out 8).trans rfl
                      have hcz16_9 : w5.cell? ⟨gb122, 9, none⟩ = some (.int .i64 a0_9) := (blk_cell BK122.out 9).trans rfl
                      have hfz16_0 := blk_frozen BK122.out 0
                      have hfz16_1 := blk_frozen BK122.out 1
                      have hfz16_2 := blk_frozen BK122.out 2
                      have hfz16_3 := blk_frozen BK122.out 3
                      have hfz16_4 := blk_frozen BK122.out 4
                      have hfz16_5 := blk_frozen BK122.out 5
                      have hfz16_6 := blk_frozen BK122.out 6
                      have hfz16_7 := blk_frozen BK122.out 7
                      have hfz16_8 := blk_frozen BK122.out 8
                      have hfz16_9 := blk_frozen BK122.out 9
                      have hcz17_0 : w5.cell? ⟨gb123, 0, none⟩ = some (.int .i64 a1_0) := (blk_cell BK123.out 0).trans rfl
                      have hcz17_1 : w5.cell? ⟨gb123, 1, none⟩ = some (.string a1_1) := (blk_cell BK123.out 1).trans rfl
                      have hcz17_2 : w5.cell? ⟨gb123, 2, none⟩ = some (.string a1_2) := (blk_cell BK123.out 2).trans rfl
                      have hcz17_3 : w5.cell? ⟨gb123, 3, none⟩ = some (.int .i64 a1_3) := (blk_cell BK123.out 3).trans rfl
                      have hcz17_4 : w5.cell? ⟨gb123, 4, none⟩ = some (.int .i64 a1_4) := (blk_cell BK123.out 4).trans rfl
                      have hcz17_5 : w5.cell? ⟨gb123, 5, none⟩ = some (.int .i64 a1_5) := (blk_cell BK123.out 5).trans rfl
                      have hcz17_6 : w5.cell? ⟨gb123, 6, none⟩ = some (.slice A1_6 l1_6.length c1_6) := (blk_cell BK123.out 6).trans rfl
                      have hcz17_7 : w5.cell? ⟨gb123, 7, none⟩ = some (.slice A1_7 l1_7.length c1_7) := (blk_cell BK123.out 7).trans rfl
                      have hcz17_8 : w5.cell? ⟨gb123, 8, none⟩ = some (.int .i64 a1_8) := (blk_cell BK123.out 8).trans rfl
                      have hcz17_9 : w5.cell? ⟨gb123, 9, none⟩ = some (.int .i64 a1_9) := (blk_cell BK123.out 9).trans rfl
                      have hfz17_0 := blk_frozen BK123.out 0
                      have hfz17_1 := blk_frozen BK123.out 1
                      have hfz17_2 := blk_frozen BK123.out 2
                      have hfz17_3 := blk_frozen BK123.out 3
                      have hfz17_4 := blk_frozen BK123.out 4
                      have hfz17_5 := blk_frozen BK123.out 5
                      have hfz17_6 := blk_frozen BK123.out 6
                      have hfz17_7 := blk_frozen BK123.out 7
                      have hfz17_8 := blk_frozen BK123.out 8
                      have hfz17_9 := blk_frozen BK123.out 9
                      go_wp2
                      repeat (go_quiet (fail); try go_wp2)
                      go_meet
                      case rel => exact ⟨_, (((l0_7.length : Int) != (l1_7.length : Int))), (by first | rfl | (simp; done) | (simp [*]; done)), H', ⟨by first | omega | exact Nat.le_refl _⟩, ⟨by (with_reducible repeat (first | refine blk_drewN ?_ _ | refine blk_drew ?_ | refine blk_alloc ?_ _)); exact BK122.out⟩, ⟨by (with_reducible repeat (first | refine blk_drewN ?_ _ | refine blk_drew ?_ | refine blk_alloc ?_ _)); exact BK123.out⟩, ⟨by repeat (first | (with_reducible first | exact HB.out | apply below_alloc | apply pw_below_drewN | apply below_drew1 | refine below_set ?_ GE122.out | refine below_set ?_ GE123.out) | exact HB.out)⟩⟩
                    · rw [if_neg c14] at H
                      have c14b0 : ((l0_6.length : Int) == (l1_6.length : Int)) = false := beq_eq_false_iff_ne.mpr c14
                      have c14b1 : ((l0_6.length : Int) != (l1_6.length : Int)) = true := bne_iff_ne.mpr c14
                      have c14b2 : (l0_6.length == l1_6.length) = false := by first | simpa using c14 | (simp at c14 ⊢; omega)
                      have H' := Aside0.mk H
                      clear H
                      have hnb18 := NB122_123.out
                      have hnc18 := NB123_122.out
                      have hcz19_0 : w5.cell? ⟨gb122, 0, none⟩ = some (.int .i64 a0_0) := (blk_cell BK122.out 0).trans rfl
                      have hcz19_1 : w5.cell? ⟨gb122, 1, none⟩ = some (.string a0_1) := (blk_cell BK122.out 1).trans rfl
                      have hcz19_2 : w5.cell? ⟨gb122, 2, none⟩ = some (.string a0_2) := (blk_cell BK122.out 2).trans rfl
                      have hcz19_3 : w5.cell? ⟨gb122, 3, none⟩ = some (.int .i64 a0_3) := (blk_cell BK122.out 3).trans rfl
                      have hcz19_4 : w5.cell? ⟨gb122, 4, none⟩ = some (.int .i64 a0_4) := (blk_cell BK122.out 4).trans rfl
                      have hcz19_5 : w5.cell? ⟨gb122, 5, none⟩ = some (.int .i64 a0_5) := (blk_cell BK122.out 5).trans rfl
                      have hcz19_6 : w5.cell? ⟨gb122, 6, none⟩ = some (.slice A0_6 l0_6.length c0_6) := (blk_cell BK122.out 6).trans rfl
                      have hcz19_7 : w5.cell? ⟨gb122, 7, none⟩ = some (.slice A0_7 l0_7.length c0_7) := (blk_cell BK122.out 7).trans rfl
                      have hcz19_8 : w5.cell? ⟨gb122, 8, none⟩ = some (.int .i64 a0_8) := (blk_cell BK122.out 8).trans rfl
                      have hcz19_9 : w5.cell? ⟨gb122, 9, none⟩ = some (.int .i64 a0_9) := (blk_cell BK122.out 9).trans rfl
                      have hfz19_0 := blk_frozen BK122.out 0
                      have hfz19_1 := blk_frozen BK122.out 1
                      have hfz19_2 := blk_frozen BK122.out 2
                      have hfz19_3 := blk_frozen BK122.out 3
                      have hfz19_4 := blk_frozen BK122.out 4
                      have hfz19_5 := blk_frozen BK122.out 5
                      have hfz19_6 := blk_frozen BK122.out 6
                      have hfz19_7 := blk_frozen BK122.out 7
                      have hfz19_8 := blk_frozen BK122.out 8
                      have hfz19_9 := blk_frozen BK122.out 9
                      have hcz20_0 : w5.cell? ⟨gb123, 0, none⟩ = some (.int .i64 a1_0) := (blk_cell BK123.out 0).trans rfl
                      have hcz20_1 : w5.cell? ⟨gb123, 1, none⟩ = some (.string a1_1) := (blk_cell BK123.out 1).trans rfl
                      have hcz20_2 : w5.cell? ⟨gb123, 2, none⟩ = some (.string a1_2) := (blk_cell BK123.out 2).trans rfl
                      have hcz20_3 : w5.cell? ⟨gb123, 3, none⟩ = some (.int .i64 a1_3) := (blk_cell BK123.out 3).trans rfl
                      have hcz20_4 : w5.cell? ⟨gb123, 4, none⟩ = some (.int .i64 a1_4) := (blk_cell BK123.out 4).trans rfl
                      have hcz20_5 : w5.cell? ⟨gb123, 5, none⟩ = some (.int .i64 a1_5) := (blk_cell BK123.out 5).trans rfl
                      have hcz20_6 : w5.cell? ⟨gb123, 6, none⟩ = some (.slice A1_6 l1_6.length c1_6) := (blk_cell BK123.out 6).trans rfl
                      have hcz20_7 : w5.cell? ⟨gb123, 7, none⟩ = some (.slice A1_7 l1_7.length c1_7) := (blk_cell BK123.out 7).trans rfl
                      have hcz20_8 : w5.cell? ⟨gb123, 8, none⟩ = some (.int .i64 a1_8) := (blk_cell BK123.out 8).trans rfl
                      have hcz20_9 : w5.cell? ⟨gb123, 9, none⟩ = some (.int .i64 a1_9) := (blk_cell BK123.out 9).trans rfl
                      have hfz20_0 := blk_frozen BK123.out 0
                      have hfz20_1 := blk_frozen BK123.out 1
                      have hfz20_2 := blk_frozen BK123.out 2
                      have hfz20_3 := blk_frozen BK123.out 3
                      have hfz20_4 := blk_frozen BK123.out 4
                      have hfz20_5 := blk_frozen BK123.out 5
                      have hfz20_6 := blk_frozen BK123.out 6
                      have hfz20_7 := blk_frozen BK123.out 7
                      have hfz20_8 := blk_frozen BK123.out 8
                      have hfz20_9 := blk_frozen BK123.out 9
                      go_wp2
                      repeat (go_quiet (fail); try go_wp2)
                      go_meet
                      case rel => exact ⟨_, (true), (by first | rfl | (simp; done) | (simp [*]; done)), H', ⟨by first | omega | exact Nat.le_refl _⟩, ⟨by (with_reducible repeat (first | refine blk_drewN ?_ _ | refine blk_drew ?_ | refine blk_alloc ?_ _)); exact BK122.out⟩, ⟨by (with_reducible repeat (first | refine blk_drewN ?_ _ | refine blk_drew ?_ | refine blk_alloc ?_ _)); exact BK123.out⟩, ⟨by repeat (first | (with_reducible first | exact HB.out | apply below_alloc | apply pw_below_drewN | apply below_drew1 | refine below_set ?_ GE122.out | refine below_set ?_ GE123.out) | exact HB.out)⟩⟩
                  · rw [if_neg c13] at H
                    have c13b0 : (a0_9 == a1_9) = false := beq_eq_false_iff_ne.mpr c13
                    have c13b1 : (a0_9 != a1_9) = true := bne_iff_ne.mpr c13
                    have H' := Aside0.mk H
                    clear H
                    have hnb21 := NB122_123.out
                    have hnc21 := NB123_122.out
                    have hcz22_0 : w5.cell? ⟨gb122, 0, none⟩ = some (.int .i64 a0_0) := (blk_cell BK122.out 0).trans rfl
                    have hcz22_1 : w5.cell? ⟨gb122, 1, none⟩ = some (.string a0_1) := (blk_cell BK122.out 1).trans rfl
                    have hcz22_2 : w5.cell? ⟨gb122, 2, none⟩ = some (.string a0_2) := (blk_cell BK122.out 2).trans rfl
                    have hcz22_3 : w5.cell? ⟨gb122, 3, none⟩ = some (.int .i64 a0_3) := (blk_cell BK122.out 3).trans rfl
                    have hcz22_4 : w5.cell? ⟨gb122, 4, none⟩ = some (.int .i64 a0_4) := (blk_cell BK122.out 4).trans rfl
                    have hcz22_5 : w5.cell? ⟨gb122, 5, none⟩ = some (.int .i64 a0_5) := (blk_cell BK122.out 5).trans rfl
                    have hcz22_6 : w5.cell? ⟨gb122, 6, none⟩ = some (.slice A0_6 l0_6.length c0_6) := (blk_cell BK122.out 6).trans rfl
                    have hcz22_7 : w5.cell? ⟨gb122, 7, none⟩ = some (.slice A0_7 l0_7.length c0_7) := (blk_cell BK122.out 7).trans rfl
                    have hcz22_8 : w5.cell? ⟨gb122, 8, none⟩ = some (.int .i64 a0_8) := (blk_cell BK122.out 8).trans rfl
                    have hcz22_9 : w5.cell? ⟨gb122, 9, none⟩ = some (.int .i64 a0_9) := (blk_cell BK122.out 9).trans rfl
                    have hfz22_0 := blk_frozen BK122.out 0
                    have hfz22_1 := blk_frozen BK122.out 1
                    have hfz22_2 := blk_frozen BK122.out 2
                    have hfz22_3 := blk_frozen BK122.out 3
                    have hfz22_4 := blk_frozen BK122.out 4
                    have hfz22_5 := blk_frozen BK122.out 5
                    have hfz22_6 := blk_frozen BK122.out 6
                    have hfz22_7 := blk_frozen BK122.out 7
                    have hfz22_8 := blk_frozen BK122.out 8
                    have hfz22_9 := blk_frozen BK122.out 9
                    have hcz23_0 : w5.cell? ⟨gb123, 0, none⟩ = some (.int .i64 a1_0) := (blk_cell BK123.out 0).trans rfl
                    have hcz23_1 : w5.cell? ⟨gb123, 1, none⟩ = some (.string a1_1) := (blk_cell BK123.out 1).trans rfl
                    have hcz23_2 : w5.cell? ⟨gb123, 2, none⟩ = some (.string a1_2) := (blk_cell BK123.out 2).trans rfl
                    have hcz23_3 : w5.cell? ⟨gb123, 3, none⟩ = some (.int .i64 a1_3) := (blk_cell BK123.out 3).trans rfl
                    have hcz23_4 : w5.cell? ⟨gb123, 4, none⟩ = some (.int .i64 a1_4) := (blk_cell BK123.out 4).trans rfl
                    have hcz23_5 : w5.cell? ⟨gb123, 5, none⟩ = some (.int .i64 a1_5) := (blk_cell BK123.out 5).trans rfl
                    have hcz23_6 : w5.cell? ⟨gb123, 6, none⟩ = some (.slice A1_6 l1_6.length c1_6) := (blk_cell BK123.out 6).trans rfl
                    have hcz23_7 : w5.cell? ⟨gb123, 7, none⟩ = some (.slice A1_7 l1_7.length c1_7) := (blk_cell BK123.out 7).trans rfl
                    have hcz23_8 : w5.cell? ⟨gb123, 8, none⟩ = some (.int .i64 a1_8) := (blk_cell BK123.out 8).trans rfl
                    have hcz23_9 : w5.cell? ⟨gb123, 9, none⟩ = some (.int .i64 a1_9) := (blk_cell BK123.out 9).trans rfl
                    have hfz23_0 := blk_frozen BK123.out 0
                    have hfz23_1 := blk_frozen BK123.out 1
                    have hfz23_2 := blk_frozen BK123.out 2
                    have hfz23_3 := blk_frozen BK123.out 3
                    have hfz23_4 := blk_frozen BK123.out 4
                    have hfz23_5 := blk_frozen BK123.out 5
                    have hfz23_6 := blk_frozen BK123.out 6
                    have hfz23_7 := blk_frozen BK123.out 7
                    have hfz23_8 := blk_frozen BK123.out 8
                    have hfz23_9 := blk_frozen BK123.out 9
                    go_wp2
                    repeat (go_quiet (fail); try go_wp2)
                    go_meet
                    case rel => exact ⟨_, (true), (by first | rfl | (simp; done) | (simp [*]; done)), H', ⟨by first | omega | exact Nat.le_refl _⟩, ⟨by (with_reducible repeat (first | refine blk_drewN ?_ _ | refine blk_drew ?_ | refine blk_alloc ?_ _)); exact BK122.out⟩, ⟨by (with_reducible repeat (first | refine blk_drewN ?_ _ | refine blk_drew ?_ | refine blk_alloc ?_ _)); exact BK123.out⟩, ⟨by repeat (first | (with_reducible first | exact HB.out | apply below_alloc | apply pw_below_drewN | apply below_drew1 | refine below_set ?_ GE122.out | refine below_set ?_ GE123.out) | exact HB.out)⟩⟩
                · rw [if_neg c12] at H
                  have c12b0 : (a0_8 == a1_8) = false := beq_eq_false_iff_ne.mpr c12
                  have c12b1 : (a0_8 != a1_8) = true := bne_iff_ne.mpr c12
                  have H' := Aside0.mk H
                  clear H
                  have hnb24 := NB122_123.out
                  have hnc24 := NB123_122.out
                  have hcz25_0 : w5.cell? ⟨gb122, 0, none⟩ = some (.int .i64 a0_0) := (blk_cell BK122.out 0).trans rfl
                  have hcz25_1 : w5.cell? ⟨gb122, 1, none⟩ = some (.string a0_1) := (blk_cell BK122.out 1).trans rfl
                  have hcz25_2 : w5.cell? ⟨gb122, 2, none⟩ = some (.string a0_2) := (blk_cell BK122.out 2).trans rfl
                  have hcz25_3 : w5.cell? ⟨gb122, 3, none⟩ = some (.int .i64 a0_3) := (blk_cell BK122.out 3).trans rfl
                  have hcz25_4 : w5.cell? ⟨gb122, 4, none⟩ = some (.int .i64 a0_4) := (blk_cell BK122.out 4).trans rfl
                  have hcz25_5 : w5.cell? ⟨gb122, 5, none⟩ = some (.int .i64 a0_5) := (blk_cell BK122.out 5).trans rfl
                  have hcz25_6 : w5.cell? ⟨gb122, 6, none⟩ = some (.slice A0_6 l0_6.length c0_6) := (blk_cell BK122.out 6).trans rfl
                  have hcz25_7 : w5.cell? ⟨gb122, 7, none⟩ = some (.slice A0_7 l0_7.length c0_7) := (blk_cell BK122.out 7).trans rfl
                  have hcz25_8 : w5.cell? ⟨gb122, 8, none⟩ = some (.int .i64 a0_8) := (blk_cell BK122.out 8).trans rfl
                  have hcz25_9 : w5.cell? ⟨gb122, 9, none⟩ = some (.int .i64 a0_9) := (blk_cell BK122.out 9).trans rfl
                  have hfz25_0 := blk_frozen BK122.out 0
                  have hfz25_1 := blk_frozen BK122.out 1
                  have hfz25_2 := blk_frozen BK122.out 2
                  have hfz25_3 := blk_frozen BK122.out 3
                  have hfz25_4 := blk_frozen BK122.out 4
                  have hfz25_5 := blk_frozen BK122.out 5
                  have hfz25_6 := blk_frozen BK122.out 6
                  have hfz25_7 := blk_frozen BK122.out 7
                  have hfz25_8 := blk_frozen BK122.out 8
                  have hfz25_9 := blk_frozen BK122.out 9
                  have hcz26_0 : w5.cell? ⟨gb123, 0, none⟩ = some (.int .i64 a1_0) := (blk_cell BK123.out 0).trans rfl
                  have hcz26_1 : w5.cell? ⟨gb123, 1, none⟩ = some (.string a1_1) := (blk_cell BK123.out 1).trans rfl
                  have hcz26_2 : w5.cell? ⟨gb123, 2, none⟩ = some (.string a1_2) := (blk_cell BK123.out 2).trans rfl
                  have hcz26_3 : w5.cell? ⟨gb123, 3, none⟩ = some (.int .i64 a1_3) := (blk_cell BK123.out 3).trans rfl
                  have hcz26_4 : w5.cell? ⟨gb123, 4, none⟩ = some (.int .i64 a1_4) := (blk_cell BK123.out 4).trans rfl
                  have hcz26_5 : w5.cell? ⟨gb123, 5, none⟩ = some (.int .i64 a1_5) := (blk_cell BK123.out 5).trans rfl
                  have hcz26_6 : w5.cell? ⟨gb123, 6, none⟩ = some (.slice A1_6 l1_6.length c1_6) := (blk_cell BK123.out 6).trans rfl
                  have hcz26_7 : w5.cell? ⟨gb123, 7, none⟩ = some (.slice A1_7 l1_7.length c1_7) := (blk_cell BK123.out 7).trans rfl
                  have hcz26_8 : w5.cell? ⟨gb123, 8, none⟩ = some (.int .i64 a1_8) := (blk_cell BK123.out 8).trans rfl
                  have hcz26_9 : w5.cell? ⟨gb123, 9, none⟩ = some (.int .i64 a1_9) := (blk_cell BK123.out 9).trans rfl
                  have hfz26_0 := blk_frozen BK123.out 0
                  have hfz26_1 := blk_frozen BK123.out 1
                  have hfz26_2 := blk_frozen BK123.out 2
                  have hfz26_3 := blk_frozen BK123.out 3
                  have hfz26_4 := blk_frozen BK123.out 4
                  have hfz26_5 := blk_frozen BK123.out 5
                  have hfz26_6 := blk_frozen BK123.out 6
                  have hfz26_7 := blk_frozen BK123.out 7
                  have hfz26_8 := blk_frozen BK123.out 8
                  have hfz26_9 := blk_frozen BK123.out 9
                  go_wp2
                  repeat (go_quiet (fail); try go_wp2)
                  go_meet
                  case rel => exact ⟨_, (true), (by first | rfl | (simp; done) | (simp [*]; done)), H', ⟨by first | omega | exact Nat.le_refl _⟩, ⟨by (with_reducible repeat (first | refine blk_drewN ?_ _ | refine blk_drew ?_ | refine blk_alloc ?_ _)); exact BK122.out⟩, ⟨by (with_reducible repeat (first | refine blk_drewN ?_ _ | refine blk_drew ?_ | refine blk_alloc ?_ _)); exact BK123.out⟩, ⟨by repeat (first | (with_reducible first | exact HB.out | apply below_alloc | apply pw_below_drewN | apply below_drew1 | refine below_set ?_ GE122.out | refine below_set ?_ GE123.out) | exact HB.out)⟩⟩
              · rw [if_neg c11] at H
                have c11b0 : (a0_5 == a1_5) = false := beq_eq_false_iff_ne.mpr c11
                have c11b1 : (a0_5 != a1_5) = true := bne_iff_ne.mpr c11
                have H' := Aside0.mk H
                clear H
                have hnb27 := NB122_123.out
                have hnc27 := NB123_122.out
                have hcz28_0 : w5.cell? ⟨gb122, 0, none⟩ = some (.int .i64 a0_0) := (blk_cell BK122.out 0).trans rfl
                have hcz28_1 : w5.cell? ⟨gb122, 1, none⟩ = some (.string a0_1) := (blk_cell BK122.out 1).trans rfl
                have hcz28_2 : w5.cell? ⟨gb122, 2, none⟩ = some (.string a0_2) := (blk_cell BK122.out 2).trans rfl
                have hcz28_3 : w5.cell? ⟨gb122, 3, none⟩ = some (.int .i64 a0_3) := (blk_cell BK122.out 3).trans rfl
                have hcz28_4 : w5.cell? ⟨gb122, 4, none⟩ = some (.int .i64 a0_4) := (blk_cell BK122.out 4).trans rfl
                have hcz28_5 : w5.cell? ⟨gb122, 5, none⟩ = some (.int .i64 a0_5) := (blk_cell BK122.out 5).trans rfl
                have hcz28_6 : w5.cell? ⟨gb122, 6, none⟩ = some (.slice A0_6 l0_6.length c0_6) := (blk_cell BK122.out 6).trans rfl
                have hcz28_7 : w5.cell? ⟨gb122, 7, none⟩ = some (.slice A0_7 l0_7.length c0_7) := (blk_cell BK122.out 7).trans rfl
                have hcz28_8 : w5.cell? ⟨gb122, 8, none⟩ = some (.int .i64 a0_8) := (blk_cell BK122.out 8).trans rfl
                have hcz28_9 : w5.cell? ⟨gb122, 9, none⟩ = some (.int .i64 a0_9) := (blk_cell BK122.out 9).trans rfl
                have hfz28_0 := blk_frozen BK122.out 0
                have hfz28_1 := blk_frozen BK122.out 1
                have hfz28_2 := blk_frozen BK122.out 2
                have hfz28_3 := blk_frozen BK122.out 3
                have hfz28_4 := blk_frozen BK122.out 4
                have hfz28_5 := blk_frozen BK122.out 5
                have hfz28_6 := blk_frozen BK122.out 6
                have hfz28_7 := blk_frozen BK122.out 7
                have hfz28_8 := blk_frozen BK122.out 8
                have hfz28_9 := blk_frozen BK122.out 9
                have hcz29_0 : w5.cell? ⟨gb123, 0, none⟩ = some (.int .i64 a1_0) := (blk_cell BK123.out 0).trans rfl
                have hcz29_1 : w5.cell? ⟨gb123, 1, none⟩ = some (.string a1_1) := (blk_cell BK123.out 1).trans rfl
                have hcz29_2 : w5.cell? ⟨gb123, 2, none⟩ = some (.string a1_2) := (blk_cell BK123.out 2).trans rfl
                have hcz29_3 : w5.cell? ⟨gb123, 3, none⟩ = some (.int .i64 a1_3) := (blk_cell BK123.out 3).trans rfl
                have hcz29_4 : w5.cell? ⟨gb123, 4, none⟩ = some (.int .i64 a1_4) := (blk_cell BK123.out 4).trans rfl
                have hcz29_5 : w5.cell? ⟨gb123, 5, none⟩ = some (.int .i64 a1_5) := (blk_cell BK123.out 5).trans rfl
                have hcz29_6 : w5.cell? ⟨gb123, 6, none⟩ = some (.slice A1_6 l1_6.length c1_6) := (blk_cell BK123.out 6).trans rfl
                have hcz29_7 : w5.cell? ⟨gb123, 7, none⟩ = some (.slice A1_7 l1_7.length c1_7) := (blk_cell BK123.out 7).trans rfl
                have hcz29_8 : w5.cell? ⟨gb123, 8, none⟩ = some (.int .i64 a1_8) := (blk_cell BK123.out 8).trans rfl
                have hcz29_9 : w5.cell? ⟨gb123, 9, none⟩ = some (.int .i64 a1_9) := (blk_cell BK123.out 9).trans rfl
                have hfz29_0 := blk_frozen BK123.out 0
                have hfz29_1 := blk_frozen BK123.out 1
                have hfz29_2 := blk_frozen BK123.out 2
                have hfz29_3 := blk_frozen BK123.out 3
                have hfz29_4 := blk_frozen BK123.out 4
                have hfz29_5 := blk_frozen BK123.out 5
                have hfz29_6 := blk_frozen BK123.out 6
                have hfz29_7 := blk_frozen BK123.out 7
                have hfz29_8 := blk_frozen BK123.out 8
                have hfz29_9 := blk_frozen BK123.out 9
                go_wp2
                repeat (go_quiet (fail); try go_wp2)
                go_meet
                case rel => exact ⟨_, (true), (by first | rfl | (simp; done) | (simp [*]; done)), H', ⟨by first | omega | exact Nat.le_refl _⟩, ⟨by (with_reducible repeat (first | refine blk_drewN ?_ _ | refine blk_drew ?_ | refine blk_alloc ?_ _)); exact BK122.out⟩, ⟨by (with_reducible repeat (first | refine blk_drewN ?_ _ | refine blk_drew ?_ | refine blk_alloc ?_ _)); exact BK123.out⟩, ⟨by repeat (first | (with_reducible first | exact HB.out | apply below_alloc | apply pw_below_drewN | apply below_drew1 | refine below_set ?_ GE122.out | refine below_set ?_ GE123.out) | exact HB.out)⟩⟩
            · rw [if_neg c10] at H
              have c10b0 : (a0_4 == a1_4) = false := beq_eq_false_iff_ne.mpr c10
              have c10b1 : (a0_4 != a1_4) = true := bne_iff_ne.mpr c10
              have H' := Aside0.mk H
              clear H
              have hnb30 := NB122_123.out
              have hnc30 := NB123_122.out
              have hcz31_0 : w5.cell? ⟨gb122, 0, none⟩ = some (.int .i64 a0_0) := (blk_cell BK122.out 0).trans rfl
              have hcz31_1 : w5.cell? ⟨gb122, 1, none⟩ = some (.string a0_1) := (blk_cell BK122.out 1).trans rfl
              have hcz31_2 : w5.cell? ⟨gb122, 2, none⟩ = some (.string a0_2) := (blk_cell BK122.out 2).trans rfl
              have hcz31_3 : w5.cell? ⟨gb122, 3, none⟩ = some (.int .i64 a0_3) := (blk_cell BK122.out 3).trans rfl
              have hcz31_4 : w5.cell? ⟨gb122, 4, none⟩ = some (.int .i64 a0_4) := (blk_cell BK122.out 4).trans rfl
              have hcz31_5 : w5.cell? ⟨gb122, 5, none⟩ = some (.int .i64 a0_5) := (blk_cell BK122.out 5).trans rfl
              have hcz31_6 : w5.cell? ⟨gb122, 6, none⟩ = some (.slice A0_6 l0_6.length c0_6) := (blk_cell BK122.out 6).trans rfl
              have hcz31_7 : w5.cell? ⟨gb122, 7, none⟩ = some (.slice A0_7 l0_7.length c0_7) := (blk_cell BK122.out 7).trans rfl
              have hcz31_8 : w5.cell? ⟨gb122, 8, none⟩ = some (.int .i64 a0_8) := (blk_cell BK122.out 8).trans rfl
              have hcz31_9 : w5.cell? ⟨gb122, 9, none⟩ = some (.int .i64 a0_9) := (blk_cell BK122.out 9).trans rfl
              have hfz31_0 := blk_frozen BK122.out 0
              have hfz31_1 := blk_frozen BK122.out 1
              have hfz31_2 := blk_frozen BK122.out 2
              have hfz31_3 := blk_frozen BK122.out 3
              have hfz31_4 := blk_frozen BK122.out 4
              have hfz31_5 := blk_frozen BK122.out 5
              have hfz31_6 := blk_frozen BK122.out 6
              have hfz31_7 := blk_frozen BK122.out 7
              have hfz31_8 := blk_frozen BK122.out 8
              have hfz31_9 := blk_frozen BK122.out 9
              have hcz32_0 : w5.cell? ⟨gb123, 0, none⟩ = some (.int .i64 a1_0) := (blk_cell BK123.out 0).trans rfl
              have hcz32_1 : w5.cell? ⟨gb123, 1, none⟩ = some (.string a1_1) := (blk_cell BK123.out 1).trans rfl
              have hcz32_2 : w5.cell? ⟨gb123, 2, none⟩ = some (.string a1_2) := (blk_cell BK123.out 2).trans rfl
              have hcz32_3 : w5.cell? ⟨gb123, 3, none⟩ = some (.int .i64 a1_3) := (blk_cell BK123.out 3).trans rfl
              have hcz32_4 : w5.cell? ⟨gb123, 4, none⟩ = some (.int .i64 a1_4) := (blk_cell BK123.out 4).trans rfl
              have hcz32_5 : w5.cell? ⟨gb123, 5, none⟩ = some (.int .i64 a1_5) := (blk_cell BK123.out 5).trans rfl
              have hcz32_6 : w5.cell? ⟨gb123, 6, none⟩ = some (.slice A1_6 l1_6.length c1_6) := (blk_cell BK123.out 6).trans rfl
              have hcz32_7 : w5.cell? ⟨gb123, 7, none⟩ = some (.slice A1_7 l1_7.length c1_7) := (blk_cell BK123.out 7).trans rfl
              have hcz32_8 : w5.cell? ⟨gb123, 8, none⟩ = some (.int .i64 a1_8) := (blk_cell BK123.out 8).trans rfl
              have hcz32_9 : w5.cell? ⟨gb123, 9, none⟩ = some (.int .i64 a1_9) := (blk_cell BK123.out 9).trans rfl
              have hfz32_0 := blk_frozen BK123.out 0
              have hfz32_1 := blk_frozen BK123.out 1
              have hfz32_2 := blk_frozen BK123.out 2
              have hfz32_3 := blk_frozen BK123.out 3
              have hfz32_4 := blk_frozen BK123.out 4
              have hfz32_5 := blk_frozen BK123.out 5
              have hfz32_6 := blk_frozen BK123.out 6
              have hfz32_7 := blk_frozen BK123.out 7
              have hfz32_8 := blk_frozen BK123.out 8
              have hfz32_9 := blk_frozen BK123.out 9
              go_wp2
              repeat (go_quiet (fail); try go_wp2)
              go_meet
              case rel => exact ⟨_, (true), (by first | rfl | (simp; done) | (simp [*]; done)), H', ⟨by first | omega | exact Nat.le_refl _⟩, ⟨by (with_reducible repeat (first | refine blk_drewN ?_ _ | refine blk_drew ?_ | refine blk_alloc ?_ _)); exact BK122.out⟩, ⟨by (with_reducible repeat (first | refine blk_drewN ?_ _ | refine blk_drew ?_ | refine blk_alloc ?_ _)); exact BK123.out⟩, ⟨by repeat (first | (with_reducible first | exact HB.out | apply below_alloc | apply pw_below_drewN | apply below_drew1 | refine below_set ?_ GE122.out | refine below_set ?_ GE123.out) | exact HB.out)⟩⟩
          · rw [if_neg c9] at H
            have c9b0 : (a0_3 == a1_3) = false := beq_eq_false_iff_ne.mpr c9
            have c9b1 : (a0_3 != a1_3) = true := bne_iff_ne.mpr c9
            have H' := Aside0.mk H
            clear H
            have hnb33 := NB122_123.out
            have hnc33 := NB123_122.out
            have hcz34_0 : w5.cell? ⟨gb122, 0, none⟩ = some (.int .i64 a0_0) := (blk_cell BK122.out 0).trans rfl
            have hcz34_1 : w5.cell? ⟨gb122, 1, none⟩ = some (.string a0_1) := (blk_cell BK122.out 1).trans rfl
            have hcz34_2 : w5.cell? ⟨gb122, 2, none⟩ = some (.string a0_2) := (blk_cell BK122.out 2).trans rfl
            have hcz34_3 : w5.cell? ⟨gb122, 3, none⟩ = some (.int .i64 a0_3) := (blk_cell BK122.out 3).trans rfl
            have hcz34_4 : w5.cell? ⟨gb122, 4, none⟩ = some (.int .i64 a0_4) := (blk_cell BK122.out 4).trans rfl
            have hcz34_5 : w5.cell? ⟨gb122, 5, none⟩ = some (.int .i64 a0_5) := (blk_cell BK122.out 5).trans rfl
            have hcz34_6 : w5.cell? ⟨gb122, 6, none⟩ = some (.slice A0_6 l0_6.length c0_6) := (blk_cell BK122.out 6).trans rfl
            have hcz34_7 : w5.cell? ⟨gb122, 7, none⟩ = some (.slice A0_7 l0_7.length c0_7) := (blk_cell BK122.out 7).trans rfl
            have hcz34_8 : w5.cell? ⟨gb122, 8, none⟩ = some (.int .i64 a0_8) := (blk_cell BK122.out 8).trans rfl
            have hcz34_9 : w5.cell? ⟨gb122, 9, none⟩ = some (.int .i64 a0_9) := (blk_cell BK122.out 9).trans rfl
            have hfz34_0 := blk_frozen BK122.out 0
            have hfz34_1 := blk_frozen BK122.out 1
            have hfz34_2 := blk_frozen BK122.out 2
            have hfz34_3 := blk_frozen BK122.out 3
            have hfz34_4 := blk_frozen BK122.out 4
            have hfz34_5 := blk_frozen BK122.out 5
            have hfz34_6 := blk_frozen BK122.out 6
            have hfz34_7 := blk_frozen BK122.out 7
            have hfz34_8 := blk_frozen BK122.out 8
            have hfz34_9 := blk_frozen BK122.out 9
            have hcz35_0 : w5.cell? ⟨gb123, 0, none⟩ = some (.int .i64 a1_0) := (blk_cell BK123.out 0).trans rfl
            have hcz35_1 : w5.cell? ⟨gb123, 1, none⟩ = some (.string a1_1) := (blk_cell BK123.out 1).trans rfl
            have hcz35_2 : w5.cell? ⟨gb123, 2, none⟩ = some (.string a1_2) := (blk_cell BK123.out 2).trans rfl
            have hcz35_3 : w5.cell? ⟨gb123, 3, none⟩ = some (.int .i64 a1_3) := (blk_cell BK123.out 3).trans rfl
            have hcz35_4 : w5.cell? ⟨gb123, 4, none⟩ = some (.int .i64 a1_4) := (blk_cell BK123.out 4).trans rfl
            have hcz35_5 : w5.cell? ⟨gb123, 5, none⟩ = some (.int .i64 a1_5) := (blk_cell BK123.out 5).trans rfl
            have hcz35_6 : w5.cell? ⟨gb123, 6, none⟩ = some (.slice A1_6 l1_6.length c1_6) := (blk_cell BK123.out 6).trans rfl
            have hcz35_7 : w5.cell? ⟨gb123, 7, none⟩ = some (.slice A1_7 l1_7.length c1_7) := (blk_cell BK123.out 7).trans rfl
            have hcz35_8 : w5.cell? ⟨gb123, 8, none⟩ = some (.int .i64 a1_8) := (blk_cell BK123.out 8).trans rfl
            have hcz35_9 : w5.cell? ⟨gb123, 9, none⟩ = some (.int .i64 a1_9) := (blk_cell BK123.out 9).trans rfl
            have hfz35_0 := blk_frozen BK123.out 0
            have hfz35_1 := blk_frozen BK123.out 1
            have hfz35_2 := blk_frozen BK123.out 2
            have hfz35_3 := blk_frozen BK123.out 3
            have hfz35_4 := blk_frozen BK123.out 4
            have hfz35_5 := blk_frozen BK123.out 5
            have hfz35_6 := blk_frozen BK123.out 6
            have hfz35_7 := blk_frozen BK123.out 7
            have hfz35_8 := blk_frozen BK123.out 8
            have hfz35_9 := blk_frozen BK123.out 9
            go_wp2
            repeat (go_quiet (fail); try go_wp2)
            go_meet
            case rel => exact ⟨_, (true), (by first | rfl | (simp; done) | (simp [*]; done)), H', ⟨by first | omega | exact Nat.le_refl _⟩, ⟨by (with_reducible repeat (first | refine blk_drewN ?_ _ | refine blk_drew ?_ | refine blk_alloc ?_ _)); exact BK122.out⟩, ⟨by (with_reducible repeat (first | refine blk_drewN ?_ _ | refine blk_drew ?_ | refine blk_alloc ?_ _)); exact BK123.out⟩, ⟨by repeat (first | (with_reducible first | exact HB.out | apply below_alloc | apply pw_below_drewN | apply below_drew1 | refine below_set ?_ GE122.out | refine below_set ?_ GE123.out) | exact HB.out)⟩⟩
        · rw [if_neg c8] at H
          have c8b0 : (a0_2.toList == a1_2.toList) = false := beq_eq_false_iff_ne.mpr c8
          have c8b1 : (a0_2.toList != a1_2.toList) = true := bne_iff_ne.mpr c8
          have H' := Aside0.mk H
          clear H
          have hnb36 := NB122_123.out
          have hnc36 := NB123_122.out
          have hcz37_0 : w5.cell? ⟨gb122, 0, none⟩ = some (.int .i64 a0_0) := (blk_cell BK122.out 0).trans rfl
          have hcz37_1 : w5.cell? ⟨gb122, 1, none⟩ = some (.string a0_1) := (blk_cell BK122.out 1).trans rfl
          have hcz37_2 : w5.cell? ⟨gb122, 2, none⟩ = some (.string a0_2) := (blk_cell BK122.out 2).trans rfl
          have hcz37_3 : w5.cell? ⟨gb122, 3, none⟩ = some (.int .i64 a0_3) := (blk_cell BK122.out 3).trans rfl
          have hcz37_4 : w5.cell? ⟨gb122, 4, none⟩ = some (.int .i64 a0_4) := (blk_cell BK122.out 4).trans rfl
          have hcz37_5 : w5.cell? ⟨gb122, 5, none⟩ = some (.int .i64 a0_5) := (blk_cell BK122.out 5).trans rfl
          have hcz37_6 : w5.cell? ⟨gb122, 6, none⟩ = some (.slice A0_6 l0_6.length c0_6) := (blk_cell BK122.out 6).trans rfl
          have hcz37_7 : w5.cell? ⟨gb122, 7, none⟩ = some (.slice A0_7 l0_7.length c0_7) := (blk_cell BK122.out 7).trans rfl
          have hcz37_8 : w5.cell? ⟨gb122, 8, none⟩ = some (.int .i64 a0_8) := (blk_cell BK122.out 8).trans rfl
          have hcz37_9 : w5.cell? ⟨gb122, 9, none⟩ = some (.int .i64 a0_9) := (blk_cell BK122.out 9).trans rfl
          have hfz37_0 := blk_frozen BK122.out 0
          have hfz37_1 := blk_frozen BK122.out 1
          have hfz37_2 := blk_frozen BK122.out 2
          have hfz37_3 := blk_frozen BK122.out 3
          have hfz37_4 := blk_frozen BK122.out 4
          have hfz37_5 := blk_frozen BK122.out 5
          have hfz37_6 := blk_frozen BK122.out 6
          have hfz37_7 := blk_frozen BK122.out 7
          have hfz37_8 := blk_frozen BK122.out 8
          have hfz37_9 := blk_frozen BK122.out 9
          have hcz38_0 : w5.cell? ⟨gb123, 0, none⟩ = some (.int .i64 a1_0) := (blk_cell BK123.out 0).trans rfl
          have hcz38_1 : w5.cell? ⟨gb123, 1, none⟩ = some (.string a1_1) := (blk_cell BK123.out 1).trans rfl
          have hcz38_2 : w5.cell? ⟨gb123, 2, none⟩ = some (.string a1_2) := (blk_cell BK123.out 2).trans rfl
          have hcz38_3 : w5.cell? ⟨gb123, 3, none⟩ = some (.int .i64 a1_3) := (blk_cell BK123.out 3).trans rfl
          have hcz38_4 : w5.cell? ⟨gb123, 4, none⟩ = some (.int .i64 a1_4) := (blk_cell BK123.out 4).trans rfl
          have hcz38_5 : w5.cell? ⟨gb123, 5, none⟩ = some (.int .i64 a1_5) := (blk_cell BK123.out 5).trans rfl
          have hcz38_6 : w5.cell? ⟨gb123, 6, none⟩ = some (.slice A1_6 l1_6.length c1_6) := (blk_cell BK123.out 6).trans rfl
          have hcz38_7 : w5.cell? ⟨gb123, 7, none⟩ = some (.slice A1_7 l1_7.length c1_7) := (blk_cell BK123.out 7).trans rfl
          have hcz38_8 : w5.cell? ⟨gb123, 8, none⟩ = some (.int .i64 a1_8) := (blk_cell BK123.out 8).trans rfl
          have hcz38_9 : w5.cell? ⟨gb123, 9, none⟩ = some (.int .i64 a1_9) := (blk_cell BK123.out 9).trans rfl
          have hfz38_0 := blk_frozen BK123.out 0
          have hfz38_1 := blk_frozen BK123.out 1
          have hfz38_2 := blk_frozen BK123.out 2
          have hfz38_3 := blk_frozen BK123.out 3
          have hfz38_4 := blk_frozen BK123.out 4
          have hfz38_5 := blk_frozen BK123.out 5
          have hfz38_6 := blk_frozen BK123.out 6
          have hfz38_7 := blk_frozen BK123.out 7
          have hfz38_8 := blk_frozen BK123.out 8
          have hfz38_9 := blk_frozen BK123.out 9
          go_wp2
          repeat (go_quiet (fail); try go_wp2)
          go_meet
          case rel => exact ⟨_, (true), (by first | rfl | (simp; done) | (simp [*]; done)), H', ⟨by first | omega | exact Nat.le_refl _⟩, ⟨by (with_reducible repeat (first | refine blk_drewN ?_ _ | refine blk_drew ?_ | refine blk_alloc ?_ _)); exact BK122.out⟩, ⟨by (with_reducible repeat (first | refine blk_drewN ?_ _ | refine blk_drew ?_ | refine blk_alloc ?_ _)); exact BK123.out⟩, ⟨by repeat (first | (with_reducible first | exact HB.out | apply below_alloc | apply pw_below_drewN | apply below_drew1 | refine below_set ?_ GE122.out | refine below_set ?_ GE123.out) | exact HB.out)⟩⟩
      · rw [if_neg c7] at H
        have c7b0 : (a0_1.toList == a1_1.toList) = false := beq_eq_false_iff_ne.mpr c7
        have c7b1 : (a0_1.toList != a1_1.toList) = true := bne_iff_ne.mpr c7
        have H' := Aside0.mk H
        clear H
        have hnb39 := NB122_123.out
        have hnc39 := NB123_122.out
        have hcz40_0 : w5.cell? ⟨gb122, 0, none⟩ = some (.int .i64 a0_0) := (blk_cell BK122.out 0).trans rfl
        have hcz40_1 : w5.cell? ⟨gb122, 1, none⟩ = some (.string a0_1) := (blk_cell BK122.out 1).trans rfl
        have hcz40_2 : w5.cell? ⟨gb122, 2, none⟩ = some (.string a0_2) := (blk_cell BK122.out 2).trans rfl
        have hcz40_3 : w5.cell? ⟨gb122, 3, none⟩ = some (.int .i64 a0_3) := (blk_cell BK122.out 3).trans rfl
        have hcz40_4 : w5.cell? ⟨gb122, 4, none⟩ = some (.int .i64 a0_4) := (blk_cell BK122.out 4).trans rfl
        have hcz40_5 : w5.cell? ⟨gb122, 5, none⟩ = some (.int .i64 a0_5) := (blk_cell BK122.out 5).trans rfl
        have hcz40_6 : w5.cell? ⟨gb122, 6, none⟩ = some (.slice A0_6 l0_6.length c0_6) := (blk_cell BK122.out 6).trans rfl
        have hcz40_7 : w5.cell? ⟨gb122, 7, none⟩ = some (.slice A0_7 l0_7.length c0_7) := (blk_cell BK122.out 7).trans rfl
        have hcz40_8 : w5.cell? ⟨gb122, 8, none⟩ = some (.int .i64 a0_8) := (blk_cell BK122.out 8).trans rfl
        have hcz40_9 : w5.cell? ⟨gb122, 9, none⟩ = some (.int .i64 a0_9) := (blk_cell BK122.out 9).trans rfl
        have hfz40_0 := blk_frozen BK122.out 0
        have hfz40_1 := blk_frozen BK122.out 1
        have hfz40_2 := blk_frozen BK122.out 2
        have hfz40_3 := blk_frozen BK122.out 3
        have hfz40_4 := blk_frozen BK122.out 4
        have hfz40_5 := blk_frozen BK122.out 5
        have hfz40_6 := blk_frozen BK122.out 6
        have hfz40_7 := blk_frozen BK122.out 7
        have hfz40_8 := blk_frozen BK122.out 8
        have hfz40_9 := blk_frozen BK122.out 9
        have hcz41_0 : w5.cell? ⟨gb123, 0, none⟩ = some (.int .i64 a1_0) := (blk_cell BK123.out 0).trans rfl
        have hcz41_1 : w5.cell? ⟨gb123, 1, none⟩ = some (.string a1_1) := (blk_cell BK123.out 1).trans rfl
        have hcz41_2 : w5.cell? ⟨gb123, 2, none⟩ = some (.string a1_2) := (blk_cell BK123.out 2).trans rfl
        have hcz41_3 : w5.cell? ⟨gb123, 3, none⟩ = some (.int .i64 a1_3) := (blk_cell BK123.out 3).trans rfl
        have hcz41_4 : w5.cell? ⟨gb123, 4, none⟩ = some (.int .i64 a1_4) := (blk_cell BK123.out 4).trans rfl
        have hcz41_5 : w5.cell? ⟨gb123, 5, none⟩ = some (.int .i64 a1_5) := (blk_cell BK123.out 5).trans rfl
        have hcz41_6 : w5.cell? ⟨gb123, 6, none⟩ = some (.slice A1_6 l1_6.length c1_6) := (blk_cell BK123.out 6).trans rfl
        have hcz41_7 : w5.cell? ⟨gb123, 7, none⟩ = some (.slice A1_7 l1_7.length c1_7) := (blk_cell BK123.out 7).trans rfl
        have hcz41_8 : w5.cell? ⟨gb123, 8, none⟩ = some (.int .i64 a1_8) := (blk_cell BK123.out 8).trans rfl
        have hcz41_9 : w5.cell? ⟨gb123, 9, none⟩ = some (.int .i64 a1_9) := (blk_cell BK123.out 9).trans rfl
        have hfz41_0 := blk_frozen BK123.out 0
        have hfz41_1 := blk_frozen BK123.out 1
        have hfz41_2 := blk_frozen BK123.out 2
        have hfz41_3 := blk_frozen BK123.out 3
        have hfz41_4 := blk_frozen BK123.out 4
        have hfz41_5 := blk_frozen BK123.out 5
        have hfz41_6 := blk_frozen BK123.out 6
        have hfz41_7 := blk_frozen BK123.out 7
        have hfz41_8 := blk_frozen BK123.out 8
        have hfz41_9 := blk_frozen BK123.out 9
        go_wp2
        repeat (go_quiet (fail); try go_wp2)
        go_meet
        case rel => exact ⟨_, (true), (by first | rfl | (simp; done) | (simp [*]; done)), H', ⟨by first | omega | exact Nat.le_refl _⟩, ⟨by (with_reducible repeat (first | refine blk_drewN ?_ _ | refine blk_drew ?_ | refine blk_alloc ?_ _)); exact BK122.out⟩, ⟨by (with_reducible repeat (first | refine blk_drewN ?_ _ | refine blk_drew ?_ | refine blk_alloc ?_ _)); exact BK123.out⟩, ⟨by repeat (first | (with_reducible first | exact HB.out | apply below_alloc | apply pw_below_drewN | apply below_drew1 | refine below_set ?_ GE122.out | refine below_set ?_ GE123.out) | exact HB.out)⟩⟩
    · rw [if_neg c6] at H
      have c6b0 : (a0_0 == a1_0) = false := beq_eq_false_iff_ne.mpr c6
      have c6b1 : (a0_0 != a1_0) = true := bne_iff_ne.mpr c6
      (first | rw [c6b0] | (simp only [i64_w, i32_w]; rw [c6b0]) | skip)
      have H' := Aside0.mk H
      clear H
      have hnb42 := NB122_123.out
      have hnc42 := NB123_122.out
      have hcz43_0 : w5.cell? ⟨gb122, 0, none⟩ = some (.int .i64 a0_0) := (blk_cell BK122.out 0).trans rfl
      have hcz43_1 : w5.cell? ⟨gb122, 1, none⟩ = some (.string a0_1) := (blk_cell BK122.out 1).trans rfl
      have hcz43_2 : w5.cell? ⟨gb122, 2, none⟩ = some (.string a0_2) := (blk_cell BK122.out 2).trans rfl
      have hcz43_3 : w5.cell? ⟨gb122, 3, none⟩ = some (.int .i64 a0_3) := (blk_cell BK122.out 3).trans rfl
      have hcz43_4 : w5.cell? ⟨gb122, 4, none⟩ = some (.int .i64 a0_4) := (blk_cell BK122.out 4).trans rfl
      have hcz43_5 : w5.cell? ⟨gb122, 5, none⟩ = some (.int .i64 a0_5) := (blk_cell BK122.out 5).trans rfl
      have hcz43_6 : w5.cell? ⟨gb122, 6, none⟩ = some (.slice A0_6 l0_6.length c0_6) := (blk_cell BK122.out 6).trans rfl
      have hcz43_7 : w5.cell? ⟨gb122, 7, none⟩ = some (.slice A0_7 l0_7.length c0_7) := (blk_cell BK122.out 7).trans rfl
      have hcz43_8 : w5.cell? ⟨gb122, 8, none⟩ = some (.int .i64 a0_8) := (blk_cell BK122.out 8).trans rfl
      have hcz43_9 : w5.cell? ⟨gb122, 9, none⟩ = some (.int .i64 a0_9) := (blk_cell BK122.out 9).trans rfl
      have hfz43_0 := blk_frozen BK122.out 0
      have hfz43_1 := blk_frozen BK122.out 1
      have hfz43_2 := blk_frozen BK122.out 2
      have hfz43_3 := blk_frozen BK122.out 3
      have hfz43_4 := blk_frozen BK122.out 4
      have hfz43_5 := blk_frozen BK122.out 5
      have hfz43_6 := blk_frozen BK122.out 6
      have hfz43_7 := blk_frozen BK122.out 7
      have hfz43_8 := blk_frozen BK122.out 8
      have hfz43_9 := blk_frozen BK122.out 9
      have hcz44_0 : w5.cell? ⟨gb123, 0, none⟩ = some (.int .i64 a1_0) := (blk_cell BK123.out 0).trans rfl
      have hcz44_1 : w5.cell? ⟨gb123, 1, none⟩ = some (.string a1_1) := (blk_cell BK123.out 1).trans rfl
      have hcz44_2 : w5.cell? ⟨gb123, 2, none⟩ = some (.string a1_2) := (blk_cell BK123.out 2).trans rfl
      have hcz44_3 : w5.cell? ⟨gb123, 3, none⟩ = some (.int .i64 a1_3) := (blk_cell BK123.out 3).trans rfl
      have hcz44_4 : w5.cell? ⟨gb123, 4, none⟩ = some (.int .i64 a1_4) := (blk_cell BK123.out 4).trans rfl
      have hcz44_5 : w5.cell? ⟨gb123, 5, none⟩ = some (.int .i64 a1_5) := (blk_cell BK123.out 5).trans rfl
      have hcz44_6 : w5.cell? ⟨gb123, 6, none⟩ = some (.slice A1_6 l1_6.length c1_6) := (blk_cell BK123.out 6).trans rfl
      have hcz44_7 : w5.cell? ⟨gb123, 7, none⟩ = some (.slice A1_7 l1_7.length c1_7) := (blk_cell BK123.out 7).trans rfl
      have hcz44_8 : w5.cell? ⟨gb123, 8, none⟩ = some (.int .i64 a1_8) := (blk_cell BK123.out 8).trans rfl
      have hcz44_9 : w5.cell? ⟨gb123, 9, none⟩ = some (.int .i64 a1_9) := (blk_cell BK123.out 9).trans rfl
      have hfz44_0 := blk_frozen BK123.out 0
      have hfz44_1 := blk_frozen BK123.out 1
      have hfz44_2 := blk_frozen BK123.out 2
      have hfz44_3 := blk_frozen BK123.out 3
      have hfz44_4 := blk_frozen BK123.out 4
      have hfz44_5 := blk_frozen BK123.out 5
      have hfz44_6 := blk_frozen BK123.out 6
      have hfz44_7 := blk_frozen BK123.out 7
      have hfz44_8 := blk_frozen BK123.out 8
      have hfz44_9 := blk_frozen BK123.out 9
      go_wp2
      repeat (go_quiet (fail); try go_wp2)
      go_meet
      case rel => exact ⟨_, (true), (by first | rfl | (simp; done) | (simp [*]; done)), H', ⟨by first | omega | exact Nat.le_refl _⟩, ⟨by (with_reducible repeat (first | refine blk_drewN ?_ _ | refine blk_drew ?_ | refine blk_alloc ?_ _)); exact BK122.out⟩, ⟨by (with_reducible repeat (first | refine blk_drewN ?_ _ | refine blk_drew ?_ | refine blk_alloc ?_ _)); exact BK123.out⟩, ⟨by repeat (first | (with_reducible first | exact HB.out | apply below_alloc | apply pw_below_drewN | apply below_drew1 | refine below_set ?_ GE122.out | refine below_set ?_ GE123.out) | exact HB.out)⟩⟩
  case rest =>
    clear HC3
    try clear c1
    try clear c2
    try clear p2
    try clear c3
    try clear c4
    try clear c6
    try clear c6b0
    try clear c6b1
    try clear c7
    try clear c7b0
    try clear c7b1
    try clear c8
    try clear c8b0
    try clear c8b1
    try clear c9
    try clear c9b0
    try clear c9b1
    try clear c10
    try clear c10b0
    try clear c10b1
    try clear c11
    try clear c11b0
    try clear c11b1
    try clear c12
    try clear c12b0
    try clear c12b1
    try clear c13
    try clear c13b0
    try clear c13b1
    try clear c14
    try clear c14b0
    try clear c14b1
    try clear c14b2
    try clear c15
    try clear c18
    try clear c21
    try clear c24
    try clear c27
    try clear c30
    try clear c33
    try clear c36
    try clear c37
    try clear c39
    try clear c42
    try clear hcz16_0
    try clear hcz16_1
    try clear hcz16_2
    try clear hcz16_3
    try clear hcz16_4
    try clear hcz16_5
    try clear hcz16_6
    try clear hcz16_7
    try clear hcz16_8
    try clear hcz16_9
    try clear hcz17_0
    try clear hcz17_1
    try clear hcz17_2
    try clear hcz17_3
    try clear hcz17_4
    try clear hcz17_5
    try clear hcz17_6
    try clear hcz17_7
    try clear hcz17_8
    try clear hcz17_9
    try clear hcz19_0
    try clear hcz19_1
    try clear hcz19_2
    try clear hcz19_3
    try clear hcz19_4
    try clear hcz19_5
    try clear hcz19_6
    try clear hcz19_7
    try clear hcz19_8
    try clear hcz19_9
    try clear hcz20_0
    try clear hcz20_1
    try clear hcz20_2
    try clear hcz20_3
    try clear hcz20_4
    try clear hcz20_5
    try clear hcz20_6
    try clear hcz20_7
    try clear hcz20_8
    try clear hcz20_9
    try clear hcz22_0
    try clear hcz22_1
    try clear hcz22_2
    try clear hcz22_3
    try clear hcz22_4
    try clear hcz22_5
    try clear hcz22_6
    try clear hcz22_7
    try clear hcz22_8
    try clear hcz22_9
    try clear hcz23_0
    try clear hcz23_1
    try clear hcz23_2
    try clear hcz23_3
    try clear hcz23_4
    try clear hcz23_5
    try clear hcz23_6
    try clear hcz23_7
    try clear hcz23_8
    try clear hcz23_9
    try clear hcz25_0
    try clear hcz25_1
    try clear hcz25_2
    try clear hcz25_3
    try clear hcz25_4
    try clear hcz25_5
    try clear hcz25_6
    try clear hcz25_7
    try clear hcz25_8
    try clear hcz25_9
    try clear hcz26_0
    try clear hcz26_1
    try clear hcz26_2
    try clear hcz26_3
    try clear hcz26_4
    try clear hcz26_5
    try clear hcz26_6
    try clear hcz26_7
    try clear hcz26_8
    try clear hcz26_9
    try clear hcz28_0
    try clear hcz28_1
    try clear hcz28_2
    try clear hcz28_3
    try clear hcz28_4
    try clear hcz28_5
    try clear hcz28_6
    try clear hcz28_7
    try clear hcz28_8
    try clear hcz28_9
    try clear hcz29_0
    try clear hcz29_1
    try clear hcz29_2
    try clear hcz29_3
    try clear hcz29_4
    try clear hcz29_5
    try clear hcz29_6
    try clear hcz29_7
    try clear hcz29_8
    try clear hcz29_9
    try clear hcz31_0
    try clear hcz31_1
    try clear hcz31_2
    try clear hcz31_3
    try clear hcz31_4
    try clear hcz31_5
    try clear hcz31_6
    try clear hcz31_7
    try clear hcz31_8
    try clear hcz31_9
    try clear hcz32_0
    try clear hcz32_1
    try clear hcz32_2
    try clear hcz32_3
    try clear hcz32_4
    try clear hcz32_5
    try clear hcz32_6
    try clear hcz32_7
    try clear hcz32_8
    try clear hcz32_9
    try clear hcz34_0
    try clear hcz34_1
    try clear hcz34_2
    try clear hcz34_3
    try clear hcz34_4
    try clear hcz34_5
    try clear hcz34_6
    try clear hcz34_7
    try clear hcz34_8
    try clear hcz34_9
    try clear hcz35_0
    try clear hcz35_1
    try clear hcz35_2
    try clear hcz35_3
    try clear hcz35_4
    try clear hcz35_5
    try clear hcz35_6
    try clear hcz35_7
    try clear hcz35_8
    try clear hcz35_9
    try clear hcz37_0
    try clear hcz37_1
    try clear hcz37_2
    try clear hcz37_3
    try clear hcz37_4
    try clear hcz37_5
    try clear hcz37_6
    try clear hcz37_7
    try clear hcz37_8
    try clear hcz37_9
    try clear hcz38_0
    try clear hcz38_1
    try clear hcz38_2
    try clear hcz38_3
    try clear hcz38_4
    try clear hcz38_5
    try clear hcz38_6
    try clear hcz38_7
    try clear hcz38_8
    try clear hcz38_9
    try clear hcz40_0
    try clear hcz40_1
    try clear hcz40_2
    try clear hcz40_3
    try clear hcz40_4
    try clear hcz40_5
    try clear hcz40_6
    try clear hcz40_7
    try clear hcz40_8
    try clear hcz40_9
    try clear hcz41_0
    try clear hcz41_1
    try clear hcz41_2
    try clear hcz41_3
    try clear hcz41_4
    try clear hcz41_5
    try clear hcz41_6
    try clear hcz41_7
    try clear hcz41_8
    try clear hcz41_9
    try clear hcz43_0
    try clear hcz43_1
    try clear hcz43_2
    try clear hcz43_3
    try clear hcz43_4
    try clear hcz43_5
    try clear hcz43_6
    try clear hcz43_7
    try clear hcz43_8
    try clear hcz43_9
    try clear hcz44_0
    try clear hcz44_1
    try clear hcz44_2
    try clear hcz44_3
    try clear hcz44_4
    try clear hcz44_5
    try clear hcz44_6
    try clear hcz44_7
    try clear hcz44_8
    try clear hcz44_9
    try clear hfz16_0
    try clear hfz16_1
    try clear hfz16_2
    try clear hfz16_3
    try clear hfz16_4
    try clear hfz16_5
    try clear hfz16_6
    try clear hfz16_7
    try clear hfz16_8
    try clear hfz16_9
    try clear hfz17_0
    try clear hfz17_1
    try clear hfz17_2
    try clear hfz17_3
    try clear hfz17_4
    try clear hfz17_5
    try clear hfz17_6
    try clear hfz17_7
    try clear hfz17_8
    try clear hfz17_9
    try clear hfz19_0
    try clear hfz19_1
    try clear hfz19_2
    try clear hfz19_3
    try clear hfz19_4
    try clear hfz19_5
    try clear hfz19_6
    try clear hfz19_7
    try clear hfz19_8
    try clear hfz19_9
    try clear hfz20_0
    try clear hfz20_1
    try clear hfz20_2
    try clear hfz20_3
    try clear hfz20_4
    try clear hfz20_5
    try clear hfz20_6
    try clear hfz20_7
    try clear hfz20_8
    try clear hfz20_9
    try clear hfz22_0
    try clear hfz22_1
    try clear hfz22_2
    try clear hfz22_3
    try clear hfz22_4
    try clear hfz22_5
    try clear hfz22_6
    try clear hfz22_7
    try clear hfz22_8
    try clear hfz22_9
    try clear hfz23_0
    try clear hfz23_1
    try clear hfz23_2
    try clear hfz23_3
    try clear hfz23_4
    try clear hfz23_5
    try clear hfz23_6
    try clear hfz23_7
    try clear hfz23_8
    try clear hfz23_9
    try clear hfz25_0
    try clear hfz25_1
    try clear hfz25_2
    try clear hfz25_3
    try clear hfz25_4
    try clear hfz25_5
    try clear hfz25_6
    try clear hfz25_7
    try clear hfz25_8
    try clear hfz25_9
    try clear hfz26_0
    try clear hfz26_1
    try clear hfz26_2
    try clear hfz26_3
    try clear hfz26_4
    try clear hfz26_5
    try clear hfz26_6
    try clear hfz26_7
    try clear hfz26_8
    try clear hfz26_9
    try clear hfz28_0
    try clear hfz28_1
    try clear hfz28_2
    try clear hfz28_3
    try clear hfz28_4
    try clear hfz28_5
    try clear hfz28_6
    try clear hfz28_7
    try clear hfz28_8
    try clear hfz28_9
    try clear hfz29_0
    try clear hfz29_1
    try clear hfz29_2
    try clear hfz29_3
    try clear hfz29_4
    try clear hfz29_5
    try clear hfz29_6
    try clear hfz29_7
    try clear hfz29_8
    try clear hfz29_9
    try clear hfz31_0
    try clear hfz31_1
    try clear hfz31_2
    try clear hfz31_3
    try clear hfz31_4
    try clear hfz31_5
    try clear hfz31_6
    try clear hfz31_7
    try clear hfz31_8
    try clear hfz31_9
    try clear hfz32_0
    try clear hfz32_1
    try clear hfz32_2
    try clear hfz32_3
    try clear hfz32_4
    try clear hfz32_5
    try clear hfz32_6
    try clear hfz32_7
    try clear hfz32_8
    try clear hfz32_9
    try clear hfz34_0
    try clear hfz34_1
    try clear hfz34_2
    try clear hfz34_3
    try clear hfz34_4
    try clear hfz34_5
    try clear hfz34_6
    try clear hfz34_7
    try clear hfz34_8
    try clear hfz34_9
    try clear hfz35_0
    try clear hfz35_1
    try clear hfz35_2
    try clear hfz35_3
    try clear hfz35_4
    try clear hfz35_5
    try clear hfz35_6
    try clear hfz35_7
    try clear hfz35_8
    try clear hfz35_9
    try clear hfz37_0
    try clear hfz37_1
    try clear hfz37_2
    try clear hfz37_3
    try clear hfz37_4
    try clear hfz37_5
    try clear hfz37_6
    try clear hfz37_7
    try clear hfz37_8
    try clear hfz37_9
    try clear hfz38_0
    try clear hfz38_1
    try clear hfz38_2
    try clear hfz38_3
    try clear hfz38_4
    try clear hfz38_5
    try clear hfz38_6
    try clear hfz38_7
    try clear hfz38_8
    try clear hfz38_9
    try clear hfz40_0
    try clear hfz40_1
    try clear hfz40_2
    try clear hfz40_3
    try clear hfz40_4
    try clear hfz40_5
    try clear hfz40_6
    try clear hfz40_7
    try clear hfz40_8
    try clear hfz40_9
    try clear hfz41_0
    try clear hfz41_1
    try clear hfz41_2
    try clear hfz41_3
    try clear hfz41_4
    try clear hfz41_5
    try clear hfz41_6
    try clear hfz41_7
    try clear hfz41_8
    try clear hfz41_9
    try clear hfz43_0
    try clear hfz43_1
    try clear hfz43_2
    try clear hfz43_3
    try clear hfz43_4
    try clear hfz43_5
    try clear hfz43_6
    try clear hfz43_7
    try clear hfz43_8
    try clear hfz43_9
    try clear hfz44_0
    try clear hfz44_1
    try clear hfz44_2
    try clear hfz44_3
    try clear hfz44_4
    try clear hfz44_5
    try clear hfz44_6
    try clear hfz44_7
    try clear hfz44_8
    try clear hfz44_9
    obtain ⟨kq, x78_2, rfl, HA, HJ2, BK122, BK123, HB⟩ := hcut
    cases kq with
    | zero => exact absurd HA.out (by simp [spinetref13_Alike.j0])
    | succ kj2 =>
      have H := HA.out
      clear HA
      simp only [spinetref13_Alike.j0] at H
      by_cases c45 : x78_2 = true
      · subst c45
        have H1 : (some false) = some r := by rw [if_pos rfl] at H; exact H
        clear H
        have H := H1
        clear H1
        obtain rfl := Option.some.inj H
        go_wp2
        repeat (go_quiet (fail); try go_wp2)
        go_ret
        exact ⟨by first | rfl | (simp [errW_none, errW_some] <;> rfl) | (simp [*, errW_none, errW_some] <;> rfl), by repeat (first | (with_reducible first | exact HB.out | apply below_alloc | apply pw_below_drewN | apply below_drew1 | refine below_set ?_ GE122.out | refine below_set ?_ GE123.out) | exact HB.out)⟩
      · replace c45 := Bool.eq_false_iff.mpr c45
        subst c45
        have H1 : (spinetref13_Alike.l0 kj2 0 a0_0 a0_1 a0_2 a0_3 a0_4 a0_5 l0_6 l0_7 a0_8 a0_9 a1_0 a1_1 a1_2 a1_3 a1_4 a1_5 l1_6 l1_7 a1_8 a1_9) = some r := by rw [if_neg (show ¬ (false = true) by decide)] at H; exact H
        clear H
        have H := H1
        clear H1
        have H' := Aside0.mk H
        clear H
        go_wp2
        repeat (go_quiet (fail); try go_wp2)
        go_loopg [5] kj2 (fun kq v5 w' => ∃ (x5_2 : Int), v5 = .int .i64 x5_2 ∧ Aside0 (spinetref13_Alike.l0 kq x5_2 a0_0 a0_1 a0_2 a0_3 a0_4 a0_5 l0_6 l0_7 a0_8 a0_9 a1_0 a1_1 a1_2 a1_3 a1_4 a1_5 l1_6 l1_7 a1_8 a1_9 = some r) ∧ Aside0 (kq ≤ kj2) ∧ Aside0 (w'.heap[gb122]? = some (.cells #[.int .i64 a0_0, .string a0_1, .string a0_2, .int .i64 a0_3, .int .i64 a0_4, .int .i64 a0_5, (.slice A0_6 l0_6.length c0_6), (.slice A0_7 l0_7.length c0_7), .int .i64 a0_8, .int .i64 a0_9] 40 (0, 0))) ∧ Aside0 (w'.heap[gb123]? = some (.cells #[.int .i64 a1_0, .string a1_1, .string a1_2, .int .i64 a1_3, .int .i64 a1_4, .int .i64 a1_5, (.slice A1_6 l1_6.length c1_6), (.slice A1_7 l1_7.length c1_7), .int .i64 a1_8, .int .i64 a1_9] 40 (0, 0))) ∧ Aside0 (Below w.heap.size w w'))
        case atStart => exact ⟨(0), (by first | rfl | (simp; done) | (simp [*]; done)), H', ⟨Nat.le_refl _⟩, ⟨by (with_reducible repeat (first | refine blk_drewN ?_ _ | refine blk_drew ?_ | refine blk_alloc ?_ _)); exact BK122.out⟩, ⟨by (with_reducible repeat (first | refine blk_drewN ?_ _ | refine blk_drew ?_ | refine blk_alloc ?_ _)); exact BK123.out⟩, ⟨by repeat (first | (with_reducible first | exact HB.out | apply below_alloc | apply pw_below_drewN | apply below_drew1 | refine below_set ?_ GE122.out | refine below_set ?_ GE123.out) | exact HB.out)⟩⟩
        case round =>
          clear H'
          try clear c1
          try clear c2
          try clear p2
          try clear c3
          try clear c4
          try clear c6
          try clear c6b0
          try clear c6b1
          try clear c7
          try clear c7b0
          try clear c7b1
          try clear c8
          try clear c8b0
          try clear c8b1
          try clear c9
          try clear c9b0
          try clear c9b1
          try clear c10
          try clear c10b0
          try clear c10b1
          try clear c11
          try clear c11b0
          try clear c11b1
          try clear c12
          try clear c12b0
          try clear c12b1
          try clear c13
          try clear c13b0
          try clear c13b1
          try clear c14
          try clear c14b0
          try clear c14b1
          try clear c14b2
          try clear c15
          try clear c18
          try clear c21
          try clear c24
          try clear c27
          try clear c30
          try clear c33
          try clear c36
          try clear c37
          try clear c39
          try clear c42
          try clear c45
          try clear hcz16_0
          try clear hcz16_1
          try clear hcz16_2
          try clear hcz16_3
          try clear hcz16_4
          try clear hcz16_5
          try clear hcz16_6
          try clear hcz16_7
          try clear hcz16_8
          try clear hcz16_9
          try clear hcz17_0
          try clear hcz17_1
          try clear hcz17_2
          try clear hcz17_3
          try clear hcz17_4
          try clear hcz17_5
          try clear hcz17_6
          try clear hcz17_7
          try clear hcz17_8
          try clear hcz17_9
          try clear hcz19_0
          try clear hcz19_1
          try clear hcz19_2
          try clear hcz19_3
          try clear hcz19_4
          try clear hcz19_5
          try clear hcz19_6
          try clear hcz19_7
          try clear hcz19_8
          try clear hcz19_9
          try clear hcz20_0
          try clear hcz20_1
          try clear hcz20_2
          try clear hcz20_3
          try clear hcz20_4
          try clear hcz20_5
          try clear hcz20_6
          try clear hcz20_7
          try clear hcz20_8
          try clear hcz20_9
          try clear hcz22_0
          try clear hcz22_1
          try clear hcz22_2
          try clear hcz22_3
          try clear hcz22_4
          try clear hcz22_5
          try clear hcz22_6
          try clear hcz22_7
          try clear hcz22_8
          try clear hcz22_9
          try clear hcz23_0
          try clear hcz23_1
          try clear hcz23_2
          try clear hcz23_3
          try clear hcz23_4
          try clear hcz23_5
          try clear hcz23_6
          try clear hcz23_7
          try clear hcz23_8
          try clear hcz23_9
          try clear hcz25_0
          try clear hcz25_1
          try clear hcz25_2
          try clear hcz25_3
          try clear hcz25_4
          try clear hcz25_5
          try clear hcz25_6
          try clear hcz25_7
          try clear hcz25_8
          try clear hcz25_9
          try clear hcz26_0
          try clear hcz26_1
          try clear hcz26_2
          try clear hcz26_3
          try clear hcz26_4
          try clear hcz26_5
          try clear hcz26_6
          try clear hcz26_7
          try clear hcz26_8
          try clear hcz26_9
          try clear hcz28_0
          try clear hcz28_1
          try clear hcz28_2
          try clear hcz28_3
          try clear hcz28_4
          try clear hcz28_5
          try clear hcz28_6
          try clear hcz28_7
          try clear hcz28_8
          try clear hcz28_9
          try clear hcz29_0
          try clear hcz29_1
          try clear hcz29_2
          try clear hcz29_3
          try clear hcz29_4
          try clear hcz29_5
          try clear hcz29_6
          try clear hcz29_7
          try clear hcz29_8
          try clear hcz29_9
          try clear hcz31_0
          try clear hcz31_1
          try clear hcz31_2
          try clear hcz31_3
          try clear hcz31_4
          try clear hcz31_5
          try clear hcz31_6
          try clear hcz31_7
          try clear hcz31_8
          try clear hcz31_9
          try clear hcz32_0
          try clear hcz32_1
          try clear hcz32_2
          try clear hcz32_3
          try clear hcz32_4
          try clear hcz32_5
          try clear hcz32_6
          try clear hcz32_7
          try clear hcz32_8
          try clear hcz32_9
          try clear hcz34_0
          try clear hcz34_1
          try clear hcz34_2
          try clear hcz34_3
          try clear hcz34_4
          try clear hcz34_5
          try clear hcz34_6
          try clear hcz34_7
          try clear hcz34_8
          try clear hcz34_9
          try clear hcz35_0
          try clear hcz35_1
          try clear hcz35_2
          try clear hcz35_3
          try clear hcz35_4
          try clear hcz35_5
          try clear hcz35_6
          try clear hcz35_7
          try clear hcz35_8
          try clear hcz35_9
          try clear hcz37_0
          try clear hcz37_1
          try clear hcz37_2
          try clear hcz37_3
          try clear hcz37_4
          try clear hcz37_5
          try clear hcz37_6
          try clear hcz37_7
          try clear hcz37_8
          try clear hcz37_9
          try clear hcz38_0
          try clear hcz38_1
          try clear hcz38_2
          try clear hcz38_3
          try clear hcz38_4
          try clear hcz38_5
          try clear hcz38_6
          try clear hcz38_7
          try clear hcz38_8
          try clear hcz38_9
          try clear hcz40_0
          try clear hcz40_1
          try clear hcz40_2
          try clear hcz40_3
          try clear hcz40_4
          try clear hcz40_5
          try clear hcz40_6
          try clear hcz40_7
          try clear hcz40_8
          try clear hcz40_9
          try clear hcz41_0
          try clear hcz41_1
          try clear hcz41_2
          try clear hcz41_3
          try clear hcz41_4
          try clear hcz41_5
          try clear hcz41_6
          try clear hcz41_7
          try clear hcz41_8
          try clear hcz41_9
          try clear hcz43_0
          try clear hcz43_1
          try clear hcz43_2
          try clear hcz43_3
          try clear hcz43_4
          try clear hcz43_5
          try clear hcz43_6
          try clear hcz43_7
          try clear hcz43_8
          try clear hcz43_9
          try clear hcz44_0
          try clear hcz44_1
          try clear hcz44_2
          try clear hcz44_3
          try clear hcz44_4
          try clear hcz44_5
          try clear hcz44_6
          try clear hcz44_7
          try clear hcz44_8
          try clear hcz44_9
          try clear hfz16_0
          try clear hfz16_1
          try clear hfz16_2
          try clear hfz16_3
          try clear hfz16_4
          try clear hfz16_5
          try clear hfz16_6
          try clear hfz16_7
          try clear hfz16_8
          try clear hfz16_9
          try clear hfz17_0
          try clear hfz17_1
          try clear hfz17_2
          try clear hfz17_3
          try clear hfz17_4
          try clear hfz17_5
          try clear hfz17_6
          try clear hfz17_7
          try clear hfz17_8
          try clear hfz17_9
          try clear hfz19_0
          try clear hfz19_1
          try clear hfz19_2
          try clear hfz19_3
          try clear hfz19_4
          try clear hfz19_5
          try clear hfz19_6
          try clear hfz19_7
          try clear hfz19_8
          try clear hfz19_9
          try clear hfz20_0
          try clear hfz20_1
          try clear hfz20_2
          try clear hfz20_3
          try clear hfz20_4
          try clear hfz20_5
          try clear hfz20_6
          try clear hfz20_7
          try clear hfz20_8
          try clear hfz20_9
          try clear hfz22_0
          try clear hfz22_1
          try clear hfz22_2
          try clear hfz22_3
          try clear hfz22_4
          try clear hfz22_5
          try clear hfz22_6
          try clear hfz22_7
          try clear hfz22_8
          try clear hfz22_9
          try clear hfz23_0
          try clear hfz23_1
          try clear hfz23_2
          try clear hfz23_3
          try clear hfz23_4
          try clear hfz23_5
          try clear hfz23_6
          try clear hfz23_7
          try clear hfz23_8
          try clear hfz23_9
          try clear hfz25_0
          try clear hfz25_1
          try clear hfz25_2
          try clear hfz25_3
          try clear hfz25_4
          try clear hfz25_5
          try clear hfz25_6
          try clear hfz25_7
          try clear hfz25_8
          try clear hfz25_9
          try clear hfz26_0
          try clear hfz26_1
          try clear hfz26_2
          try clear hfz26_3
          try clear hfz26_4
          try clear hfz26_5
          try clear hfz26_6
          try clear hfz26_7
          try clear hfz26_8
          try clear hfz26_9
          try clear hfz28_0
          try clear hfz28_1
          try clear hfz28_2
          try clear hfz28_3
          try clear hfz28_4
          try clear hfz28_5
          try clear hfz28_6
          try clear hfz28_7
          try clear hfz28_8
          try clear hfz28_9
          try clear hfz29_0
          try clear hfz29_1
          try clear hfz29_2
          try clear hfz29_3
          try clear hfz29_4
          try clear hfz29_5
          try clear hfz29_6
          try clear hfz29_7
          try clear hfz29_8
          try clear hfz29_9
          try clear hfz31_0
          try clear hfz31_1
          try clear hfz31_2
          try clear hfz31_3
          try clear hfz31_4
          try clear hfz31_5
          try clear hfz31_6
          try clear hfz31_7
          try clear hfz31_8
          try clear hfz31_9
          try clear hfz32_0
          try clear hfz32_1
          try clear hfz32_2
          try clear hfz32_3
          try clear hfz32_4
          try clear hfz32_5
          try clear hfz32_6
          try clear hfz32_7
          try clear hfz32_8
          try clear hfz32_9
          try clear hfz34_0
          try clear hfz34_1
          try clear hfz34_2
          try clear hfz34_3
          try clear hfz34_4
          try clear hfz34_5
          try clear hfz34_6
          try clear hfz34_7
          try clear hfz34_8
          try clear hfz34_9
          try clear hfz35_0
          try clear hfz35_1
          try clear hfz35_2
          try clear hfz35_3
          try clear hfz35_4
          try clear hfz35_5
          try clear hfz35_6
          try clear hfz35_7
          try clear hfz35_8
          try clear hfz35_9
          try clear hfz37_0
          try clear hfz37_1
          try clear hfz37_2
          try clear hfz37_3
          try clear hfz37_4
          try clear hfz37_5
          try clear hfz37_6
          try clear hfz37_7
          try clear hfz37_8
          try clear hfz37_9
          try clear hfz38_0
          try clear hfz38_1
          try clear hfz38_2
          try clear hfz38_3
          try clear hfz38_4
          try clear hfz38_5
          try clear hfz38_6
          try clear hfz38_7
          try clear hfz38_8
          try clear hfz38_9
          try clear hfz40_0
          try clear hfz40_1
          try clear hfz40_2
          try clear hfz40_3
          try clear hfz40_4
          try clear hfz40_5
          try clear hfz40_6
          try clear hfz40_7
          try clear hfz40_8
          try clear hfz40_9
          try clear hfz41_0
          try clear hfz41_1
          try clear hfz41_2
          try clear hfz41_3
          try clear hfz41_4
          try clear hfz41_5
          try clear hfz41_6
          try clear hfz41_7
          try clear hfz41_8
          try clear hfz41_9
          try clear hfz43_0
          try clear hfz43_1
          try clear hfz43_2
          try clear hfz43_3
          try clear hfz43_4
          try clear hfz43_5
          try clear hfz43_6
          try clear hfz43_7
          try clear hfz43_8
          try clear hfz43_9
          try clear hfz44_0
          try clear hfz44_1
          try clear hfz44_2
          try clear hfz44_3
          try clear hfz44_4
          try clear hfz44_5
          try clear hfz44_6
          try clear hfz44_7
          try clear hfz44_8
          try clear hfz44_9
          try clear p2
          obtain ⟨x5_2, rfl, HA, HK2, BK122, BK123, HB⟩ := hrel
          cases gk with
          | zero => exact absurd HA.out (by simp [spinetref13_Alike.l0])
          | succ k2 =>
            have H := HA.out
            clear HA
            simp only [spinetref13_Alike.l0] at H
            by_cases c46 : x5_2 < (l0_6.length : Int)
            · rw [if_pos c46] at H
              have c46b0 : decide (x5_2 < (l0_6.length : Int)) = true := decide_eq_true c46
              clear c46
              by_cases c47 : 0 ≤ x5_2
              · rw [if_pos c47] at H
                have c47b0 : decide (0 ≤ x5_2) = true := decide_eq_true c47
                clear c47
                by_cases c48 : x5_2 < (l1_6.length : Int)
                · rw [if_pos c48] at H
                  have c48b0 : decide (x5_2 < (l1_6.length : Int)) = true := decide_eq_true c48
                  clear c48
                  by_cases c49 : ((rd_T42 l0_6 x5_2).f0).toList = ((rd_T42 l1_6 x5_2).f0).toList
                  · rw [if_pos c49] at H
                    have c49b0 : (((rd_T42 l0_6 x5_2).f0).toList == ((rd_T42 l1_6 x5_2).f0).toList) = true := beq_iff_eq.mpr c49
                    have c49b1 : (((rd_T42 l0_6 x5_2).f0).toList != ((rd_T42 l1_6 x5_2).f0).toList) = false := bne_eq_false_iff_eq.mpr c49
                    clear c49
                    by_cases c50 : (((rd_T42 l0_6 x5_2).f1) != ((rd_T42 l1_6 x5_2).f1)) = true
                    · rw [if_pos c50] at H
                      have c50b0 : (((rd_T42 l0_6 x5_2).f1) != ((rd_T42 l1_6 x5_2).f1)) = true := c50
                      (try (have c50b1 : decide (((rd_T42 l0_6 x5_2).f1) = ((rd_T42 l1_6 x5_2).f1)) = false := by simpa using c50))
                      (try (have c50b2 : (((rd_T42 l0_6 x5_2).f1) == ((rd_T42 l1_6 x5_2).f1)) = false := by simpa using c50))
                      (try (have c50b3 : ¬ (((rd_T42 l0_6 x5_2).f1) = ((rd_T42 l1_6 x5_2).f1)) := by simpa using c50))
                      clear c50
                      obtain rfl := Option.some.inj H
                      have hnb51 := NB122_123.out
                      have hnc51 := NB123_122.out
                      have hcz52_0 : wr.cell? ⟨gb122, 0, none⟩ = some (.int .i64 a0_0) := (blk_cell BK122.out 0).trans rfl
                      have hcz52_1 : wr.cell? ⟨gb122, 1, none⟩ = some (.string a0_1) := (blk_cell BK122.out 1).trans rfl
                      have hcz52_2 : wr.cell? ⟨gb122, 2, none⟩ = some (.string a0_2) := (blk_cell BK122.out 2).trans rfl
                      have hcz52_3 : wr.cell? ⟨gb122, 3, none⟩ = some (.int .i64 a0_3) := (blk_cell BK122.out 3).trans rfl
                      have hcz52_4 : wr.cell? ⟨gb122, 4, none⟩ = some (.int .i64 a0_4) := (blk_cell BK122.out 4).trans rfl
                      have hcz52_5 : wr.cell? ⟨gb122, 5, none⟩ = some (.int .i64 a0_5) := (blk_cell BK122.out 5).trans rfl
                      have hcz52_6 : wr.cell? ⟨gb122, 6, none⟩ = some (.slice A0_6 l0_6.length c0_6) := (blk_cell BK122.out 6).trans rfl
                      have hcz52_7 : wr.cell? ⟨gb122, 7, none⟩ = some (.slice A0_7 l0_7.length c0_7) := (blk_cell BK122.out 7).trans rfl
                      have hcz52_8 : wr.cell? ⟨gb122, 8, none⟩ = some (.int .i64 a0_8) := (blk_cell BK122.out 8).trans rfl
                      have hcz52_9 : wr.cell? ⟨gb122, 9, none⟩ = some (.int .i64 a0_9) := (blk_cell BK122.out 9).trans rfl
                      have hfz52_0 := blk_frozen BK122.out 0
                      have hfz52_1 := blk_frozen BK122.out 1
                      have hfz52_2 := blk_frozen BK122.out 2
                      have hfz52_3 := blk_frozen BK122.out 3
                      have hfz52_4 := blk_frozen BK122.out 4
                      have hfz52_5 := blk_frozen BK122.out 5
                      have hfz52_6 := blk_frozen BK122.out 6
                      have hfz52_7 := blk_frozen BK122.out 7
                      have hfz52_8 := blk_frozen BK122.out 8
                      have hfz52_9 := blk_frozen BK122.out 9
                      have p124 : 0 ≤ (x5_2 : Int) := of_decide_eq_true (by first | (with_reducible assumption) | assumption)
                      have q124 : x5_2 < (l0_6.length : Int) := of_decide_eq_true (by first | (with_reducible assumption) | assumption)
                      obtain ⟨ad124, e124, hx124_0, hx124_1, hx124_2⟩ := at_T42 HR0_6.out x5_2 p124 q124
                      cases e124
                      replace hx124_0 := (HB.out.cell (World.block_lt_of_cell? w _ hx124_0)).trans hx124_0
                      replace hx124_1 := (HB.out.cell (World.block_lt_of_cell? w _ hx124_1)).trans hx124_1
                      replace hx124_2 := (HB.out.cell (World.block_lt_of_cell? w _ hx124_2)).trans hx124_2
                      replace p124 := eq_true p124
                      replace q124 := eq_true q124
                      have hcz53_0 : wr.cell? ⟨gb123, 0, none⟩ = some (.int .i64 a1_0) := (blk_cell BK123.out 0).trans rfl
                      have hcz53_1 : wr.cell? ⟨gb123, 1, none⟩ = some (.string a1_1) := (blk_cell BK123.out 1).trans rfl
                      have hcz53_2 : wr.cell? ⟨gb123, 2, none⟩ = some (.string a1_2) := (blk_cell BK123.out 2).trans rfl
                      have hcz53_3 : wr.cell? ⟨gb123, 3, none⟩ = some (.int .i64 a1_3) := (blk_cell BK123.out 3).trans rfl
                      have hcz53_4 : wr.cell? ⟨gb123, 4, none⟩ = some (.int .i64 a1_4) := (blk_cell BK123.out 4).trans rfl
                      have hcz53_5 : wr.cell? ⟨gb123, 5, none⟩ = some (.int .i64 a1_5) := (blk_cell BK123.out 5).trans rfl
                      have hcz53_6 : wr.cell? ⟨gb123, 6, none⟩ = some (.slice A1_6 l1_6.length c1_6) := (blk_cell BK123.out 6).trans rfl
                      have hcz53_7 : wr.cell? ⟨gb123, 7, none⟩ = some (.slice A1_7 l1_7.length c1_7) := (blk_cell BK123.out 7).trans rfl
                      have hcz53_8 : wr.cell? ⟨gb123, 8, none⟩ = some (.int .i64 a1_8) := (blk_cell BK123.out 8).trans rfl
                      have hcz53_9 : wr.cell? ⟨gb123, 9, none⟩ = some (.int .i64 a1_9) := (blk_cell BK123.out 9).trans rfl
                      have hfz53_0 := blk_frozen BK123.out 0
                      have hfz53_1 := blk_frozen BK123.out 1
                      have hfz53_2 := blk_frozen BK123.out 2
                      have hfz53_3 := blk_frozen BK123.out 3
                      have hfz53_4 := blk_frozen BK123.out 4
                      have hfz53_5 := blk_frozen BK123.out 5
                      have hfz53_6 := blk_frozen BK123.out 6
                      have hfz53_7 := blk_frozen BK123.out 7
                      have hfz53_8 := blk_frozen BK123.out 8
                      have hfz53_9 := blk_frozen BK123.out 9
                      have p125 : 0 ≤ (x5_2 : Int) := of_decide_eq_true (by first | (with_reducible assumption) | assumption)
                      have q125 : x5_2 < (l1_6.length : Int) := of_decide_eq_true (by first | (with_reducible assumption) | assumption)
                      obtain ⟨ad125, e125, hx125_0, hx125_1, hx125_2⟩ := at_T42 HR1_6.out x5_2 p125 q125
                      cases e125
                      replace hx125_0 := (HB.out.cell (World.block_lt_of_cell? w _ hx125_0)).trans hx125_0
                      replace hx125_1 := (HB.out.cell (World.block_lt_of_cell? w _ hx125_1)).trans hx125_1
                      replace hx125_2 := (HB.out.cell (World.block_lt_of_cell? w _ hx125_2)).trans hx125_2
                      replace p125 := eq_true p125
                      replace q125 := eq_true q125
                      have p126 : 0 ≤ (x5_2 : Int) := of_decide_eq_true (by first | (with_reducible assumption) | assumption)
                      have q126 : x5_2 < (l0_6.length : Int) := of_decide_eq_true (by first | (with_reducible assumption) | assumption)
                      obtain ⟨ad126, e126, hx126_0, hx126_1, hx126_2⟩ := at_T42 HR0_6.out x5_2 p126 q126
                      obtain rfl : ad124 = ad126 := (by injection e126)
                      replace hx126_0 := (HB.out.cell (World.block_lt_of_cell? w _ hx126_0)).trans hx126_0
                      replace hx126_1 := (HB.out.cell (World.block_lt_of_cell? w _ hx126_1)).trans hx126_1
                      replace hx126_2 := (HB.out.cell (World.block_lt_of_cell? w _ hx126_2)).trans hx126_2
                      replace p126 := eq_true p126
                      replace q126 := eq_true q126
                      have p127 : 0 ≤ (x5_2 : Int) := of_decide_eq_true (by first | (with_reducible assumption) | assumption)
                      have q127 : x5_2 < (l1_6.length : Int) := of_decide_eq_true (by first | (with_reducible assumption) | assumption)
                      obtain ⟨ad127, e127, hx127_0, hx127_1, hx127_2⟩ := at_T42 HR1_6.out x5_2 p127 q127
                      obtain rfl : ad125 = ad127 := (by injection e127)
                      replace hx127_0 := (HB.out.cell (World.block_lt_of_cell? w _ hx127_0)).trans hx127_0
                      replace hx127_1 := (HB.out.cell (World.block_lt_of_cell? w _ hx127_1)).trans hx127_1
                      replace hx127_2 := (HB.out.cell (World.block_lt_of_cell? w _ hx127_2)).trans hx127_2
                      replace p127 := eq_true p127
                      replace q127 := eq_true q127
                      go_wp2
                      repeat (go_quiet (fail); try go_wp2)
                      go_ret
                      exact ⟨by first | rfl | (simp [errW_none, errW_some] <;> rfl) | (simp [*, errW_none, errW_some] <;> rfl), by repeat (first | (with_reducible first | exact HB.out | apply below_alloc | apply pw_below_drewN | apply below_drew1 | refine below_set ?_ GE122.out | refine below_set ?_ GE123.out) | exact HB.out)⟩
                    · rw [if_neg c50] at H
                      have c50b0 : (((rd_T42 l0_6 x5_2).f1) != ((rd_T42 l1_6 x5_2).f1)) = false := by simpa using c50
                      (try (have c50b1 : decide (((rd_T42 l0_6 x5_2).f1) = ((rd_T42 l1_6 x5_2).f1)) = true := by simpa using c50))
                      (try (have c50b2 : (((rd_T42 l0_6 x5_2).f1) == ((rd_T42 l1_6 x5_2).f1)) = true := by simpa using c50))
                      clear c50
                      by_cases c54 : ((rd_T42 l0_6 x5_2).f2) = ((rd_T42 l1_6 x5_2).f2)
                      · rw [if_pos c54] at H
                        have c54b0 : (((rd_T42 l0_6 x5_2).f2) == ((rd_T42 l1_6 x5_2).f2)) = true := beq_iff_eq.mpr c54
                        have c54b1 : (((rd_T42 l0_6 x5_2).f2) != ((rd_T42 l1_6 x5_2).f2)) = false := bne_eq_false_iff_eq.mpr c54
                        clear c54
                        have H' := Aside0.mk H
                        clear H
                        have hnb55 := NB122_123.out
                        have hnc55 := NB123_122.out
                        have hcz56_0 : wr.cell? ⟨gb122, 0, none⟩ = some (.int .i64 a0_0) := (blk_cell BK122.out 0).trans rfl
                        have hcz56_1 : wr.cell? ⟨gb122, 1, none⟩ = some (.string a0_1) := (blk_cell BK122.out 1).trans rfl
                        have hcz56_2 : wr.cell? ⟨gb122, 2, none⟩ = some (.string a0_2) := (blk_cell BK122.out 2).trans rfl
                        have hcz56_3 : wr.cell? ⟨gb122, 3, none⟩ = some (.int .i64 a0_3) := (blk_cell BK122.out 3).trans rfl
                        have hcz56_4 : wr.cell? ⟨gb122, 4, none⟩ = some (.int .i64 a0_4) := (blk_cell BK122.out 4).trans rfl
                        have hcz56_5 : wr.cell? ⟨gb122, 5, none⟩ = some (.int .i64 a0_5) := (blk_cell BK122.out 5).trans rfl
                        have hcz56_6 : wr.cell? ⟨gb122, 6, none⟩ = some (.slice A0_6 l0_6.length c0_6) := (blk_cell BK122.out 6).trans rfl
                        have hcz56_7 : wr.cell? ⟨gb122, 7, none⟩ = some (.slice A0_7 l0_7.length c0_7) := (blk_cell BK122.out 7).trans rfl
                        have hcz56_8 : wr.cell? ⟨gb122, 8, none⟩ = some (.int .i64 a0_8) := (blk_cell BK122.out 8).trans rfl
                        have hcz56_9 : wr.cell? ⟨gb122, 9, none⟩ = some (.int .i64 a0_9) := (blk_cell BK122.out 9).trans rfl
                        have hfz56_0 := blk_frozen BK122.out 0
                        have hfz56_1 := blk_frozen BK122.out 1
                        have hfz56_2 := blk_frozen BK122.out 2
                        have hfz56_3 := blk_frozen BK122.out 3
                        have hfz56_4 := blk_frozen BK122.out 4
                        have hfz56_5 := blk_frozen BK122.out 5
                        have hfz56_6 := blk_frozen BK122.out 6
                        have hfz56_7 := blk_frozen BK122.out 7
                        have hfz56_8 := blk_frozen BK122.out 8
                        have hfz56_9 := blk_frozen BK122.out 9
                        have p124 : 0 ≤ (x5_2 : Int) := of_decide_eq_true (by first | (with_reducible assumption) | assumption)
                        have q124 : x5_2 < (l0_6.length : Int) := of_decide_eq_true (by first | (with_reducible assumption) | assumption)
                        obtain ⟨ad124, e124, hx124_0, hx124_1, hx124_2⟩ := at_T42 HR0_6.out x5_2 p124 q124
                        cases e124
                        replace hx124_0 := (HB.out.cell (World.block_lt_of_cell? w _ hx124_0)).trans hx124_0
                        replace hx124_1 := (HB.out.cell (World.block_lt_of_cell? w _ hx124_1)).trans hx124_1
                        replace hx124_2 := (HB.out.cell (World.block_lt_of_cell? w _ hx124_2)).trans hx124_2
                        replace p124 := eq_true p124
                        replace q124 := eq_true q124
                        have hcz57_0 : wr.cell? ⟨gb123, 0, none⟩ = some (.int .i64 a1_0) := (blk_cell BK123.out 0).trans rfl
                        have hcz57_1 : wr.cell? ⟨gb123, 1, none⟩ = some (.string a1_1) := (blk_cell BK123.out 1).trans rfl
                        have hcz57_2 : wr.cell? ⟨gb123, 2, none⟩ = some (.string a1_2) := (blk_cell BK123.out 2).trans rfl
                        have hcz57_3 : wr.cell? ⟨gb123, 3, none⟩ = some (.int .i64 a1_3) := (blk_cell BK123.out 3).trans rfl
                        have hcz57_4 : wr.cell? ⟨gb123, 4, none⟩ = some (.int .i64 a1_4) := (blk_cell BK123.out 4).trans rfl
                        have hcz57_5 : wr.cell? ⟨gb123, 5, none⟩ = some (.int .i64 a1_5) := (blk_cell BK123.out 5).trans rfl
                        have hcz57_6 : wr.cell? ⟨gb123, 6, none⟩ = some (.slice A1_6 l1_6.length c1_6) := (blk_cell BK123.out 6).trans rfl
                        have hcz57_7 : wr.cell? ⟨gb123, 7, none⟩ = some (.slice A1_7 l1_7.length c1_7) := (blk_cell BK123.out 7).trans rfl
                        have hcz57_8 : wr.cell? ⟨gb123, 8, none⟩ = some (.int .i64 a1_8) := (blk_cell BK123.out 8).trans rfl
                        have hcz57_9 : wr.cell? ⟨gb123, 9, none⟩ = some (.int .i64 a1_9) := (blk_cell BK123.out 9).trans rfl
                        have hfz57_0 := blk_frozen BK123.out 0
                        have hfz57_1 := blk_frozen BK123.out 1
                        have hfz57_2 := blk_frozen BK123.out 2
                        have hfz57_3 := blk_frozen BK123.out 3
                        have hfz57_4 := blk_frozen BK123.out 4
                        have hfz57_5 := blk_frozen BK123.out 5
                        have hfz57_6 := blk_frozen BK123.out 6
                        have hfz57_7 := blk_frozen BK123.out 7
                        have hfz57_8 := blk_frozen BK123.out 8
                        have hfz57_9 := blk_frozen BK123.out 9
                        have p125 : 0 ≤ (x5_2 : Int) := of_decide_eq_true (by first | (with_reducible assumption) | assumption)
                        have q125 : x5_2 < (l1_6.length : Int) := of_decide_eq_true (by first | (with_reducible assumption) | assumption)
                        obtain ⟨ad125, e125, hx125_0, hx125_1, hx125_2⟩ := at_T42 HR1_6.out x5_2 p125 q125
                        cases e125
                        replace hx125_0 := (HB.out.cell (World.block_lt_of_cell? w _ hx125_0)).trans hx125_0
                        replace hx125_1 := (HB.out.cell (World.block_lt_of_cell? w _ hx125_1)).trans hx125_1
                        replace hx125_2 := (HB.out.cell (World.block_lt_of_cell? w _ hx125_2)).trans hx125_2
                        replace p125 := eq_true p125
                        replace q125 := eq_true q125
                        have p126 : 0 ≤ (x5_2 : Int) := of_decide_eq_true (by first | (with_reducible assumption) | assumption)
                        have q126 : x5_2 < (l0_6.length : Int) := of_decide_eq_true (by first | (with_reducible assumption) | assumption)
                        obtain ⟨ad126, e126, hx126_0, hx126_1, hx126_2⟩ := at_T42 HR0_6.out x5_2 p126 q126
                        obtain rfl : ad124 = ad126 := (by injection e126)
                        replace hx126_0 := (HB.out.cell (World.block_lt_of_cell? w _ hx126_0)).trans hx126_0
                        replace hx126_1 := (HB.out.cell (World.block_lt_of_cell? w _ hx126_1)).trans hx126_1
                        replace hx126_2 := (HB.out.cell (World.block_lt_of_cell? w _ hx126_2)).trans hx126_2
                        replace p126 := eq_true p126
                        replace q126 := eq_true q126
                        have p127 : 0 ≤ (x5_2 : Int) := of_decide_eq_true (by first | (with_reducible assumption) | assumption)
                        have q127 : x5_2 < (l1_6.length : Int) := of_decide_eq_true (by first | (with_reducible assumption) | assumption)
                        obtain ⟨ad127, e127, hx127_0, hx127_1, hx127_2⟩ := at_T42 HR1_6.out x5_2 p127 q127
                        obtain rfl : ad125 = ad127 := (by injection e127)
                        replace hx127_0 := (HB.out.cell (World.block_lt_of_cell? w _ hx127_0)).trans hx127_0
                        replace hx127_1 := (HB.out.cell (World.block_lt_of_cell? w _ hx127_1)).trans hx127_1
                        replace hx127_2 := (HB.out.cell (World.block_lt_of_cell? w _ hx127_2)).trans hx127_2
                        replace p127 := eq_true p127
                        replace q127 := eq_true q127
                        have p128 : 0 ≤ (x5_2 : Int) := of_decide_eq_true (by first | (with_reducible assumption) | assumption)
                        have q128 : x5_2 < (l0_6.length : Int) := of_decide_eq_true (by first | (with_reducible assumption) | assumption)
                        obtain ⟨ad128, e128, hx128_0, hx128_1, hx128_2⟩ := at_T42 HR0_6.out x5_2 p128 q128
                        obtain rfl : ad124 = ad128 := (by injection e128)
                        replace hx128_0 := (HB.out.cell (World.block_lt_of_cell? w _ hx128_0)).trans hx128_0
                        replace hx128_1 := (HB.out.cell (World.block_lt_of_cell? w _ hx128_1)).trans hx128_1
                        replace hx128_2 := (HB.out.cell (World.block_lt_of_cell? w _ hx128_2)).trans hx128_2
                        replace p128 := eq_true p128
                        replace q128 := eq_true q128
                        have p129 : 0 ≤ (x5_2 : Int) := of_decide_eq_true (by first | (with_reducible assumption) | assumption)
                        have q129 : x5_2 < (l1_6.length : Int) := of_decide_eq_true (by first | (with_reducible assumption) | assumption)
                        obtain ⟨ad129, e129, hx129_0, hx129_1, hx129_2⟩ := at_T42 HR1_6.out x5_2 p129 q129
                        obtain rfl : ad125 = ad129 := (by injection e129)
                        replace hx129_0 := (HB.out.cell (World.block_lt_of_cell? w _ hx129_0)).trans hx129_0
                        replace hx129_1 := (HB.out.cell (World.block_lt_of_cell? w _ hx129_1)).trans hx129_1
                        replace hx129_2 := (HB.out.cell (World.block_lt_of_cell? w _ hx129_2)).trans hx129_2
                        replace p129 := eq_true p129
                        replace q129 := eq_true q129
                        go_wp2
                        repeat (go_quiet (fail); try go_wp2)
                        go_roundg k2
                        case measure => have := HJ2.out; have := HK2.out; omega
                        case rel => exact ⟨(wrap64 (x5_2 + 1)), (by first | rfl | (simp; done) | (simp [*]; done)), H', ⟨by have := HJ2.out; have := HK2.out; omega⟩, ⟨by (with_reducible repeat (first | refine blk_drewN ?_ _ | refine blk_drew ?_ | refine blk_alloc ?_ _)); exact BK122.out⟩, ⟨by (with_reducible repeat (first | refine blk_drewN ?_ _ | refine blk_drew ?_ | refine blk_alloc ?_ _)); exact BK123.out⟩, ⟨by repeat (first | (with_reducible first | exact HB.out | apply below_alloc | apply pw_below_drewN | apply below_drew1 | refine below_set ?_ GE122.out | refine below_set ?_ GE123.out) | exact HB.out)⟩⟩
                      · rw [if_neg c54] at H
                        have c54b0 : (((rd_T42 l0_6 x5_2).f2) == ((rd_T42 l1_6 x5_2).f2)) = false := beq_eq_false_iff_ne.mpr c54
                        have c54b1 : (((rd_T42 l0_6 x5_2).f2) != ((rd_T42 l1_6 x5_2).f2)) = true := bne_iff_ne.mpr c54
                        obtain rfl := Option.some.inj H
                        have hnb58 := NB122_123.out
                        have hnc58 := NB123_122.out
                        have hcz59_0 : wr.cell? ⟨gb122, 0, none⟩ = some (.int .i64 a0_0) := (blk_cell BK122.out 0).trans rfl
                        have hcz59_1 : wr.cell? ⟨gb122, 1, none⟩ = some (.string a0_1) := (blk_cell BK122.out 1).trans rfl
                        have hcz59_2 : wr.cell? ⟨gb122, 2, none⟩ = some (.string a0_2) := (blk_cell BK122.out 2).trans rfl
                        have hcz59_3 : wr.cell? ⟨gb122, 3, none⟩ = some (.int .i64 a0_3) := (blk_cell BK122.out 3).trans rfl
                        have hcz59_4 : wr.cell? ⟨gb122, 4, none⟩ = some (.int .i64 a0_4) := (blk_cell BK122.out 4).trans rfl
                        have hcz59_5 : wr.cell? ⟨gb122, 5, none⟩ = some (.int .i64 a0_5) := (blk_cell BK122.out 5).trans rfl
                        have hcz59_6 : wr.cell? ⟨gb122, 6, none⟩ = some (.slice A0_6 l0_6.length c0_6) := (blk_cell BK122.out 6).trans rfl
                        have hcz59_7 : wr.cell? ⟨gb122, 7, none⟩ = some (.slice A0_7 l0_7.length c0_7) := (blk_cell BK122.out 7).trans rfl
                        have hcz59_8 : wr.cell? ⟨gb122, 8, none⟩ = some (.int .i64 a0_8) := (blk_cell BK122.out 8).trans rfl
                        have hcz59_9 : wr.cell? ⟨gb122, 9, none⟩ = some (.int .i64 a0_9) := (blk_cell BK122.out 9).trans rfl
                        have hfz59_0 := blk_frozen BK122.out 0
                        have hfz59_1 := blk_frozen BK122.out 1
                        have hfz59_2 := blk_frozen BK122.out 2
                        have hfz59_3 := blk_frozen BK122.out 3
                        have hfz59_4 := blk_frozen BK122.out 4
                        have hfz59_5 := blk_frozen BK122.out 5
                        have hfz59_6 := blk_frozen BK122.out 6
                        have hfz59_7 := blk_frozen BK122.out 7
                        have hfz59_8 := blk_frozen BK122.out 8
                        have hfz59_9 := blk_frozen BK122.out 9
                        have p124 : 0 ≤ (x5_2 : Int) := of_decide_eq_true (by first | (with_reducible assumption) | assumption)
                        have q124 : x5_2 < (l0_6.length : Int) := of_decide_eq_true (by first | (with_reducible assumption) | assumption)
                        obtain ⟨ad124, e124, hx124_0, hx124_1, hx124_2⟩ := at_T42 HR0_6.out x5_2 p124 q124
                        cases e124
                        replace hx124_0 := (HB.out.cell (World.block_lt_of_cell? w _ hx124_0)).trans hx124_0
                        replace hx124_1 := (HB.out.cell (World.block_lt_of_cell? w _ hx124_1)).trans hx124_1
                        replace hx124_2 := (HB.out.cell (World.block_lt_of_cell? w _ hx124_2)).trans hx124_2
                        replace p124 := eq_true p124
                        replace q124 := eq_true q124
                        have hcz60_0 : wr.cell? ⟨gb123, 0, none⟩ = some (.int .i64 a1_0) := (blk_cell BK123.out 0).trans rfl
                        have hcz60_1 : wr.cell? ⟨gb123, 1, none⟩ = some (.string a1_1) := (blk_cell BK123.out 1).trans rfl
                        have hcz60_2 : wr.cell? ⟨gb123, 2, none⟩ = some (.string a1_2) := (blk_cell BK123.out 2).trans rfl
                        have hcz60_3 : wr.cell? ⟨gb123, 3, none⟩ = some (.int .i64 a1_3) := (blk_cell BK123.out 3).trans rfl
                        have hcz60_4 : wr.cell? ⟨gb123, 4, none⟩ = some (.int .i64 a1_4) := (blk_cell BK123.out 4).trans rfl
                        have hcz60_5 : wr.cell? ⟨gb123, 5, none⟩ = some (.int .i64 a1_5) := (blk_cell BK123.out 5).trans rfl
                        have hcz60_6 : wr.cell? ⟨gb123, 6, none⟩ = some (.slice A1_6 l1_6.length c1_6) := (blk_cell BK123.out 6).trans rfl
                        have hcz60_7 : wr.cell? ⟨gb123, 7, none⟩ = some (.slice A1_7 l1_7.length c1_7) := (blk_cell BK123.out 7).trans rfl
                        have hcz60_8 : wr.cell? ⟨gb123, 8, none⟩ = some (.int .i64 a1_8) := (blk_cell BK123.out 8).trans rfl
                        have hcz60_9 : wr.cell? ⟨gb123, 9, none⟩ = some (.int .i64 a1_9) := (blk_cell BK123.out 9).trans rfl
                        have hfz60_0 := blk_frozen BK123.out 0
                        have hfz60_1 := blk_frozen BK123.out 1
                        have hfz60_2 := blk_frozen BK123.out 2
                        have hfz60_3 := blk_frozen BK123.out 3
                        have hfz60_4 := blk_frozen BK123.out 4
                        have hfz60_5 := blk_frozen BK123.out 5
                        have hfz60_6 := blk_frozen BK123.out 6
                        have hfz60_7 := blk_frozen BK123.out 7
                        have hfz60_8 := blk_frozen BK123.out 8
                        have hfz60_9 := blk_frozen BK123.out 9
                        have p125 : 0 ≤ (x5_2 : Int) := of_decide_eq_true (by first | (with_reducible assumption) | assumption)
                        have q125 : x5_2 < (l1_6.length : Int) := of_decide_eq_true (by first | (with_reducible assumption) | assumption)
                        obtain ⟨ad125, e125, hx125_0, hx125_1, hx125_2⟩ := at_T42 HR1_6.out x5_2 p125 q125
                        cases e125
                        replace hx125_0 := (HB.out.cell (World.block_lt_of_cell? w _ hx125_0)).trans hx125_0
                        replace hx125_1 := (HB.out.cell (World.block_lt_of_cell? w _ hx125_1)).trans hx125_1
                        replace hx125_2 := (HB.out.cell (World.block_lt_of_cell? w _ hx125_2)).trans hx125_2
                        replace p125 := eq_true p125
                        replace q125 := eq_true q125
                        have p126 : 0 ≤ (x5_2 : Int) := of_decide_eq_true (by first | (with_reducible assumption) | assumption)
                        have q126 : x5_2 < (l0_6.length : Int) := of_decide_eq_true (by first | (with_reducible assumption) | assumption)
                        obtain ⟨ad126, e126, hx126_0, hx126_1, hx126_2⟩ := at_T42 HR0_6.out x5_2 p126 q126
                        obtain rfl : ad124 = ad126 := (by injection e126)
                        replace hx126_0 := (HB.out.cell (World.block_lt_of_cell? w _ hx126_0)).trans hx126_0
                        replace hx126_1 := (HB.out.cell (World.block_lt_of_cell? w _ hx126_1)).trans hx126_1
                        replace hx126_2 := (HB.out.cell (World.block_lt_of_cell? w _ hx126_2)).trans hx126_2
                        replace p126 := eq_true p126
                        replace q126 := eq_true q126
                        have p127 : 0 ≤ (x5_2 : Int) := of_decide_eq_true (by first | (with_reducible assumption) | assumption)
                        have q127 : x5_2 < (l1_6.length : Int) := of_decide_eq_true (by first | (with_reducible assumption) | assumption)
                        obtain ⟨ad127, e127, hx127_0, hx127_1, hx127_2⟩ := at_T42 HR1_6.out x5_2 p127 q127
                        obtain rfl : ad125 = ad127 := (by injection e127)
                        replace hx127_0 := (HB.out.cell (World.block_lt_of_cell? w _ hx127_0)).trans hx127_0
                        replace hx127_1 := (HB.out.cell (World.block_lt_of_cell? w _ hx127_1)).trans hx127_1
                        replace hx127_2 := (HB.out.cell (World.block_lt_of_cell? w _ hx127_2)).trans hx127_2
                        replace p127 := eq_true p127
                        replace q127 := eq_true q127
                        have p128 : 0 ≤ (x5_2 : Int) := of_decide_eq_true (by first | (with_reducible assumption) | assumption)
                        have q128 : x5_2 < (l0_6.length : Int) := of_decide_eq_true (by first | (with_reducible assumption) | assumption)
                        obtain ⟨ad128, e128, hx128_0, hx128_1, hx128_2⟩ := at_T42 HR0_6.out x5_2 p128 q128
                        obtain rfl : ad124 = ad128 := (by injection e128)
                        replace hx128_0 := (HB.out.cell (World.block_lt_of_cell? w _ hx128_0)).trans hx128_0
                        replace hx128_1 := (HB.out.cell (World.block_lt_of_cell? w _ hx128_1)).trans hx128_1
                        replace hx128_2 := (HB.out.cell (World.block_lt_of_cell? w _ hx128_2)).trans hx128_2
                        replace p128 := eq_true p128
                        replace q128 := eq_true q128
                        have p129 : 0 ≤ (x5_2 : Int) := of_decide_eq_true (by first | (with_reducible assumption) | assumption)
                        have q129 : x5_2 < (l1_6.length : Int) := of_decide_eq_true (by first | (with_reducible assumption) | assumption)
                        obtain ⟨ad129, e129, hx129_0, hx129_1, hx129_2⟩ := at_T42 HR1_6.out x5_2 p129 q129
                        obtain rfl : ad125 = ad129 := (by injection e129)
                        replace hx129_0 := (HB.out.cell (World.block_lt_of_cell? w _ hx129_0)).trans hx129_0
                        replace hx129_1 := (HB.out.cell (World.block_lt_of_cell? w _ hx129_1)).trans hx129_1
                        replace hx129_2 := (HB.out.cell (World.block_lt_of_cell? w _ hx129_2)).trans hx129_2
                        replace p129 := eq_true p129
                        replace q129 := eq_true q129
                        go_wp2
                        repeat (go_quiet (fail); try go_wp2)
                        go_ret
                        exact ⟨by first | rfl | (simp [errW_none, errW_some] <;> rfl) | (simp [*, errW_none, errW_some] <;> rfl), by repeat (first | (with_reducible first | exact HB.out | apply below_alloc | apply pw_below_drewN | apply below_drew1 | refine below_set ?_ GE122.out | refine below_set ?_ GE123.out) | exact HB.out)⟩
                  · rw [if_neg c49] at H
                    have c49b0 : (((rd_T42 l0_6 x5_2).f0).toList == ((rd_T42 l1_6 x5_2).f0).toList) = false := beq_eq_false_iff_ne.mpr c49
                    have c49b1 : (((rd_T42 l0_6 x5_2).f0).toList != ((rd_T42 l1_6 x5_2).f0).toList) = true := bne_iff_ne.mpr c49
                    obtain rfl := Option.some.inj H
                    have hnb61 := NB122_123.out
                    have hnc61 := NB123_122.out
                    have hcz62_0 : wr.cell? ⟨gb122, 0, none⟩ = some (.int .i64 a0_0) := (blk_cell BK122.out 0).trans rfl
                    have hcz62_1 : wr.cell? ⟨gb122, 1, none⟩ = some (.string a0_1) := (blk_cell BK122.out 1).trans rfl
                    have hcz62_2 : wr.cell? ⟨gb122, 2, none⟩ = some (.string a0_2) := (blk_cell BK122.out 2).trans rfl
                    have hcz62_3 : wr.cell? ⟨gb122, 3, none⟩ = some (.int .i64 a0_3) := (blk_cell BK122.out 3).trans rfl
                    have hcz62_4 : wr.cell? ⟨gb122, 4, none⟩ = some (.int .i64 a0_4) := (blk_cell BK122.out 4).trans rfl
                    have hcz62_5 : wr.cell? ⟨gb122, 5, none⟩ = some (.int .i64 a0_5) := (blk_cell BK122.out 5).trans rfl
                    have hcz62_6 : wr.cell? ⟨gb122, 6, none⟩ = some (.slice A0_6 l0_6.length c0_6) := (blk_cell BK122.out 6).trans rfl
                    have hcz62_7 : wr.cell? ⟨gb122, 7, none⟩ = some (.slice A0_7 l0_7.length c0_7) := (blk_cell BK122.out 7).trans rfl
                    have hcz62_8 : wr.cell? ⟨gb122, 8, none⟩ = some (.int .i64 a0_8) := (blk_cell BK122.out 8).trans rfl
                    have hcz62_9 : wr.cell? ⟨gb122, 9, none⟩ = some (.int .i64 a0_9) := (blk_cell BK122.out 9).trans rfl
                    have hfz62_0 := blk_frozen BK122.out 0
                    have hfz62_1 := blk_frozen BK122.out 1
                    have hfz62_2 := blk_frozen BK122.out 2
                    have hfz62_3 := blk_frozen BK122.out 3
                    have hfz62_4 := blk_frozen BK122.out 4
                    have hfz62_5 := blk_frozen BK122.out 5
                    have hfz62_6 := blk_frozen BK122.out 6
                    have hfz62_7 := blk_frozen BK122.out 7
                    have hfz62_8 := blk_frozen BK122.out 8
                    have hfz62_9 := blk_frozen BK122.out 9
                    have p124 : 0 ≤ (x5_2 : Int) := of_decide_eq_true (by first | (with_reducible assumption) | assumption)
                    have q124 : x5_2 < (l0_6.length : Int) := of_decide_eq_true (by first | (with_reducible assumption) | assumption)
                    obtain ⟨ad124, e124, hx124_0, hx124_1, hx124_2⟩ := at_T42 HR0_6.out x5_2 p124 q124
                    cases e124
                    replace hx124_0 := (HB.out.cell (World.block_lt_of_cell? w _ hx124_0)).trans hx124_0
                    replace hx124_1 := (HB.out.cell (World.block_lt_of_cell? w _ hx124_1)).trans hx124_1
                    replace hx124_2 := (HB.out.cell (World.block_lt_of_cell? w _ hx124_2)).trans hx124_2
                    replace p124 := eq_true p124
                    replace q124 := eq_true q124
                    have hcz63_0 : wr.cell? ⟨gb123, 0, none⟩ = some (.int .i64 a1_0) := (blk_cell BK123.out 0).trans rfl
                    have hcz63_1 : wr.cell? ⟨gb123, 1, none⟩ = some (.string a1_1) := (blk_cell BK123.out 1).trans rfl
                    have hcz63_2 : wr.cell? ⟨gb123, 2, none⟩ = some (.string a1_2) := (blk_cell BK123.out 2).trans rfl
                    have hcz63_3 : wr.cell? ⟨gb123, 3, none⟩ = some (.int .i64 a1_3) := (blk_cell BK123.out 3).trans rfl
                    have hcz63_4 : wr.cell? ⟨gb123, 4, none⟩ = some (.int .i64 a1_4) := (blk_cell BK123.out 4).trans rfl
                    have hcz63_5 : wr.cell? ⟨gb123, 5, none⟩ = some (.int .i64 a1_5) := (blk_cell BK123.out 5).trans rfl
                    have hcz63_6 : wr.cell? ⟨gb123, 6, none⟩ = some (.slice A1_6 l1_6.length c1_6) := (blk_cell BK123.out 6).trans rfl
                    have hcz63_7 : wr.cell? ⟨gb123, 7, none⟩ = some (.slice A1_7 l1_7.length c1_7) := (blk_cell BK123.out 7).trans rfl
                    have hcz63_8 : wr.cell? ⟨gb123, 8, none⟩ = some (.int .i64 a1_8) := (blk_cell BK123.out 8).trans rfl
                    have hcz63_9 : wr.cell? ⟨gb123, 9, none⟩ = some (.int .i64 a1_9) := (blk_cell BK123.out 9).trans rfl
                    have hfz63_0 := blk_frozen BK123.out 0
                    have hfz63_1 := blk_frozen BK123.out 1
                    have hfz63_2 := blk_frozen BK123.out 2
                    have hfz63_3 := blk_frozen BK123.out 3
                    have hfz63_4 := blk_frozen BK123.out 4
                    have hfz63_5 := blk_frozen BK123.out 5
                    have hfz63_6 := blk_frozen BK123.out 6
                    have hfz63_7 := blk_frozen BK123.out 7
                    have hfz63_8 := blk_frozen BK123.out 8
                    have hfz63_9 := blk_frozen BK123.out 9
                    have p125 : 0 ≤ (x5_2 : Int) := of_decide_eq_true (by first | (with_reducible assumption) | assumption)
                    have q125 : x5_2 < (l1_6.length : Int) := of_decide_eq_true (by first | (with_reducible assumption) | assumption)
                    obtain ⟨ad125, e125, hx125_0, hx125_1, hx125_2⟩ := at_T42 HR1_6.out x5_2 p125 q125
                    cases e125
                    replace hx125_0 := (HB.out.cell (World.block_lt_of_cell? w _ hx125_0)).trans hx125_0
                    replace hx125_1 := (HB.out.cell (World.block_lt_of_cell? w _ hx125_1)).trans hx125_1
                    replace hx125_2 := (HB.out.cell (World.block_lt_of_cell? w _ hx125_2)).trans hx125_2
                    replace p125 := eq_true p125
                    replace q125 := eq_true q125
                    go_wp2
                    repeat (go_quiet (fail); try go_wp2)
                    go_ret
                    exact ⟨by first | rfl | (simp [errW_none, errW_some] <;> rfl) | (simp [*, errW_none, errW_some] <;> rfl), by repeat (first | (with_reducible first | exact HB.out | apply below_alloc | apply pw_below_drewN | apply below_drew1 | refine below_set ?_ GE122.out | refine below_set ?_ GE123.out) | exact HB.out)⟩
                · rw [if_neg c48] at H
                  exact absurd H (by simp)
              · rw [if_neg c47] at H
                exact absurd H (by simp)
            · rw [if_neg c46] at H
              have c46b0 : decide (x5_2 < (l0_6.length : Int)) = false := decide_eq_false c46
              clear c46
              have H' := Aside0.mk H
              clear H
              have hnb64 := NB122_123.out
              have hnc64 := NB123_122.out
              have hcz65_0 : wr.cell? ⟨gb122, 0, none⟩ = some (.int .i64 a0_0) := (blk_cell BK122.out 0).trans rfl
              have hcz65_1 : wr.cell? ⟨gb122, 1, none⟩ = some (.string a0_1) := (blk_cell BK122.out 1).trans rfl
              have hcz65_2 : wr.cell? ⟨gb122, 2, none⟩ = some (.string a0_2) := (blk_cell BK122.out 2).trans rfl
              have hcz65_3 : wr.cell? ⟨gb122, 3, none⟩ = some (.int .i64 a0_3) := (blk_cell BK122.out 3).trans rfl
              have hcz65_4 : wr.cell? ⟨gb122, 4, none⟩ = some (.int .i64 a0_4) := (blk_cell BK122.out 4).trans rfl
              have hcz65_5 : wr.cell? ⟨gb122, 5, none⟩ = some (.int .i64 a0_5) := (blk_cell BK122.out 5).trans rfl
              have hcz65_6 : wr.cell? ⟨gb122, 6, none⟩ = some (.slice A0_6 l0_6.length c0_6) := (blk_cell BK122.out 6).trans rfl
              have hcz65_7 : wr.cell? ⟨gb122, 7, none⟩ = some (.slice A0_7 l0_7.length c0_7) := (blk_cell BK122.out 7).trans rfl
              have hcz65_8 : wr.cell? ⟨gb122, 8, none⟩ = some (.int .i64 a0_8) := (blk_cell BK122.out 8).trans rfl
              have hcz65_9 : wr.cell? ⟨gb122, 9, none⟩ = some (.int .i64 a0_9) := (blk_cell BK122.out 9).trans rfl
              have hfz65_0 := blk_frozen BK122.out 0
              have hfz65_1 := blk_frozen BK122.out 1
              have hfz65_2 := blk_frozen BK122.out 2
              have hfz65_3 := blk_frozen BK122.out 3
              have hfz65_4 := blk_frozen BK122.out 4
              have hfz65_5 := blk_frozen BK122.out 5
              have hfz65_6 := blk_frozen BK122.out 6
              have hfz65_7 := blk_frozen BK122.out 7
              have hfz65_8 := blk_frozen BK122.out 8
              have hfz65_9 := blk_frozen BK122.out 9
              go_wp2
              repeat (go_quiet (fail); try go_wp2)
              go_loopg [6] k2 (fun kq v6 w' => ∃ (x6_3 : Int), v6 = .int .i64 x6_3 ∧ Aside0 (spinetref13_Alike.l1 kq x6_3 a0_0 a0_1 a0_2 a0_3 a0_4 a0_5 l0_6 l0_7 a0_8 a0_9 a1_0 a1_1 a1_2 a1_3 a1_4 a1_5 l1_6 l1_7 a1_8 a1_9 = some r) ∧ Aside0 (kq ≤ k2) ∧ Aside0 (w'.heap[gb122]? = some (.cells #[.int .i64 a0_0, .string a0_1, .string a0_2, .int .i64 a0_3, .int .i64 a0_4, .int .i64 a0_5, (.slice A0_6 l0_6.length c0_6), (.slice A0_7 l0_7.length c0_7), .int .i64 a0_8, .int .i64 a0_9] 40 (0, 0))) ∧ Aside0 (w'.heap[gb123]? = some (.cells #[.int .i64 a1_0, .string a1_1, .string a1_2, .int .i64 a1_3, .int .i64 a1_4, .int .i64 a1_5, (.slice A1_6 l1_6.length c1_6), (.slice A1_7 l1_7.length c1_7), .int .i64 a1_8, .int .i64 a1_9] 40 (0, 0))) ∧ Aside0 (Below w.heap.size w w'))
              case atStart => exact ⟨(0), (by first | rfl | (simp; done) | (simp [*]; done)), H', ⟨Nat.le_refl _⟩, ⟨by (with_reducible repeat (first | refine blk_drewN ?_ _ | refine blk_drew ?_ | refine blk_alloc ?_ _)); exact BK122.out⟩, ⟨by (with_reducible repeat (first | refine blk_drewN ?_ _ | refine blk_drew ?_ | refine blk_alloc ?_ _)); exact BK123.out⟩, ⟨by repeat (first | (with_reducible first | exact HB.out | apply below_alloc | apply pw_below_drewN | apply below_drew1 | refine below_set ?_ GE122.out | refine below_set ?_ GE123.out) | exact HB.out)⟩⟩
              case round =>
                clear H'
                try clear c1
                try clear p1
                try clear q1
                try clear hx1
                try clear p2
                try clear c4
                try clear c5
                try clear c6
                try clear p6
                try clear p12
                try clear q12
                try clear hx12
                try clear c46
                try clear c46b0
                try clear c47
                try clear c47b0
                try clear c48
                try clear c48b0
                try clear c49
                try clear c49b0
                try clear c49b1
                try clear c50
                try clear c50b0
                try clear c50b1
                try clear c50b2
                try clear c51
                try clear c54
                try clear c54b0
                try clear c54b1
                try clear c55
                try clear c58
                try clear c61
                try clear c64
                try clear p64
                try clear hcz52_0
                try clear hcz52_1
                try clear hcz52_2
                try clear hcz52_3
                try clear hcz52_4
                try clear hcz52_5
                try clear hcz52_6
                try clear hcz52_7
                try clear hcz52_8
                try clear hcz52_9
                try clear hcz53_0
                try clear hcz53_1
                try clear hcz53_2
                try clear hcz53_3
                try clear hcz53_4
                try clear hcz53_5
                try clear hcz53_6
                try clear hcz53_7
                try clear hcz53_8
                try clear hcz53_9
                try clear hcz56_0
                try clear hcz56_1
                try clear hcz56_2
                try clear hcz56_3
                try clear hcz56_4
                try clear hcz56_5
                try clear hcz56_6
                try clear hcz56_7
                try clear hcz56_8
                try clear hcz56_9
                try clear hcz57_0
                try clear hcz57_1
                try clear hcz57_2
                try clear hcz57_3
                try clear hcz57_4
                try clear hcz57_5
                try clear hcz57_6
                try clear hcz57_7
                try clear hcz57_8
                try clear hcz57_9
                try clear hcz59_0
                try clear hcz59_1
                try clear hcz59_2
                try clear hcz59_3
                try clear hcz59_4
                try clear hcz59_5
                try clear hcz59_6
                try clear hcz59_7
                try clear hcz59_8
                try clear hcz59_9
                try clear hcz60_0
                try clear hcz60_1
                try clear hcz60_2
                try clear hcz60_3
                try clear hcz60_4
                try clear hcz60_5
                try clear hcz60_6
                try clear hcz60_7
                try clear hcz60_8
                try clear hcz60_9
                try clear hcz62_0
                try clear hcz62_1
                try clear hcz62_2
                try clear hcz62_3
                try clear hcz62_4
                try clear hcz62_5
                try clear hcz62_6
                try clear hcz62_7
                try clear hcz62_8
                try clear hcz62_9
                try clear hcz63_0
                try clear hcz63_1
                try clear hcz63_2
                try clear hcz63_3
                try clear hcz63_4
                try clear hcz63_5
                try clear hcz63_6
                try clear hcz63_7
                try clear hcz63_8
                try clear hcz63_9
                try clear hcz65_0
                try clear hcz65_1
                try clear hcz65_2
                try clear hcz65_3
                try clear hcz65_4
                try clear hcz65_5
                try clear hcz65_6
                try clear hcz65_7
                try clear hcz65_8
                try clear hcz65_9
                try clear hfz20_7
                try clear hfz20_8
                try clear hfz20_9
                try clear hfz22_0
                try clear hfz22_1
                try clear hfz22_2
                try clear hfz22_3
                try clear hfz22_4
                try clear hfz22_5
                try clear hfz22_6
                try clear hfz22_7
                try clear hfz22_8
                try clear hfz22_9
                try clear hfz23_0
                try clear hfz23_1
                try clear hfz23_2
                try clear hfz23_3
                try clear hfz23_4
                try clear hfz23_5
                try clear hfz23_6
                try clear hfz23_7
                try clear hfz23_8
                try clear hfz23_9
                try clear hfz25_0
                try clear hfz25_1
                try clear hfz25_2
                try clear hfz25_3
                try clear hfz25_4
                try clear hfz25_5
                try clear hfz25_6
                try clear hfz25_7
                try clear hfz25_8
                try clear hfz25_9
                try clear hfz26_0
                try clear hfz26_1
                try clear hfz26_2
                try clear hfz26_3
                try clear hfz26_4
                try clear hfz26_5
                try clear hfz26_6
                try clear hfz26_7
                try clear hfz26_8
                try clear hfz26_9
                try clear hfz28_0
                try clear hfz28_1
                try clear hfz28_2
                try clear hfz28_3
                try clear hfz28_4
                try clear hfz28_5
                try clear hfz28_6
                try clear hfz28_7
                try clear hfz28_8
                try clear hfz28_9
                try clear hfz29_0
                try clear hfz29_1
                try clear hfz29_2
                try clear hfz29_3
                try clear hfz29_4
                try clear hfz29_5
                try clear hfz29_6
                try clear hfz29_7
                try clear hfz29_8
                try clear hfz29_9
                try clear hfz31_0
                try clear hfz31_1
                try clear hfz31_2
                try clear hfz31_3
                try clear hfz31_4
                try clear hfz31_5
                try clear hfz31_6
                try clear hfz31_7
                try clear hfz31_8
                try clear hfz31_9
                try clear hfz32_0
                try clear hfz32_1
                try clear hfz32_2
                try clear hfz32_3
                try clear hfz32_4
                try clear hfz32_5
                try clear hfz32_6
                try clear hfz32_7
                try clear hfz32_8
                try clear hfz32_9
                try clear hfz34_0
                try clear hfz34_1
                try clear hfz34_2
                try clear hfz34_3
                try clear hfz34_4
                try clear hfz34_5
                try clear hfz34_6
                try clear hfz34_7
                try clear hfz34_8
                try clear hfz34_9
                try clear hfz35_0
                try clear hfz35_1
                try clear hfz35_2
                try clear hfz35_3
                try clear hfz35_4
                try clear hfz35_5
                try clear hfz35_6
                try clear hfz35_7
                try clear hfz35_8
                try clear hfz35_9
                try clear hfz37_0
                try clear hfz37_1
                try clear hfz37_2
                try clear hfz37_3
                try clear hfz37_4
                try clear hfz37_5
                try clear hfz37_6
                try clear hfz37_7
                try clear hfz37_8
                try clear hfz37_9
                try clear hfz38_0
                try clear hfz38_1
                try clear hfz38_2
                try clear hfz38_3
                try clear hfz38_4
                try clear hfz38_5
                try clear hfz38_6
                try clear hfz38_7
                try clear hfz38_8
                try clear hfz38_9
                try clear hfz40_0
                try clear hfz40_1
                try clear hfz40_2
                try clear hfz40_3
                try clear hfz40_4
                try clear hfz40_5
                try clear hfz40_6
                try clear hfz40_7
                try clear hfz40_8
                try clear hfz40_9
                try clear hfz41_0
                try clear hfz41_1
                try clear hfz41_2
                try clear hfz41_3
                try clear hfz41_4
                try clear hfz41_5
                try clear hfz41_6
                try clear hfz41_7
                try clear hfz41_8
                try clear hfz41_9
                try clear hfz43_0
                try clear hfz43_1
                try clear hfz43_2
                try clear hfz43_3
                try clear hfz43_4
                try clear hfz43_5
                try clear hfz43_6
                try clear hfz43_7
                try clear hfz43_8
                try clear hfz43_9
                try clear hfz44_0
                try clear hfz44_1
                try clear hfz44_2
                try clear hfz44_3
                try clear hfz44_4
                try clear hfz44_5
                try clear hfz44_6
                try clear hfz44_7
                try clear hfz44_8
                try clear hfz44_9
                try clear hfz52_0
                try clear hfz52_1
                try clear hfz52_2
                try clear hfz52_3
                try clear hfz52_4
                try clear hfz52_5
                try clear hfz52_6
                try clear hfz52_7
                try clear hfz52_8
                try clear hfz52_9
                try clear hfz53_0
                try clear hfz53_1
                try clear hfz53_2
                try clear hfz53_3
                try clear hfz53_4
                try clear hfz53_5
                try clear hfz53_6
                try clear hfz53_7
                try clear hfz53_8
                try clear hfz53_9
                try clear hfz56_0
                try clear hfz56_1
                try clear hfz56_2
                try clear hfz56_3
                try clear hfz56_4
                try clear hfz56_5
                try clear hfz56_6
                try clear hfz56_7
                try clear hfz56_8
                try clear hfz56_9
                try clear hfz57_0
                try clear hfz57_1
                try clear hfz57_2
                try clear hfz57_3
                try clear hfz57_4
                try clear hfz57_5
                try clear hfz57_6
                try clear hfz57_7
                try clear hfz57_8
                try clear hfz57_9
                try clear hfz59_0
                try clear hfz59_1
                try clear hfz59_2
                try clear hfz59_3
                try clear hfz59_4
                try clear hfz59_5
                try clear hfz59_6
                try clear hfz59_7
                try clear hfz59_8
                try clear hfz59_9
                try clear hfz60_0
                try clear hfz60_1
                try clear hfz60_2
                try clear hfz60_3
                try clear hfz60_4
                try clear hfz60_5
                try clear hfz60_6
                try clear hfz60_7
                try clear hfz60_8
                try clear hfz60_9
                try clear hfz62_0
                try clear hfz62_1
                try clear hfz62_2
                try clear hfz62_3
                try clear hfz62_4
                try clear hfz62_5
                try clear hfz62_6
                try clear hfz62_7
                try clear hfz62_8
                try clear hfz62_9
                try clear hfz63_0
                try clear hfz63_1
                try clear hfz63_2
                try clear hfz63_3
                try clear hfz63_4
                try clear hfz63_5
                try clear hfz63_6
                try clear hfz63_7
                try clear hfz63_8
                try clear hfz63_9
                try clear hfz65_0
                try clear hfz65_1
                try clear hfz65_2
                try clear hfz65_3
                try clear hfz65_4
                try clear hfz65_5
                try clear hfz65_6
                try clear hfz65_7
                try clear hfz65_8
                try clear hfz65_9
                try clear hx124_0
                try clear hx124_1
                try clear hx124_2
                try clear hx125_0
                try clear hx125_1
                try clear hx125_2
                try clear hx126_0
                try clear hx126_1
                try clear hx126_2
                try clear hx127_0
                try clear hx127_1
                try clear hx127_2
                try clear hx128_0
                try clear hx128_1
                try clear hx128_2
                try clear hx129_0
                try clear hx129_1
                try clear hx129_2
                try clear p124
                try clear p125
                try clear p126
                try clear p127
                try clear p128
                try clear p129
                try clear p2
                try clear q124
                try clear q125
                try clear q126
                try clear q127
                try clear q128
                try clear q129
                obtain ⟨x6_3, rfl, HA, HK3, BK122, BK123, HB⟩ := hrel
                cases gk with
                | zero => exact absurd HA.out (by simp [spinetref13_Alike.l1])
                | succ k3 =>
                  have H := HA.out
                  clear HA
                  simp only [spinetref13_Alike.l1] at H
                  by_cases c66 : x6_3 < (l0_7.length : Int)
                  · rw [if_pos c66] at H
                    have c66b0 : decide (x6_3 < (l0_7.length : Int)) = true := decide_eq_true c66
                    clear c66
                    by_cases c67 : 0 ≤ x6_3
                    · rw [if_pos c67] at H
                      have c67b0 : decide (0 ≤ x6_3) = true := decide_eq_true c67
                      clear c67
                      by_cases c68 : x6_3 < (l1_7.length : Int)
                      · rw [if_pos c68] at H
                        have c68b0 : decide (x6_3 < (l1_7.length : Int)) = true := decide_eq_true c68
                        clear c68
                        by_cases c69 : (((rd_T47 l0_7 x6_3).f0) != ((rd_T47 l1_7 x6_3).f0)) = true
                        · rw [if_pos c69] at H
                          have c69b0 : (((rd_T47 l0_7 x6_3).f0) != ((rd_T47 l1_7 x6_3).f0)) = true := c69
                          (try (have c69b1 : decide (((rd_T47 l0_7 x6_3).f0) = ((rd_T47 l1_7 x6_3).f0)) = false := by simpa using c69))
                          (try (have c69b2 : (((rd_T47 l0_7 x6_3).f0) == ((rd_T47 l1_7 x6_3).f0)) = false := by simpa using c69))
                          (try (have c69b3 : ¬ (((rd_T47 l0_7 x6_3).f0) = ((rd_T47 l1_7 x6_3).f0)) := by simpa using c69))
                          clear c69
                          obtain rfl := Option.some.inj H
                          have hnb70 := NB122_123.out
                          have hnc70 := NB123_122.out
                          have hcz71_0 : wr.cell? ⟨gb122, 0, none⟩ = some (.int .i64 a0_0) := (blk_cell BK122.out 0).trans rfl
                          have hcz71_1 : wr.cell? ⟨gb122, 1, none⟩ = some (.string a0_1) := (blk_cell BK122.out 1).trans rfl
                          have hcz71_2 : wr.cell? ⟨gb122, 2, none⟩ = some (.string a0_2) := (blk_cell BK122.out 2).trans rfl
                          have hcz71_3 : wr.cell? ⟨gb122, 3, none⟩ = some (.int .i64 a0_3) := (blk_cell BK122.out 3).trans rfl
                          have hcz71_4 : wr.cell? ⟨gb122, 4, none⟩ = some (.int .i64 a0_4) := (blk_cell BK122.out 4).trans rfl
                          have hcz71_5 : wr.cell? ⟨gb122, 5, none⟩ = some (.int .i64 a0_5) := (blk_cell BK122.out 5).trans rfl
                          have hcz71_6 : wr.cell? ⟨gb122, 6, none⟩ = some (.slice A0_6 l0_6.length c0_6) := (blk_cell BK122.out 6).trans rfl
                          have hcz71_7 : wr.cell? ⟨gb122, 7, none⟩ = some (.slice A0_7 l0_7.length c0_7) := (blk_cell BK122.out 7).trans rfl
                          have hcz71_8 : wr.cell? ⟨gb122, 8, none⟩ = some (.int .i64 a0_8) := (blk_cell BK122.out 8).trans rfl
                          have hcz71_9 : wr.cell? ⟨gb122, 9, none⟩ = some (.int .i64 a0_9) := (blk_cell BK122.out 9).trans rfl
                          have hfz71_0 := blk_frozen BK122.out 0
                          have hfz71_1 := blk_frozen BK122.out 1
                          have hfz71_2 := blk_frozen BK122.out 2
                          have hfz71_3 := blk_frozen BK122.out 3
                          have hfz71_4 := blk_frozen BK122.out 4
                          have hfz71_5 := blk_frozen BK122.out 5
                          have hfz71_6 := blk_frozen BK122.out 6
                          have hfz71_7 := blk_frozen BK122.out 7
                          have hfz71_8 := blk_frozen BK122.out 8
                          have hfz71_9 := blk_frozen BK122.out 9
                          have p130 : 0 ≤ (x6_3 : Int) := of_decide_eq_true (by first | (with_reducible assumption) | assumption)
                          have q130 : x6_3 < (l0_7.length : Int) := of_decide_eq_true (by first | (with_reducible assumption) | assumption)
                          obtain ⟨ad130, e130, hx130_0, hx130_1⟩ := at_T47 HR0_7.out x6_3 p130 q130
                          cases e130
                          replace hx130_0 := (HB.out.cell (World.block_lt_of_cell? w _ hx130_0)).trans hx130_0
                          replace hx130_1 := (HB.out.cell (World.block_lt_of_cell? w _ hx130_1)).trans hx130_1
                          replace p130 := eq_true p130
                          replace q130 := eq_true q130
                          have hcz72_0 : wr.cell? ⟨gb123, 0, none⟩ = some (.int .i64 a1_0) := (blk_cell BK123.out 0).trans rfl
                          have hcz72_1 : wr.cell? ⟨gb123, 1, none⟩ = some (.string a1_1) := (blk_cell BK123.out 1).trans rfl
                          have hcz72_2 : wr.cell? ⟨gb123, 2, none⟩ = some (.string a1_2) := (blk_cell BK123.out 2).trans rfl
                          have hcz72_3 : wr.cell? ⟨gb123, 3, none⟩ = some (.int .i64 a1_3) := (blk_cell BK123.out 3).trans rfl
                          have hcz72_4 : wr.cell? ⟨gb123, 4, none⟩ = some (.int .i64 a1_4) := (blk_cell BK123.out 4).trans rfl
                          have hcz72_5 : wr.cell? ⟨gb123, 5, none⟩ = some (.int .i64 a1_5) := (blk_cell BK123.out 5).trans rfl
                          have hcz72_6 : wr.cell? ⟨gb123, 6, none⟩ = some (.slice A1_6 l1_6.length c1_6) := (blk_cell BK123.out 6).trans rfl
                          have hcz72_7 : wr.cell? ⟨gb123, 7, none⟩ = some (.slice A1_7 l1_7.length c1_7) := (blk_cell BK123.out 7).trans rfl
                          have hcz72_8 : wr.cell? ⟨gb123, 8, none⟩ = some (.int .i64 a1_8) := (blk_cell BK123.out 8).trans rfl
                          have hcz72_9 : wr.cell? ⟨gb123, 9, none⟩ = some (.int .i64 a1_9) := (blk_cell BK123.out 9).trans rfl
                          have hfz72_0 := blk_frozen BK123.out 0
                          have hfz72_1 := blk_frozen BK123.out 1
                          have hfz72_2 := blk_frozen BK123.out 2
                          have hfz72_3 := blk_frozen BK123.out 3
                          have hfz72_4 := blk_frozen BK123.out 4
                          have hfz72_5 := blk_frozen BK123.out 5
                          have hfz72_6 := blk_frozen BK123.out 6
                          have hfz72_7 := blk_frozen BK123.out 7
                          have hfz72_8 := blk_frozen BK123.out 8
                          have hfz72_9 := blk_frozen BK123.out 9
                          have p131 : 0 ≤ (x6_3 : Int) := of_decide_eq_true (by first | (with_reducible assumption) | assumption)
                          have q131 : x6_3 < (l1_7.length : Int) := of_decide_eq_true (by first | (with_reducible assumption) | assumption)
                          obtain ⟨ad131, e131, hx131_0, hx131_1⟩ := at_T47 HR1_7.out x6_3 p131 q131
                          cases e131
                          replace hx131_0 := (HB.out.cell (World.block_lt_of_cell? w _ hx131_0)).trans hx131_0
                          replace hx131_1 := (HB.out.cell (World.block_lt_of_cell? w _ hx131_1)).trans hx131_1
                          replace p131 := eq_true p131
                          replace q131 := eq_true q131
                          go_wp2
                          repeat (go_quiet (fail); try go_wp2)
                          go_ret
                          exact ⟨by first | rfl | (simp [errW_none, errW_some] <;> rfl) | (simp [*, errW_none, errW_some] <;> rfl), by repeat (first | (with_reducible first | exact HB.out | apply below_alloc | apply pw_below_drewN | apply below_drew1 | refine below_set ?_ GE122.out | refine below_set ?_ GE123.out) | exact HB.out)⟩
                        · rw [if_neg c69] at H
                          have c69b0 : (((rd_T47 l0_7 x6_3).f0) != ((rd_T47 l1_7 x6_3).f0)) = false := by simpa using c69
                          (try (have c69b1 : decide (((rd_T47 l0_7 x6_3).f0) = ((rd_T47 l1_7 x6_3).f0)) = true := by simpa using c69))
                          (try (have c69b2 : (((rd_T47 l0_7 x6_3).f0) == ((rd_T47 l1_7 x6_3).f0)) = true := by simpa using c69))
                          clear c69
                          by_cases c73 : ((rd_T47 l0_7 x6_3).f1) = ((rd_T47 l1_7 x6_3).f1)
                          · rw [if_pos c73] at H
                            have c73b0 : (((rd_T47 l0_7 x6_3).f1) == ((rd_T47 l1_7 x6_3).f1)) = true := beq_iff_eq.mpr c73
                            have c73b1 : (((rd_T47 l0_7 x6_3).f1) != ((rd_T47 l1_7 x6_3).f1)) = false := bne_eq_false_iff_eq.mpr c73
                            clear c73
                            have H' := Aside0.mk H
                            clear H
                            have hnb74 := NB122_123.out
                            have hnc74 := NB123_122.out
                            have hcz75_0 : wr.cell? ⟨gb122, 0, none⟩ = some (.int .i64 a0_0) := (blk_cell BK122.out 0).trans rfl
                            have hcz75_1 : wr.cell? ⟨gb122, 1, none⟩ = some (.string a0_1) := (blk_cell BK122.out 1).trans rfl
                            have hcz75_2 : wr.cell? ⟨gb122, 2, none⟩ = some (.string a0_2) := (blk_cell BK122.out 2).trans rfl
                            have hcz75_3 : wr.cell? ⟨gb122, 3, none⟩ = some (.int .i64 a0_3) := (blk_cell BK122.out 3).trans rfl
                            have hcz75_4 : wr.cell? ⟨gb122, 4, none⟩ = some (.int .i64 a0_4) := (blk_cell BK122.out 4).trans rfl
                            have hcz75_5 : wr.cell? ⟨gb122, 5, none⟩ = some (.int .i64 a0_5) := (blk_cell BK122.out 5).trans rfl
                            have hcz75_6 : wr.cell? ⟨gb122, 6, none⟩ = some (.slice A0_6 l0_6.length c0_6) := (blk_cell BK122.out 6).trans rfl
                            have hcz75_7 : wr.cell? ⟨gb122, 7, none⟩ = some (.slice A0_7 l0_7.length c0_7) := (blk_cell BK122.out 7).trans rfl
                            have hcz75_8 : wr.cell? ⟨gb122, 8, none⟩ = some (.int .i64 a0_8) := (blk_cell BK122.out 8).trans rfl
                            have hcz75_9 : wr.cell? ⟨gb122, 9, none⟩ = some (.int .i64 a0_9) := (blk_cell BK122.out 9).trans rfl
                            have hfz75_0 := blk_frozen BK122.out 0
                            have hfz75_1 := blk_frozen BK122.out 1
                            have hfz75_2 := blk_frozen BK122.out 2
                            have hfz75_3 := blk_frozen BK122.out 3
                            have hfz75_4 := blk_frozen BK122.out 4
                            have hfz75_5 := blk_frozen BK122.out 5
                            have hfz75_6 := blk_frozen BK122.out 6
                            have hfz75_7 := blk_frozen BK122.out 7
                            have hfz75_8 := blk_frozen BK122.out 8
                            have hfz75_9 := blk_frozen BK122.out 9
                            have p130 : 0 ≤ (x6_3 : Int) := of_decide_eq_true (by first | (with_reducible assumption) | assumption)
                            have q130 : x6_3 < (l0_7.length : Int) := of_decide_eq_true (by first | (with_reducible assumption) | assumption)
                            obtain ⟨ad130, e130, hx130_0, hx130_1⟩ := at_T47 HR0_7.out x6_3 p130 q130
                            cases e130
                            replace hx130_0 := (HB.out.cell (World.block_lt_of_cell? w _ hx130_0)).trans hx130_0
                            replace hx130_1 := (HB.out.cell (World.block_lt_of_cell? w _ hx130_1)).trans hx130_1
                            replace p130 := eq_true p130
                            replace q130 := eq_true q130
                            have hcz76_0 : wr.cell? ⟨gb123, 0, none⟩ = some (.int .i64 a1_0) := (blk_cell BK123.out 0).trans rfl
                            have hcz76_1 : wr.cell? ⟨gb123, 1, none⟩ = some (.string a1_1) := (blk_cell BK123.out 1).trans rfl
                            have hcz76_2 : wr.cell? ⟨gb123, 2, none⟩ = some (.string a1_2) := (blk_cell BK123.out 2).trans rfl
                            have hcz76_3 : wr.cell? ⟨gb123, 3, none⟩ = some (.int .i64 a1_3) := (blk_cell BK123.out 3).trans rfl
                            have hcz76_4 : wr.cell? ⟨gb123, 4, none⟩ = some (.int .i64 a1_4) := (blk_cell BK123.out 4).trans rfl
                            have hcz76_5 : wr.cell? ⟨gb123, 5, none⟩ = some (.int .i64 a1_5) := (blk_cell BK123.out 5).trans rfl
                            have hcz76_6 : wr.cell? ⟨gb123, 6, none⟩ = some (.slice A1_6 l1_6.length c1_6) := (blk_cell BK123.out 6).trans rfl
                            have hcz76_7 : wr.cell? ⟨gb123, 7, none⟩ = some (.slice A1_7 l1_7.length c1_7) := (blk_cell BK123.out 7).trans rfl
                            have hcz76_8 : wr.cell? ⟨gb123, 8, none⟩ = some (.int .i64 a1_8) := (blk_cell BK123.out 8).trans rfl
                            have hcz76_9 : wr.cell? ⟨gb123, 9, none⟩ = some (.int .i64 a1_9) := (blk_cell BK123.out 9).trans rfl
                            have hfz76_0 := blk_frozen BK123.out 0
                            have hfz76_1 := blk_frozen BK123.out 1
                            have hfz76_2 := blk_frozen BK123.out 2
                            have hfz76_3 := blk_frozen BK123.out 3
                            have hfz76_4 := blk_frozen BK123.out 4
                            have hfz76_5 := blk_frozen BK123.out 5
                            have hfz76_6 := blk_frozen BK123.out 6
                            have hfz76_7 := blk_frozen BK123.out 7
                            have hfz76_8 := blk_frozen BK123.out 8
                            have hfz76_9 := blk_frozen BK123.out 9
                            have p131 : 0 ≤ (x6_3 : Int) := of_decide_eq_true (by first | (with_reducible assumption) | assumption)
                            have q131 : x6_3 < (l1_7.length : Int) := of_decide_eq_true (by first | (with_reducible assumption) | assumption)
                            obtain ⟨ad131, e131, hx131_0, hx131_1⟩ := at_T47 HR1_7.out x6_3 p131 q131
                            cases e131
                            replace hx131_0 := (HB.out.cell (World.block_lt_of_cell? w _ hx131_0)).trans hx131_0
                            replace hx131_1 := (HB.out.cell (World.block_lt_of_cell? w _ hx131_1)).trans hx131_1
                            replace p131 := eq_true p131
                            replace q131 := eq_true q131
                            have p132 : 0 ≤ (x6_3 : Int) := of_decide_eq_true (by first | (with_reducible assumption) | assumption)
                            have q132 : x6_3 < (l0_7.length : Int) := of_decide_eq_true (by first | (with_reducible assumption) | assumption)
                            obtain ⟨ad132, e132, hx132_0, hx132_1⟩ := at_T47 HR0_7.out x6_3 p132 q132
                            obtain rfl : ad130 = ad132 := (by injection e132)
                            replace hx132_0 := (HB.out.cell (World.block_lt_of_cell? w _ hx132_0)).trans hx132_0
                            replace hx132_1 := (HB.out.cell (World.block_lt_of_cell? w _ hx132_1)).trans hx132_1
                            replace p132 := eq_true p132
                            replace q132 := eq_true q132
                            have p133 : 0 ≤ (x6_3 : Int) := of_decide_eq_true (by first | (with_reducible assumption) | assumption)
                            have q133 : x6_3 < (l1_7.length : Int) := of_decide_eq_true (by first | (with_reducible assumption) | assumption)
                            obtain ⟨ad133, e133, hx133_0, hx133_1⟩ := at_T47 HR1_7.out x6_3 p133 q133
                            obtain rfl : ad131 = ad133 := (by injection e133)
                            replace hx133_0 := (HB.out.cell (World.block_lt_of_cell? w _ hx133_0)).trans hx133_0
                            replace hx133_1 := (HB.out.cell (World.block_lt_of_cell? w _ hx133_1)).trans hx133_1
                            replace p133 := eq_true p133
                            replace q133 := eq_true q133
                            go_wp2
                            repeat (go_quiet (fail); try go_wp2)
                            go_roundg k3
                            case measure => have := HJ2.out; have := HK2.out; have := HK3.out; omega
                            case rel => exact ⟨(wrap64 (x6_3 + 1)), (by first | rfl | (simp; done) | (simp [*]; done)), H', ⟨by have := HJ2.out; have := HK2.out; have := HK3.out; omega⟩, ⟨by (with_reducible repeat (first | refine blk_drewN ?_ _ | refine blk_drew ?_ | refine blk_alloc ?_ _)); exact BK122.out⟩, ⟨by (with_reducible repeat (first | refine blk_drewN ?_ _ | refine blk_drew ?_ | refine blk_alloc ?_ _)); exact BK123.out⟩, ⟨by repeat (first | (with_reducible first | exact HB.out | apply below_alloc | apply pw_below_drewN | apply below_drew1 | refine below_set ?_ GE122.out | refine below_set ?_ GE123.out) | exact HB.out)⟩⟩
                          · rw [if_neg c73] at H
                            have c73b0 : (((rd_T47 l0_7 x6_3).f1) == ((rd_T47 l1_7 x6_3).f1)) = false := beq_eq_false_iff_ne.mpr c73
                            have c73b1 : (((rd_T47 l0_7 x6_3).f1) != ((rd_T47 l1_7 x6_3).f1)) = true := bne_iff_ne.mpr c73
                            obtain rfl := Option.some.inj H
                            have hnb77 := NB122_123.out
                            have hnc77 := NB123_122.out
                            have hcz78_0 : wr.cell? ⟨gb122, 0, none⟩ = some (.int .i64 a0_0) := (blk_cell BK122.out 0).trans rfl
                            have hcz78_1 : wr.cell? ⟨gb122, 1, none⟩ = some (.string a0_1) := (blk_cell BK122.out 1).trans rfl
                            have hcz78_2 : wr.cell? ⟨gb122, 2, none⟩ = some (.string a0_2) := (blk_cell BK122.out 2).trans rfl
                            have hcz78_3 : wr.cell? ⟨gb122, 3, none⟩ = some (.int .i64 a0_3) := (blk_cell BK122.out 3).trans rfl
                            have hcz78_4 : wr.cell? ⟨gb122, 4, none⟩ = some (.int .i64 a0_4) := (blk_cell BK122.out 4).trans rfl
                            have hcz78_5 : wr.cell? ⟨gb122, 5, none⟩ = some (.int .i64 a0_5) := (blk_cell BK122.out 5).trans rfl
                            have hcz78_6 : wr.cell? ⟨gb122, 6, none⟩ = some (.slice A0_6 l0_6.length c0_6) := (blk_cell BK122.out 6).trans rfl
                            have hcz78_7 : wr.cell? ⟨gb122, 7, none⟩ = some (.slice A0_7 l0_7.length c0_7) := (blk_cell BK122.out 7).trans rfl
                            have hcz78_8 : wr.cell? ⟨gb122, 8, none⟩ = some (.int .i64 a0_8) := (blk_cell BK122.out 8).trans rfl
                            have hcz78_9 : wr.cell? ⟨gb122, 9, none⟩ = some (.int .i64 a0_9) := (blk_cell BK122.out 9).trans rfl
                            have hfz78_0 := blk_frozen BK122.out 0
                            have hfz78_1 := blk_frozen BK122.out 1
                            have hfz78_2 := blk_frozen BK122.out 2
                            have hfz78_3 := blk_frozen BK122.out 3
                            have hfz78_4 := blk_frozen BK122.out 4
                            have hfz78_5 := blk_frozen BK122.out 5
                            have hfz78_6 := blk_frozen BK122.out 6
                            have hfz78_7 := blk_frozen BK122.out 7
                            have hfz78_8 := blk_frozen BK122.out 8
                            have hfz78_9 := blk_frozen BK122.out 9
                            have p130 : 0 ≤ (x6_3 : Int) := of_decide_eq_true (by first | (with_reducible assumption) | assumption)
                            have q130 : x6_3 < (l0_7.length : Int) := of_decide_eq_true (by first | (with_reducible assumption) | assumption)
                            obtain ⟨ad130, e130, hx130_0, hx130_1⟩ := at_T47 HR0_7.out x6_3 p130 q130
                            cases e130
                            replace hx130_0 := (HB.out.cell (World.block_lt_of_cell? w _ hx130_0)).trans hx130_0
                            replace hx130_1 := (HB.out.cell (World.block_lt_of_cell? w _ hx130_1)).trans hx130_1
                            replace p130 := eq_true p130
                            replace q130 := eq_true q130
                            have hcz79_0 : wr.cell? ⟨gb123, 0, none⟩ = some (.int .i64 a1_0) := (blk_cell BK123.out 0).trans rfl
                            have hcz79_1 : wr.cell? ⟨gb123, 1, none⟩ = some (.string a1_1) := (blk_cell BK123.out 1).trans rfl
                            have hcz79_2 : wr.cell? ⟨gb123, 2, none⟩ = some (.string a1_2) := (blk_cell BK123.out 2).trans rfl
                            have hcz79_3 : wr.cell? ⟨gb123, 3, none⟩ = some (.int .i64 a1_3) := (blk_cell BK123.out 3).trans rfl
                            have hcz79_4 : wr.cell? ⟨gb123, 4, none⟩ = some (.int .i64 a1_4) := (blk_cell BK123.out 4).trans rfl
                            have hcz79_5 : wr.cell? ⟨gb123, 5, none⟩ = some (.int .i64 a1_5) := (blk_cell BK123.out 5).trans rfl
                            have hcz79_6 : wr.cell? ⟨gb123, 6, none⟩ = some (.slice A1_6 l1_6.length c1_6) := (blk_cell BK123.out 6).trans rfl
                            have hcz79_7 : wr.cell? ⟨gb123, 7, none⟩ = some (.slice A1_7 l1_7.length c1_7) := (blk_cell BK123.out 7).trans rfl
                            have hcz79_8 : wr.cell? ⟨gb123, 8, none⟩ = some (.int .i64 a1_8) := (blk_cell BK123.out 8).trans rfl
                            have hcz79_9 : wr.cell? ⟨gb123, 9, none⟩ = some (.int .i64 a1_9) := (blk_cell BK123.out 9).trans rfl
                            have hfz79_0 := blk_frozen BK123.out 0
                            have hfz79_1 := blk_frozen BK123.out 1
                            have hfz79_2 := blk_frozen BK123.out 2
                            have hfz79_3 := blk_frozen BK123.out 3
                            have hfz79_4 := blk_frozen BK123.out 4
                            have hfz79_5 := blk_frozen BK123.out 5
                            have hfz79_6 := blk_frozen BK123.out 6
                            have hfz79_7 := blk_frozen BK123.out 7
                            have hfz79_8 := blk_frozen BK123.out 8
                            have hfz79_9 := blk_frozen BK123.out 9
                            have p131 : 0 ≤ (x6_3 : Int) := of_decide_eq_true (by first | (with_reducible assumption) | assumption)
                            have q131 : x6_3 < (l1_7.length : Int) := of_decide_eq_true (by first | (with_reducible assumption) | assumption)
                            obtain ⟨ad131, e131, hx131_0, hx131_1⟩ := at_T47 HR1_7.out x6_3 p131 q131
                            cases e131
                            replace hx131_0 := (HB.out.cell (World.block_lt_of_cell? w _ hx131_0)).trans hx131_0
                            replace hx131_1 := (HB.out.cell (World.block_lt_of_cell? w _ hx131_1)).trans hx131_1
                            replace p131 := eq_true p131
                            replace q131 := eq_true q131
                            have p132 : 0 ≤ (x6_3 : Int) := of_decide_eq_true (by first | (with_reducible assumption) | assumption)
                            have q132 : x6_3 < (l0_7.length : Int) := of_decide_eq_true (by first | (with_reducible assumption) | assumption)
                            obtain ⟨ad132, e132, hx132_0, hx132_1⟩ := at_T47 HR0_7.out x6_3 p132 q132
                            obtain rfl : ad130 = ad132 := (by injection e132)
                            replace hx132_0 := (HB.out.cell (World.block_lt_of_cell? w _ hx132_0)).trans hx132_0
                            replace hx132_1 := (HB.out.cell (World.block_lt_of_cell? w _ hx132_1)).trans hx132_1
                            replace p132 := eq_true p132
                            replace q132 := eq_true q132
                            have p133 : 0 ≤ (x6_3 : Int) := of_decide_eq_true (by first | (with_reducible assumption) | assumption)
                            have q133 : x6_3 < (l1_7.length : Int) := of_decide_eq_true (by first | (with_reducible assumption) | assumption)
                            obtain ⟨ad133, e133, hx133_0, hx133_1⟩ := at_T47 HR1_7.out x6_3 p133 q133
                            obtain rfl : ad131 = ad133 := (by injection e133)
                            replace hx133_0 := (HB.out.cell (World.block_lt_of_cell? w _ hx133_0)).trans hx133_0
                            replace hx133_1 := (HB.out.cell (World.block_lt_of_cell? w _ hx133_1)).trans hx133_1
                            replace p133 := eq_true p133
                            replace q133 := eq_true q133
                            go_wp2
                            repeat (go_quiet (fail); try go_wp2)
                            go_ret
                            exact ⟨by first | rfl | (simp [errW_none, errW_some] <;> rfl) | (simp [*, errW_none, errW_some] <;> rfl), by repeat (first | (with_reducible first | exact HB.out | apply below_alloc | apply pw_below_drewN | apply below_drew1 | refine below_set ?_ GE122.out | refine below_set ?_ GE123.out) | exact HB.out)⟩
                      · rw [if_neg c68] at H
                        exact absurd H (by simp)
                    · rw [if_neg c67] at H
                      exact absurd H (by simp)
                  · rw [if_neg c66] at H
                    have c66b0 : decide (x6_3 < (l0_7.length : Int)) = false := decide_eq_false c66
                    clear c66
                    obtain rfl := Option.some.inj H
                    have hnb80 := NB122_123.out
                    have hnc80 := NB123_122.out
                    have hcz81_0 : wr.cell? ⟨gb122, 0, none⟩ = some (.int .i64 a0_0) := (blk_cell BK122.out 0).trans rfl
                    have hcz81_1 : wr.cell? ⟨gb122, 1, none⟩ = some (.string a0_1) := (blk_cell BK122.out 1).trans rfl
                    have hcz81_2 : wr.cell? ⟨gb122, 2, none⟩ = some (.string a0_2) := (blk_cell BK122.out 2).trans rfl
                    have hcz81_3 : wr.cell? ⟨gb122, 3, none⟩ = some (.int .i64 a0_3) := (blk_cell BK122.out 3).trans rfl
                    have hcz81_4 : wr.cell? ⟨gb122, 4, none⟩ = some (.int .i64 a0_4) := (blk_cell BK122.out 4).trans rfl
                    have hcz81_5 : wr.cell? ⟨gb122, 5, none⟩ = some (.int .i64 a0_5) := (blk_cell BK122.out 5).trans rfl
                    have hcz81_6 : wr.cell? ⟨gb122, 6, none⟩ = some (.slice A0_6 l0_6.length c0_6) := (blk_cell BK122.out 6).trans rfl
                    have hcz81_7 : wr.cell? ⟨gb122, 7, none⟩ = some (.slice A0_7 l0_7.length c0_7) := (blk_cell BK122.out 7).trans rfl
                    have hcz81_8 : wr.cell? ⟨gb122, 8, none⟩ = some (.int .i64 a0_8) := (blk_cell BK122.out 8).trans rfl
                    have hcz81_9 : wr.cell? ⟨gb122, 9, none⟩ = some (.int .i64 a0_9) := (blk_cell BK122.out 9).trans rfl
                    have hfz81_0 := blk_frozen BK122.out 0
                    have hfz81_1 := blk_frozen BK122.out 1
                    have hfz81_2 := blk_frozen BK122.out 2
                    have hfz81_3 := blk_frozen BK122.out 3
                    have hfz81_4 := blk_frozen BK122.out 4
                    have hfz81_5 := blk_frozen BK122.out 5
                    have hfz81_6 := blk_frozen BK122.out 6
                    have hfz81_7 := blk_frozen BK122.out 7
                    have hfz81_8 := blk_frozen BK122.out 8
                    have hfz81_9 := blk_frozen BK122.out 9
                    go_wp2
                    repeat (go_quiet (fail); try go_wp2)
                    go_ret
                    exact ⟨by first | rfl | (simp [errW_none, errW_some] <;> rfl) | (simp [*, errW_none, errW_some] <;> rfl), by repeat (first | (with_reducible first | exact HB.out | apply below_alloc | apply pw_below_drewN | apply below_drew1 | refine below_set ?_ GE122.out | refine below_set ?_ GE123.out) | exact HB.out)⟩
end Go.Proofs.Ytgnbemgeiloegaa.PTypesGoods
