/- Two lists of expressions that read alike: SameExprs says true. -/
import Derived.Test.YthhefcdbakcdfaaNeedC
namespace Go.Proofs.Ythhefcdbakcdfaa.PNeedTells
open Go.RowKit Go.Proofs.YthhefcdbakcdfaaW.PrintWords Go.Proofs.YthhefcdbakcdfaaW.PrintLast Go.Proofs.YthhefcdbakcdfaaW.PrintMore
attribute [local go_sem] max2_int min2_int max_two min_two max_three min_three max_four min_four

theorem Kd.C_grow {α : Type} {d : Kd α} {w wr : World} {A : Option Addr} {n : Nat} {xs : List α} (h : d.C w A n xs) (hB : Below w.heap.size w wr) : d.C wr A n xs := Kd.C_below h hB

set_option maxHeartbeats 2000000 in
set_option maxRecDepth 100000 in
theorem same_any : ∀ (m : Nat) (l : List S24), SizeOf.sizeOf l ≤ m → ∀ (A1 A2 : Option Addr) (c1 c2 : Nat) (w : World), k24.C w A1 l.length l → l.length ≤ c1 → k24.C w A2 l.length l → l.length ≤ c2 →
    Calls Try.prog 11 #[.slice A1 l.length c1, .slice A2 l.length c2, .bool true] w fun e w' => e = .returned (.bool true) ∧ Below w.heap.size w w' := by
  intro m
  induction m using Nat.strongRecOn with
  | _ m ih =>
  intro l hm A1 A2 c1 c2 w h1 hc1 h2 hc2
  have hmax := Kd.C_max h1
  go_enter Try.func11, Try.ntmps11
  go_wp2
  go_loopw [7] (fun i wr => ∃ (j : Nat), j ≤ l.length ∧ i = .int .i64 j ∧ Below w.heap.size w wr) (fun i _ => l.length - (intOf i).toNat)
  case atStart => exact ⟨0, Nat.zero_le _, rfl, Below.refl _ _⟩
  case round =>
    obtain ⟨j, hj, rfl, hB⟩ := hrel
    by_cases hlt : j < l.length
    · have hin := size_in hlt
      obtain ⟨a1, A4, c4, rfl, p0, p1, p2, p3, p4, p5, hl4, hC4⟩ := at_T24 (Kd.C_grow h1 hB) (j : Int) (by omega) (by omega)
      obtain ⟨a2, B4, d4, rfl, q0, q1, q2, q3, q4, q5, hm4, hD4⟩ := at_T24 (Kd.C_grow h2 hB) (j : Int) (by omega) (by omega)
      have hj0 : ((j : Int)).toNat = j := by omega
      rw [hj0] at p0 p1 p2 p3 p4 p5 q0 q1 q2 q3 q4 q5
      go_wp2
      go_region_held3 (fun w' => w'.cell? (a1.add (j * 6)) = some (.int .i64 (rd_T24 l j).f0) ∧ w'.cell? ⟨(a1.add (j * 6)).block, (a1.add (j * 6)).off + 1, none⟩ = some (.int .i64 (rd_T24 l j).f1) ∧ w'.cell? ⟨(a1.add (j * 6)).block, (a1.add (j * 6)).off + 2, none⟩ = some (.string (rd_T24 l j).f2) ∧ w'.cell? ⟨(a1.add (j * 6)).block, (a1.add (j * 6)).off + 3, none⟩ = some (.string (rd_T24 l j).f3) ∧ w'.cell? ⟨(a1.add (j * 6)).block, (a1.add (j * 6)).off + 4, none⟩ = some (.slice A4 (rd_T24 l j).f4.length c4) ∧ w'.cell? ⟨(a1.add (j * 6)).block, (a1.add (j * 6)).off + 5, none⟩ = some (.int .i64 (rd_T24 l j).f5) ∧ w'.cell? (a2.add (j * 6)) = some (.int .i64 (rd_T24 l j).f0) ∧ w'.cell? ⟨(a2.add (j * 6)).block, (a2.add (j * 6)).off + 1, none⟩ = some (.int .i64 (rd_T24 l j).f1) ∧ w'.cell? ⟨(a2.add (j * 6)).block, (a2.add (j * 6)).off + 2, none⟩ = some (.string (rd_T24 l j).f2) ∧ w'.cell? ⟨(a2.add (j * 6)).block, (a2.add (j * 6)).off + 3, none⟩ = some (.string (rd_T24 l j).f3) ∧ w'.cell? ⟨(a2.add (j * 6)).block, (a2.add (j * 6)).off + 4, none⟩ = some (.slice B4 (rd_T24 l j).f4.length d4) ∧ w'.cell? ⟨(a2.add (j * 6)).block, (a2.add (j * 6)).off + 5, none⟩ = some (.int .i64 (rd_T24 l j).f5)) (go_keep) (fail)
      all_goals
        clear p0 p1 p2 p3 p4 p5 q0 q1 q2 q3 q4 q5
        go_wp2_with fail
        refine (ih (SizeOf.sizeOf (rd_T24 l j).f4) (by omega) (rd_T24 l j).f4 (Nat.le_refl _) A4 B4 c4 d4 _ (Kd.C_alloc (Kd.C_alloc (Kd.C_drew hC4) _) _) hl4 (Kd.C_alloc (Kd.C_alloc (Kd.C_drew hD4) _) _) hm4).mono ?_
        rintro e w3 ⟨rfl, b3⟩
        have hB3 := below_more (below_alloc (below_alloc (below_drew hB) _) _) b3
        go_wp2
        go_roundw
        case rel => exact ⟨j + 1, by omega, by go_num, hB3⟩
        case measure => simp [intOf]; omega
    · have hjl : j = l.length := by omega
      subst hjl
      go_wp2
      go_ret
      exact ⟨rfl, hB⟩

end Go.Proofs.Ythhefcdbakcdfaa.PNeedTells
