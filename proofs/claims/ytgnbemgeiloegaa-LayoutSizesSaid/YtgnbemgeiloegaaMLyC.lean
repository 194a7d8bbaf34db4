import Derived.Test.YtgnbemgeiloegaaMLyB
import Derived.Test.YtgnbemgeiloegaaMEW
import Derived.Test.YtgnbemgeiloegaaMEPTypesGoodsx3
import Derived.Test.YtgnbemgeiloegaaMETgOpn
namespace Go.Proofs.Ytgnbemgeiloegaa.Ly
open Go.RowKit Go.Proofs.Ytgnbemgeiloegaa.Tg
open Go.Proofs.YtgnbemgeiloegaaW.PrintWords Go.Proofs.YtgnbemgeiloegaaW.PrintLast Go.Proofs.YtgnbemgeiloegaaW.PrintMore
set_option linter.unusedVariables false
set_option linter.unusedSimpArgs false
open Go.Proofs.Ytgnbemgeiloegaa.PTypesGoods (S40 S42 S47 k40 k42 k47 rd_T40 rd_T42 rd_T47 at_T40 at_T42 at_T47 tables_up.f tables_cut.f tables_up.calls tables_cut.calls)
def At41 (t : List S40) (S : Int → Int) (w0 : World) (A : Option Addr) (c q d : Nat) : Prop :=
 ∀ (n a : Int) (w : World), InT t a → Deep (insP t) d a → 0 ≤ n → n ≤ 40000 → WS t S w0 (.slice A t.length c) q w →
  Calls Try.prog 41 #[.pointer (some ⟨q, 0, none⟩), .int .i64 n, .int .i64 a] w fun e w' => e = .returned (.tuple #[.int .i64 (plcAt t n a), .int .i64 (plcEnd t S n a)]) ∧ WS t S w0 (.slice A t.length c) q w' ∧ KeepBut w w' q none
set_option maxHeartbeats 16000000 in
set_option maxRecDepth 100000 in
theorem place41 {t : List S40} {S : Int → Int} {w0 : World} {A : Option Addr} {c q d : Nat} (E : Env t S w0 A c q) (h34 : At34 t S w0 A c q d) : At41 t S w0 A c q d := by
 intro n a w ha hd hn0 hn1 hw
 have HS := Aside0.mk h34
 have HI := Aside0.mk ha
 have HD := Aside0.mk hd
 have HW := Aside0.mk hw
 have hs0 := E.s.lo a ha
 have hs1 := E.s.hi a ha
 have hsl := hw.z.head
 have hpe : Aside0 (plcEnd t S n a = cutP (plcAt t n a + S a)) := ⟨rfl⟩
 have hpa : Aside0 (plcAt t n a = if (rd_T40 t a).f0 = 2 ∨ (rd_T40 t a).f0 = 3 then n else upP n) := ⟨rfl⟩
 have hu := upP_ge hn0
 obtain ⟨ha0, ha1⟩ := ha
 obtain ⟨ad, A6, c6, A7, c7, hA, p0, -, -, -, -, -, -, -, -, -, -, -, -, -⟩ := at_T40 (Kd.C_below E.C hw.below) a ha0 ha1
 subst hA
 clear h34 E hd hw
 generalize (rd_T40 t a).f0 = f at p0 hpa
 by_cases h2 : f = 2
 ·
  have b2 : (f != 2) = false := by simp [h2]
  replace hpa : Aside0 (plcAt t n a = n) := ⟨by rw [hpa.out, if_pos (.inl h2)]⟩
  replace h2 := Aside0.mk h2
  have hw1 : wrap64 (n + S a) = n + S a := wr_64 (by omega)
  go_enter Try.func41, Try.ntmps41
  have HB0 := Aside0.mk (Below.refl w.heap.size w)
  go_wp2_with (first | (go_at_call 34; refine (HS.out a _ HI.out HD.out (by first | exact HW.out | exact HW.out.on (pw_below_drewN (Below.refl _ _) _) | exact HW.out.on HB0.out | exact HW.out.on (pw_below_drewN HB0.out _))).mono ?_; rintro e w1 ⟨rfl, hW1, hK1⟩) | (go_at_call 54; refine (tables_cut.calls (n + S a) (cutP (n + S a)) _ rfl).mono ?_; rintro e w2 ⟨rfl, hB2⟩))
  go_ret2
  refine ⟨by rw [hpe.out, hpa.out]; rfl, hW1.on hB2, ?_⟩
  exact ((KeepBut.of_below (by first | exact HB0.out | exact pw_below_drewN HB0.out _) q none).trans hK1 (.inl rfl)).trans (KeepBut.of_below hB2 q none) (.inl rfl)
 ·
  have b2 : (f != 2) = true := by simp [h2]
  by_cases h3 : f = 3
  ·
   have b3 : (f != 3) = false := by simp [h3]
   replace hpa : Aside0 (plcAt t n a = n) := ⟨by rw [hpa.out, if_pos (.inr h3)]⟩
   replace h2 := Aside0.mk h2
   replace h3 := Aside0.mk h3
   have hw1 : wrap64 (n + S a) = n + S a := wr_64 (by omega)
   go_enter Try.func41, Try.ntmps41
   have HB0 := Aside0.mk (Below.refl w.heap.size w)
   go_wp2_with (first | (go_at_call 34; refine (HS.out a _ HI.out HD.out (by first | exact HW.out | exact HW.out.on (pw_below_drewN (Below.refl _ _) _) | exact HW.out.on HB0.out | exact HW.out.on (pw_below_drewN HB0.out _))).mono ?_; rintro e w1 ⟨rfl, hW1, hK1⟩) | (go_at_call 54; refine (tables_cut.calls (n + S a) (cutP (n + S a)) _ rfl).mono ?_; rintro e w2 ⟨rfl, hB2⟩))
   go_ret2
   refine ⟨by rw [hpe.out, hpa.out]; rfl, hW1.on hB2, ?_⟩
   exact ((KeepBut.of_below (by first | exact HB0.out | exact pw_below_drewN HB0.out _) q none).trans hK1 (.inl rfl)).trans (KeepBut.of_below hB2 q none) (.inl rfl)
  ·
   have b3 : (f != 3) = true := by simp [h3]
   replace hpa : Aside0 (plcAt t n a = upP n) := ⟨by rw [hpa.out, if_neg (fun h => h.elim h2 h3)]⟩
   replace h2 := Aside0.mk h2
   replace h3 := Aside0.mk h3
   have hw1 : wrap64 (upP n + S a) = upP n + S a := wr_64 (by omega)
   go_enter Try.func41, Try.ntmps41
   go_wp2_with (first | (go_at_call 53; refine (tables_up.calls n (upP n) _ (up_is hn0 (by omega))).mono ?_; rintro e wu ⟨rfl, hD⟩; have HB0 := Aside0.mk hD.below; clear hD) | (go_at_call 34; refine (HS.out a _ HI.out HD.out (by first | exact HW.out | exact HW.out.on (pw_below_drewN (Below.refl _ _) _) | exact HW.out.on HB0.out | exact HW.out.on (pw_below_drewN HB0.out _))).mono ?_; rintro e w1 ⟨rfl, hW1, hK1⟩) | (go_at_call 54; refine (tables_cut.calls (upP n + S a) (cutP (upP n + S a)) _ rfl).mono ?_; rintro e w2 ⟨rfl, hB2⟩))
   go_ret2
   refine ⟨by rw [hpe.out, hpa.out]; rfl, hW1.on hB2, ?_⟩
   exact ((KeepBut.of_below (by first | exact HB0.out | exact pw_below_drewN HB0.out _) q none).trans hK1 (.inl rfl)).trans (KeepBut.of_below hB2 q none) (.inl rfl)
end Go.Proofs.Ytgnbemgeiloegaa.Ly
