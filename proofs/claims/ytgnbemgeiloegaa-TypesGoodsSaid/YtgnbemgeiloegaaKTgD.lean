import Derived.Test.YtgnbemgeiloegaaKTgC
import Derived.WalkSpells
namespace Go.Proofs.Ytgnbemgeiloegaa.Tg
open Go.RowKit Go.Maps Go.WideMaps
open Go.Proofs.YtgnbemgeiloegaaW.PrintWords Go.Proofs.YtgnbemgeiloegaaW.PrintLast Go.Proofs.YtgnbemgeiloegaaW.PrintMore
set_option linter.unusedVariables false
set_option linter.unusedSimpArgs false
open Go.Proofs.Ytgnbemgeiloegaa.PTypesGoods (S40 S42 S47 k40 k42 k47 rd_T40 rd_T42 at_T40 at_T42)
/-- the names' sizes, as they come in -/
def Sized (t : List S40) : Prop := ∀ x ∈ t, x.f1.size ≤ maxLen ∧ x.f2.size ≤ maxLen ∧ ∀ f ∈ x.f6, f.f0.size ≤ maxLen
def metM (S : List ByteArray) (s : ByteArray) : Option Int := if met S s = true then some 1 else none
theorem metM_put (S : List ByteArray) (s : ByteArray) : putS (metM S) s (some 1) = metM (S ++ [s]) := by
  funext b
  unfold putS metM met
  by_cases e : b = s
  · subst e
    rw [if_pos rfl, if_pos (by simp)]
  · rw [if_neg e, List.any_append]
    have : ([s].any fun x => decide (x = b)) = false := by simp [Ne.symm e]
    rw [this, Bool.or_false]
theorem own_keep {w w' : World} {base : Nat} {e : TypeId} {size n : Nat} {v : Value} {xs : List Value} (h : w.ownsRow base e size v n xs) (hk : ∀ k, v.ownBlock = some k → w'.heap[k]? = w.heap[k]?) : w'.ownsRow base e size v n xs := by
  obtain ⟨h1, h2⟩ := h
  refine ⟨h1, ?_⟩
  rcases h2 with h2 | ⟨g, cap, cur, rfl, hg, hh, r⟩
  · exact .inl h2
  · exact .inr ⟨g, cap, cur, rfl, hg, (hk g (by simp [Value.ownBlock])).trans hh, r⟩
theorem own_zero {w : World} {base : Nat} {e : TypeId} {size n : Nat} {v : Value} {xs : List Value} (h : w.ownsRow base e size v n xs) : w.ownsRow 0 e size v n xs := by
  obtain ⟨h1, h2⟩ := h
  refine ⟨h1, ?_⟩
  rcases h2 with h2 | ⟨g, cap, cur, hv, hg, r⟩
  · exact .inl h2
  · exact .inr ⟨g, cap, cur, hv, Nat.zero_le _, r⟩
theorem size_in {n j : Nat} (h : j < n) : ¬ n ≤ j := Nat.not_le.2 h
theorem drawn_below {w w' : World} (d : Drawn0 w w') : Below w.heap.size w w' := by
  obtain ⟨n, rfl⟩ := d
  exact ⟨rfl, rfl, rfl, Nat.le_refl _, fun _ _ => rfl⟩
/-- what the loops carry: the bases' row, the map, the world -/
structure Rec (w0 : World) (mb : Nat) (bv : Value) (bs : List Int) (S : List ByteArray) (N : Nat) (w : World) : Prop where
  map : MapS w (.map (some mb)) N (metM S)
  row : w.ownsRow 0 3 1 bv bs.length (bs.map (Value.int .i64))
  ne : ∀ k, bv.ownBlock = some k → k ≠ mb
  lo : w0.heap.size ≤ mb
  below : Below w0.heap.size w0 w
theorem Rec.on {w0 w w1 : World} {mb : Nat} {bv : Value} {bs : List Int} {S : List ByteArray} {N : Nat} (h : Rec w0 mb bv bs S N w) (hb : Below w.heap.size w w1) : Rec w0 mb bv bs S N w1 :=
  ⟨h.map.kept (hb.block mb h.map.lt), own_keep h.row (fun k e => hb.block k (own_lt h.row k e)), h.ne, h.lo, h.below.trans (hb.mono h.below.size)⟩
theorem Rec.put {w0 w w1 : World} {mb : Nat} {bv : Value} {bs : List Int} {S : List ByteArray} {N : Nat} {s : ByteArray} (h : Rec w0 mb bv bs S N w) (hm : MapS w1 (.map (some mb)) (N + 1) (putS (metM S) s (some 1))) (hg : w.grownBy w1 (some mb)) : Rec w0 mb bv bs (S ++ [s]) (N + 1) w1 :=
  ⟨by rw [← metM_put]; exact hm, own_keep h.row (fun k e => hg.block k (own_lt h.row k e) (fun e' => h.ne k e (Option.some.inj e'))), h.ne, h.lo, h.below.grown hg h.below.size (fun k e => by cases e; exact h.lo)⟩
theorem rowInt {w : World} {A : Option Addr} {c : Nat} {l : List Int} (h : w.ownsRow 0 3 1 (.slice A l.length c) l.length (l.map (Value.int .i64))) (hn : 0 < l.length) : ∃ ad, A = some ad ∧ ∀ (j : Nat) (hj : j < l.length), w.cell? (ad.add j) = some (.int .i64 l[j]) := by
  rcases h.2 with ⟨h1, h2⟩ | ⟨g, cap, cur, h1, _⟩
  · omega
  · cases h1
    exact ⟨_, rfl, fun j hj => h.cells (g := g) rfl j _ (by simp [List.getElem?_eq_getElem hj])⟩
set_option maxHeartbeats 4000000 in
theorem record_calls {w : World} {A : Option Addr} {c : Nat} {t : List S40} (hC : Kd.C k40 w A t.length t) (hc : t.length ≤ c) (hz : Sized t) (a : Int) (h0 : 0 ≤ a) (h1 : a < t.length) :
    Calls Try.prog 58 #[.slice A t.length c, .int .i64 a] w fun e w' => e = .returned (.bool (recordP t a)) ∧ Below w.heap.size w w' := by
  obtain ⟨k, hk⟩ := bases_loop t 6 a [a] h0 h1 (by omega) (by simp)
  have hin := bases_in t 6 a [a] (fun b hb => by simp at hb; subst hb; exact ⟨h0, h1⟩)
  obtain ⟨bs, ok, hbs⟩ : ∃ bs ok, basesP t 6 a [a] = (bs, ok) := ⟨_, _, rfl⟩
  rw [hbs] at hk hin
  have hrec : Aside0 (recordP t a = (ok && decide (bs.length ≤ 5) && decide ((rd_T40 t a).f6.length ≤ 64) && (recsP t [] bs).isSome)) := ⟨by unfold recordP; rw [hbs]⟩
  have hk' : PTypesGoods.spinetref13_bases.f k t a = some (bs, ok) := hk
  clear hk hbs
  have HIN := Aside0.mk hin
  clear hin
  go_enter Try.func58, Try.ntmps58
  go_wp2_with fail
  refine (PTypesGoods.spinetref13_bases.calls k A c t a bs ok w hC hc hk').mono ?_
  rintro e w1 ⟨bv, rfl, hR, hB1⟩
  have hrow := Kd.own_of_R hR
  have hlow := own_base hrow
  obtain ⟨Ab, cb, rfl⟩ := own_slice hrow
  obtain ⟨ad, A6, c6, A7, c7, hA, p0, p1, p2, p3, p4, p5, p6, p7, p8, p9, l6, C6, l7, C7⟩ := at_T40 (Kd.C_below hC hB1) a h0 h1
  subst hA
  clear p0 p1 p2 p3 p4 p5 p7 p8 p9 C6 C7
  have hmm := @run_makeMap Try.prog
  cases ok with
  | false =>
    go_wp2
    go_ret
    exact ⟨by rw [hrec.out]; rfl, hB1⟩
  | true =>
    by_cases h5 : bs.length ≤ 5
    · have d5 : decide ((bs.length : Int) > 5) = false := decide_eq_false (by omega)
      by_cases h64 : (rd_T40 t a).f6.length ≤ 64
      · have d64 : decide (((rd_T40 t a).f6.length : Int) > 64) = false := decide_eq_false (by omega)
        have hrec2 : Aside0 (recordP t a = (recsP t [] bs).isSome) := ⟨by rw [hrec.out]; simp [h5, h64]⟩
        clear hrec
        have HR0 : Aside0 (Rec w w1.heap.size (.slice Ab bs.length cb) bs [] 0 (w1.alloc (.map #[] 0))) := ⟨⟨by
            have := MapS.made w1
            have e : metM [] = fun _ => none := by funext b; simp [metM, met]
            rw [e]; exact this, own_zero (own_keep hrow (fun k e => (Below.heap_alloc w1 _ k (own_lt hrow k e)))), fun k e => by have := own_lt hrow k e; omega, hB1.size, below_alloc hB1 _⟩⟩
        clear hR hlow
        go_wp2
        clear p6 hmm hrow
        have hCw := Aside0.mk hC
        go_loopw [8] (fun i wr => ∃ (i0 N : Nat) (S : List ByteArray), i0 ≤ bs.length ∧ i = .int .i64 i0 ∧ N ≤ 64 * i0 ∧ Aside0 (recsP t [] (bs.take i0) = some S) ∧ Aside0 (Rec w w1.heap.size (.slice Ab bs.length cb) bs S N wr)) (fun i _ => bs.length - (intOf i).toNat)
        case atStart => exact ⟨0, 0, [], Nat.zero_le _, rfl, Nat.zero_le _, ⟨by simp [recsP]⟩, HR0⟩
        case round =>
          clear HR0
          obtain ⟨wo, rfl⟩ : ∃ wo : World, wo = wr := ⟨_, rfl⟩
          obtain ⟨i0, N, S, hi0, rfl, hN, hS, HR⟩ := hrel
          by_cases hlt : i0 < bs.length
          · have hx : decide ((i0 : Int) < (bs.length : Int)) = true := decide_eq_true (by omega)
            have hin := size_in hlt
            obtain ⟨bd, rfl, hcb⟩ := rowInt HR.out.row (by omega)
            have hb0 := hcb i0 hlt
            clear hcb
            have hbin := HIN.out _ (List.getElem_mem hlt)
            have htk : bs.take (i0 + 1) = bs.take i0 ++ [bs[i0]] := by rw [List.take_add_one, List.getElem?_eq_getElem hlt]; rfl
            have hstep : Aside0 (recsP t [] (bs.take (i0 + 1)) = if (rd_T40 t bs[i0]).f6.length > 64 then none else (fieldsP t S (rd_T40 t bs[i0]).f6).bind fun S' => some S') := ⟨by rw [htk, recsP_app, hS.out]; simp [recsP]⟩
            have hnone : Aside0 (recsP t [] (bs.take (i0 + 1)) = none → recsP t [] bs = none) := ⟨fun h => by
              have e : bs = bs.take (i0 + 1) ++ bs.drop (i0 + 1) := (List.take_append_drop _ _).symm
              rw [e, recsP_app, h]; rfl⟩
            clear htk
            generalize hbb : bs[i0] = b at hb0 hbin hstep
            clear hbb
            obtain ⟨ad2, B6, d6, B7, d7, hA2, q0, q1, q2, q3, q4, q5, q6, q7, q8, q9, m6, D6, m7, D7⟩ := at_T40 hCw.out b hbin.1 hbin.2
            obtain rfl := Option.some.inj hA2
            clear q0 q1 q2 q3 q4 q5 q7 q8 q9 D7 hA2
            have q6' := (HR.out.below.cell (World.block_lt_of_cell? _ _ q6)).trans q6
            clear q6
            have hbr := hbin.1
            have hbr2 := hbin.2
            by_cases hl64 : (rd_T40 t b).f6.length ≤ 64
            · have d64b : decide (((rd_T40 t b).f6.length : Int) > 64) = false := decide_eq_false (by omega)
              go_wp2
              have hfz : ∀ f ∈ (rd_T40 t b).f6, f.f0.size ≤ maxLen := by
                have hm : rd_T40 t b ∈ t := by
                  have hb2 : b.toNat < t.length := by omega
                  have e : rd_T40 t b = t[b.toNat] := by unfold rd_T40; simp [List.getD_eq_getElem?_getD, List.getElem?_eq_getElem hb2]
                  rw [e]
                  exact List.getElem_mem hb2
                exact (hz _ hm).2.2
              have hfz2 := Aside0.mk hfz
              clear hfz q6'
              generalize (rd_T40 t b).f6 = fs at D6 hl64 d64b hstep hfz2 m6
              have hD6 := Aside0.mk D6
              clear D6
              go_loopw [10] (fun i wx => ∃ (k0 N2 : Nat) (S2 : List ByteArray), k0 ≤ fs.length ∧ i = .int .i64 k0 ∧ N2 ≤ 64 * i0 + k0 ∧ Aside0 (fieldsP t S (fs.take k0) = some S2) ∧ Aside0 (Rec w w1.heap.size (.slice (some bd) bs.length cb) bs S2 N2 wx)) (fun i _ => fs.length - (intOf i).toNat)
              case atStart => exact ⟨0, N, S, Nat.zero_le _, rfl, by omega, ⟨by simp [fieldsP]⟩, HR⟩
              case round =>
                clear HR
                obtain ⟨k0, N2, S2, hk0, rfl, hN2, hF, HR⟩ := hrel
                have HB := Aside0.mk HR.out.below
                by_cases hkl : k0 < fs.length
                · have hy : decide ((k0 : Int) < (fs.length : Int)) = true := decide_eq_true (by omega)
                  have hin2 := size_in hkl
                  obtain ⟨fd, hfA, r0, r1, r2⟩ := at_T42 (Kd.C_below hD6.out HB.out) (k0 : Int) (by omega) (by omega)
                  obtain rfl := hfA
                  have hk00 : ((k0 : Nat) : Int).toNat = k0 := by omega
                  have hrd : rd_T42 fs (k0 : Int) = fs[k0] := by unfold rd_T42; simp [List.getD_eq_getElem?_getD, List.getElem?_eq_getElem hkl]
                  rw [hk00, hrd] at r0 r1 r2
                  have hfk : fs.take (k0 + 1) = fs.take k0 ++ [fs[k0]] := by rw [List.take_add_one, List.getElem?_eq_getElem hkl]; rfl
                  have hfs : Aside0 (fieldsP t S (fs.take (k0 + 1)) = if (met S2 (fs[k0]).f0 || !isName (fs[k0]).f0 || !holdsP t (fs[k0]).f2) = true then none else some (S2 ++ [(fs[k0]).f0])) := ⟨by rw [hfk, fieldsP_snoc, hF.out]; rfl⟩
                  have hno2 : Aside0 (fieldsP t S (fs.take (k0 + 1)) = none → recordP t a = false) := ⟨fun h => by
                    have e : fs = fs.take (k0 + 1) ++ fs.drop (k0 + 1) := (List.take_append_drop _ _).symm
                    have e2 : fieldsP t S fs = none := by rw [e, fieldsP_app, h]; rfl
                    rw [hrec2.out, hnone.out (by rw [hstep.out, if_neg (by omega), e2]; rfl)]; rfl⟩
                  have hsz := hfz2.out _ (List.getElem_mem hkl)
                  obtain ⟨fx, hfx⟩ : ∃ fx, fs[k0] = fx := ⟨_, rfl⟩
                  rw [hfx] at r0 r1 r2 hfs hsz
                  have hrd2 := Aside0.mk (hrd.trans hfx)
                  clear hfk hrd hfx
                  have hlook := HR.out.map.look hsz
                  have HCx := Aside0.mk (Kd.C_below hCw.out HR.out.below)
                  by_cases hmet : met S2 fx.f0 = true
                  · rw [show (metM S2 fx.f0).getD 0 = 1 by simp [metM, hmet]] at hlook
                    go_wp2
                    go_ret
                    exact ⟨by rw [hno2.out (by rw [hfs.out, hmet]; rfl)]; rfl, HR.out.below⟩
                  · have hmet2 : met S2 fx.f0 = false := by simpa using hmet
                    rw [show (metM S2 fx.f0).getD 0 = 0 by simp [metM, hmet2]] at hlook
                    go_wp2_with fail
                    refine (word_calls fx.f0 _).mono ?_
                    rintro e w4 ⟨rfl, d4⟩
                    have HR4 := Aside0.mk (HR.out.on (drawn_below d4))
                    have HB4 := Aside0.mk (HB.out.trans ((drawn_below d4).mono HB.out.size))
                    cases hnm : isName fx.f0 with
                    | false =>
                      go_wp2
                      go_ret
                      exact ⟨by rw [hno2.out (by rw [hfs.out, hnm]; simp)]; rfl, HR4.out.below⟩
                    | true =>
                      clear hlook r0 r1 r2
                      obtain ⟨fd3, hfA3, r0, r1, r2⟩ := at_T42 (Kd.C_below hD6.out HB4.out) (k0 : Int) (by omega) (by omega)
                      obtain rfl := Option.some.inj hfA3
                      rw [hk00, hrd2.out] at r0 r1 r2
                      go_wp2_with fail
                      refine (holds_calls (Kd.C_below hCw.out HR4.out.below) hc fx.f2).mono ?_
                      rintro e w5 ⟨rfl, d5⟩
                      have HR5 := Aside0.mk (HR4.out.on (drawn_below d5))
                      have HB5 := Aside0.mk (HB4.out.trans ((drawn_below d5).mono HB4.out.size))
                      cases hho : holdsP t fx.f2 with
                      | false =>
                        go_wp2
                        go_ret
                        exact ⟨by rw [hno2.out (by rw [hfs.out, hho]; simp)]; rfl, HR5.out.below⟩
                      | true =>
                        clear r0 r1 r2
                        obtain ⟨fd4, hfA4, r0, r1, r2⟩ := at_T42 (Kd.C_below hD6.out HB5.out) (k0 : Int) (by omega) (by omega)
                        obtain rfl := Option.some.inj hfA4
                        rw [hk00, hrd2.out] at r0 r1 r2
                        obtain ⟨w6, hst, hm6, hg6⟩ := HR5.out.map.store (x := 1) (by unfold maxLen; omega) hsz (by decide)
                        have HR6 := Aside0.mk (HR5.out.put hm6 hg6)
                        have hfs2 : Aside0 (fieldsP t S (fs.take (k0 + 1)) = some (S2 ++ [fx.f0])) := ⟨by rw [hfs.out, hmet2, hnm, hho]; rfl⟩
                        go_wp2
                        go_roundw
                        case rel => exact ⟨k0 + 1, N2 + 1, S2 ++ [fx.f0], by omega, by go_num, by omega, hfs2, HR6⟩
                        case measure => simp [intOf]; omega
                · have hy : decide ((k0 : Int) < (fs.length : Int)) = false := decide_eq_false (by omega)
                  have hfe : fs.take k0 = fs := List.take_of_length_le (by omega)
                  have hF2 := hF.out
                  rw [hfe] at hF2
                  have hstep2 : Aside0 (recsP t [] (bs.take (i0 + 1)) = some S2) := ⟨by rw [hstep.out, if_neg (by omega), hF2]; rfl⟩
                  clear hF2 hfe hF hstep
                  go_wp2
                  go_roundw
                  case rel => exact ⟨i0 + 1, N2, S2, by omega, by go_num, by omega, hstep2, HR⟩
                  case measure => simp [intOf]; omega
            · have d64b : decide (((rd_T40 t b).f6.length : Int) > 64) = true := decide_eq_true (by omega)
              go_wp2
              go_ret
              have hno := hnone.out (by rw [hstep.out, if_pos (by omega)])
              exact ⟨by rw [hrec2.out, hno]; rfl, HR.out.below⟩
          · have hx : decide ((i0 : Int) < (bs.length : Int)) = false := decide_eq_false (by omega)
            have hbe : bs.take i0 = bs := List.take_of_length_le (by omega)
            have hS2 := hS.out
            rw [hbe] at hS2
            have hS3 := Aside0.mk hS2
            clear hS2 hbe
            go_wp2
            go_ret
            exact ⟨by rw [hrec2.out, hS3.out]; rfl, HR.out.below⟩
      · have d64 : decide (((rd_T40 t a).f6.length : Int) > 64) = true := decide_eq_true (by omega)
        go_wp2
        go_ret
        exact ⟨by rw [hrec.out]; simp [h64], hB1⟩
    · have d5 : decide ((bs.length : Int) > 5) = true := decide_eq_true (by omega)
      go_wp2
      go_ret
      exact ⟨by rw [hrec.out]; simp [h5], hB1⟩
end Go.Proofs.Ytgnbemgeiloegaa.Tg
