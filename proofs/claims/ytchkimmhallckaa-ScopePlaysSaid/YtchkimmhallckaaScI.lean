import Derived.Test.YtchkimmhallckaaScH
import Derived.Test.YtchkimmhallckaaPScopePlaysx1
namespace Go.Proofs.Ytchkimmhallckaa.Sc
open Go.RowKit Go.Maps Go.WideMaps Go.Proofs.Ytchkimmhallckaa
open Go.Proofs.YtchkimmhallckaaW.PrintWords Go.Proofs.YtchkimmhallckaaW.PrintLast Go.Proofs.YtchkimmhallckaaW.PrintMore
set_option linter.unusedVariables false
set_option linter.unusedSimpArgs false

section
variable {w w' w1 : World} {F F' : Nat → Prop} {g : Nat} {M M' : Int → ByteArray → Option Int} {St T : List Lvl} {l : Lvl} {N : Nat} {mp lv fv u : Value} {vs us : List Value}

theorem declare_nil (w : World) (s : ByteArray) (x : Int) : Calls Try.prog 9 #[.pointer none, .string s, .int .i64 x] w fun e w' => e = .returned (.int .i64 1) ∧ w' = w := by
  go_enter Try.func9, Try.ntmps9
  go_wp2
  go_ret
  exact ⟨rfl, rfl⟩

/-- a name, or none -/
def IsName (s : ByteArray) (b : Bool) : Prop := ∃ k, PScopePlays.scope_named.f k s = some b

theorem declare_noName (h : Rep w F g M (T ++ [l]) N mp lv fv vs) (s : ByteArray) (x : Int) (hs : IsName s false) : Calls Try.prog 9 #[.pointer (some ⟨g, 0, none⟩), .string s, .int .i64 x] w fun e w' => e = .returned (.int .i64 150) ∧ Drawn0 w w' := by
  obtain ⟨k, hk⟩ := hs
  go_enter Try.func9, Try.ntmps9
  go_wp2_with fail
  refine (PScopePlays.scope_named.calls k s false _ hk).mono ?_
  rintro e w1 ⟨rfl, d1⟩
  go_wp2
  go_ret
  exact ⟨rfl, d1⟩

theorem Rep.drawn (h : Rep w F g M St N mp lv fv vs) (d : Drawn0 w w1) : Rep w1 F g M St N mp lv fv vs := by
  obtain ⟨n, rfl⟩ := d
  exact h.keep (fun _ _ => rfl) (Nat.le_refl _)

theorem Rep.block {B : Nat} (h : Rep w F g M St N mp lv fv vs) (hb : Below B w w1) (hB : w.heap.size ≤ B) : Rep w1 F g M St N mp lv fv vs :=
  h.keep (fun b hF => hb.block b (by have := h.lt b hF; omega)) hb.size

/-- what goes through a region that draws: the state, and the world so far -/
structure Go6 (w0 : World) (F : Nat → Prop) (g : Nat) (M : Int → ByteArray → Option Int) (St : List Lvl) (N : Nat) (mp lv fv : Value) (vs : List Value) (B : Nat) (k : Int) (s : ByteArray) (w : World) : Prop where
  rep : Rep w F g M St N mp lv fv vs
  below : Below w0.heap.size w0 w
  k0 : w.cell? ⟨B, 0, none⟩ = some (.int .i64 k)
  k1 : w.cell? ⟨B, 1, none⟩ = some (.string s)
  lt : w0.heap.size ≤ B
  lt2 : B < w.heap.size
  new : ∀ b, F b → b < w0.heap.size

theorem Go6.on {w0 : World} {B : Nat} {k : Int} {s : ByteArray} (h : Go6 w0 F g M St N mp lv fv vs B k s w) (hb : Below w.heap.size w w1) : Go6 w0 F g M St N mp lv fv vs B k s w1 :=
  ⟨h.rep.block hb (Nat.le_refl _), h.below.trans (hb.mono h.below.size), by rw [hb.cell h.lt2]; exact h.k0, by rw [hb.cell h.lt2]; exact h.k1, h.lt, Nat.lt_of_lt_of_le h.lt2 hb.size, h.new⟩

theorem Go6.start {k : Int} {s : ByteArray} (h : Rep w F g M St N mp lv fv vs) (d : Drawn0 w w1) : Go6 w F g M St N mp lv fv vs w1.heap.size k s (w1.alloc (.cells #[.int .i64 k, .string s] 53)) := by
  have hb : Below w.heap.size w w1 := by
    obtain ⟨n, rfl⟩ := d
    exact ⟨rfl, rfl, rfl, Nat.le_refl _, fun _ _ => rfl⟩
  have hb2 := below_alloc hb (.cells #[.int .i64 k, .string s] 53)
  have hn := heap_alloc_new w1 (.cells #[.int .i64 k, .string s] 53)
  refine ⟨h.block hb2 (Nat.le_refl _), hb2, by rw [cell_at hn]; rfl, by rw [cell_at hn]; rfl, hb.size, by simp, h.lt⟩


/-- where the innermost level's row is kept -/
structure RowAt (g : Nat) (T : List Lvl) (l : Lvl) (lv fv : Value) (vs : List Value) (ad : Addr) (v : Value) : Prop where
  call : ∀ {w : World} {F : Nat → Prop} {M : Int → ByteArray → Option Int} {N : Nat} {mp : Value}, Rep w F g M (T ++ [l]) N mp lv fv vs → Calls Try.prog 26 #[.pointer (some ⟨g, 0, none⟩)] w fun e w' => e = .returned (.pointer (some ad)) ∧ w' = w
  cell : ∀ {w : World} {F : Nat → Prop} {M : Int → ByteArray → Option Int} {N : Nat} {mp : Value}, Rep w F g M (T ++ [l]) N mp lv fv vs → w.cell? ad = some v
  row : ∀ {w : World} {F : Nat → Prop} {M : Int → ByteArray → Option Int} {N : Nat} {mp : Value}, Rep w F g M (T ++ [l]) N mp lv fv vs → w.ownsRow 0 9 1 v l.length (names l)
  keep : ∀ {w w1 : World} {F : Nat → Prop} {M : Int → ByteArray → Option Int} {N : Nat} {mp : Value}, Rep w F g M (T ++ [l]) N mp lv fv vs → w.grownBy w1 v.ownBlock → w1.cell? ad = some v ∧ w1.frozen? ad = false
  inF : ∀ {w : World} {F : Nat → Prop} {M : Int → ByteArray → Option Int} {N : Nat} {mp : Value}, Rep w F g M (T ++ [l]) N mp lv fv vs → F ad.block ∧ ∀ k, v.ownBlock = some k → F k
  decl : ∀ {w w1 : World} {F : Nat → Prop} {M : Int → ByteArray → Option Int} {N : Nat} {mp v' : Value} {s : ByteArray} (x : Int), Rep w F g M (T ++ [l]) N mp lv fv vs → s.size ≤ 24 → l.length < 256 → w.grownBy w1 v.ownBlock →
    w1.ownsRow 0 9 1 v' (l.length + 1) (names l ++ [.string s]) → (∀ k, v'.ownBlock = some k → v.ownBlock = some k ∨ w.heap.size ≤ k) → ∃ fv' vs', Rep (w1.setCell ad v') (Ext F w w1) g M (T ++ [l ++ [(s, x)]]) N mp lv fv' vs'

theorem rowAt (h : Rep w F g M (T ++ [l]) N mp lv fv vs) : ∃ ad v, RowAt g T l lv fv vs ad v := by
  rcases snoc_cases vs with rfl | ⟨us, u, rfl⟩
  · obtain rfl := one_level h
    refine ⟨⟨g, 2, none⟩, fv, fun h => here_first h, fun h => h.c2, fun h => h.row 0 fv l rfl rfl, fun h hg => ?_, fun h => ⟨h.inG, h.inR fv (by simp)⟩, fun x h hs hl hg ho hat => ⟨_, _, h.declFirst hs hl hg ho hat⟩⟩
    have k0 := h.after hg (fun k e => by simp [own_tag (h.row 0 fv l rfl rfl) e])
    exact ⟨by rw [cell_at k0]; rfl, frozen_of_row _ g 2 _ 50 k0⟩
  · obtain ⟨gl, cap, rfl⟩ := lists_shape h
    refine ⟨⟨gl, us.length, none⟩, u, fun h => here_last h, fun h => cell_last h, fun h => h.topRow, fun h hg => ?_, fun h => ⟨h.inL gl rfl, h.inR u (by simp)⟩, fun x h hs hl hg ho hat => ⟨_, _, h.declLast hs hl hg ho hat⟩⟩
    rename_i w' w1' _ _ _ _
    have ht : Tag w' gl = some 40 := own_tag h.lists rfl
    have hb : w1'.heap[gl]? = w'.heap[gl]? := hg.block gl (h.lt gl (h.inL gl rfl)) (fun e => by have := own_tag h.topRow e.symm; rw [ht] at this; cases this)
    obtain ⟨cs, hc⟩ := own_typed h.lists gl rfl
    exact ⟨by rw [World.cell?_of_block (w := w') (a := ⟨gl, us.length, none⟩) hb]; exact cell_last h, frozen_of_row _ gl us.length cs 40 (hb.trans hc)⟩

set_option maxHeartbeats 1000000 in
theorem declare_twice (h : Rep w F g (ofSt (T ++ [l])) (T ++ [l]) N mp lv fv vs) (s : ByteArray) (x v : Int) (hs : IsName s true) (hz : s.size ≤ maxLen) (hl : lk l s = some v) :
    Calls Try.prog 9 #[.pointer (some ⟨g, 0, none⟩), .string s, .int .i64 x] w fun e w' => e = .returned (.int .i64 151) ∧ Rep w' F g (ofSt (T ++ [l])) (T ++ [l]) N mp lv fv vs ∧ Below w.heap.size w w' := by
  obtain ⟨k, hk⟩ := hs
  obtain ⟨mb, rfl⟩ := h.map.isMapV
  have hT : vs.length = T.length := by have := h.len; simp at this; omega
  have hT2 : T.length < 64 := by have := h.deep; simp at this; omega
  have hM : ofSt (T ++ [l]) (T.length : Int) s = some v := by rw [ofSt_top]; exact hl
  have hw := wf_small (lv := (T.length : Int)) (by omega) (by omega)
  go_enter Try.func9, Try.ntmps9
  go_wp2_with fail
  refine (PScopePlays.scope_named.calls k s true _ hk).mono ?_
  rintro e w1 ⟨rfl, d1⟩
  have h1 := h.drawn d1
  go_wp2_with fail
  refine (depth_calls h1).mono ?_
  rintro e w2 ⟨rfl, rfl⟩
  go_wp2_with fail
  have h6 := Go6.start (k := (T.length : Int)) (s := s) h d1
  have h7 := h6.on (below_drew (Below.refl _ _))
  have c0 := h6.rep.c0
  have c1 := h6.k0
  have c2 := h6.k1
  have hrun := h7.rep.map.look hw hz
  rw [hM] at hrun
  simp only [keyV, Option.getD_some, Option.isSome_some] at hrun
  clear h h1
  go_region_held3 (fun w' => w'.cell? ⟨g, 0, none⟩ = some (.map mb) ∧ w'.cell? ⟨w2.heap.size, 0, none⟩ = some (.int .i64 (T.length : Int)) ∧ w'.cell? ⟨w2.heap.size, 1, none⟩ = some (.string s) ∧ Go6 w F g (ofSt (T ++ [l])) (T ++ [l]) N (.map mb) lv fv vs w2.heap.size (T.length : Int) s w') (first | exact ⟨h7.rep.c0, h7.k0, h7.k1, h7⟩ | exact h7 | exact Go6.on (by assumption) (by assumption) | exact Go6.on (by assumption) (below_alloc (Below.refl _ _) _)) (fail)
  go_wp2
  go_ret
  exact ⟨rfl, h7.rep, h7.below⟩
end
end Go.Proofs.Ytchkimmhallckaa.Sc
