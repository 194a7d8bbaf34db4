import Derived.Test.YtgnbemgeiloegaaMTgLc
import Derived.Test.YtgnbemgeiloegaaMLyT
import Derived.Test.YtgnbemgeiloegaaMEW
import Derived.Test.YtgnbemgeiloegaaMEPTypesGoodsx3
import Derived.Test.YtgnbemgeiloegaaMETgOpn
namespace Go.Proofs.Ytgnbemgeiloegaa.Ly
open Go.RowKit Go.Proofs.Ytgnbemgeiloegaa.Tg
open Go.Proofs.YtgnbemgeiloegaaW.PrintWords Go.Proofs.YtgnbemgeiloegaaW.PrintLast Go.Proofs.YtgnbemgeiloegaaW.PrintMore
set_option linter.unusedVariables false
set_option linter.unusedSimpArgs false
open Go.Proofs.Ytgnbemgeiloegaa.PTypesGoods (S40 S42 S47 k40 k42 k47 rd_T40 rd_T42 rd_T47 at_T40 at_T42 at_T47 tables_up.f tables_cut.f tables_up.calls tables_cut.calls spinetref14_up.f spinetref14_up.calls)
def upP (n : Int) : Int := (n + 3) / 4 * 4
def cutP (n : Int) : Int := mn n 32769
theorem cutP_le (n : Int) : cutP n ≤ 32769 := by unfold cutP mn; split <;> omega
theorem cutP_ge {n : Int} (h : 0 ≤ n) : 0 ≤ cutP n := by unfold cutP mn; split <;> omega
theorem upP_ge {n : Int} (h : 0 ≤ n) : n ≤ upP n ∧ upP n ≤ n + 3 := by unfold upP; omega
theorem wr_64 {x : Int} (h : -9223372036854775808 ≤ x ∧ x ≤ 9223372036854775807) : wrap64 x = x := by
 unfold wrap64
 omega
theorem up_is {n : Int} (h0 : 0 ≤ n) (h1 : n ≤ 1000000000000) : tables_up.f n = some (upP n) := by
 unfold tables_up.f upP
 rw [wr_64 (x := n + 3) (by omega), wr_64 (by omega)]
theorem up14_is {n : Int} (h0 : 0 ≤ n) (h1 : n ≤ 1000000000000) : spinetref14_up.f n = some (upP n) := by
 unfold spinetref14_up.f upP
 rw [wr_64 (x := n + 3) (by omega), Int.tdiv_eq_ediv_of_nonneg (by omega), wr_64 (x := (n + 3) / 4) (by omega), wr_64 (by omega)]
def plcAt (t : List S40) (n a : Int) : Int := if (rd_T40 t a).f0 = 2 ∨ (rd_T40 t a).f0 = 3 then n else upP n
def plcEnd (t : List S40) (S : Int → Int) (n a : Int) : Int := cutP (plcAt t n a + S a)
def endsP (t : List S40) (S : Int → Int) : Int → List S42 → Int
 | n, [] => n
 | n, f :: r => endsP t S (plcEnd t S n f.f2) r
def szX (t : List S40) (S : Int → Int) (x : S40) : Int :=
 if x.f0 = 1 ∨ x.f0 = 4 ∨ x.f0 = 10 ∨ x.f0 = 11 then 4
 else if x.f0 = 2 ∨ x.f0 = 3 then 1
 else if x.f0 = 7 then cutP (upP (x.f3 * S x.f4))
 else if x.f0 = 9 then cutP (upP (endsP t S (S x.f5) x.f6))
 else 0
def szF (t : List S40) : Nat → Int → Int
 | 0, _ => 0
 | n + 1, a => szX t (szF t n) (rd_T40 t a)
theorem endsP_snoc (t : List S40) (S : Int → Int) : ∀ (l : List S42) (n : Int) (f : S42), endsP t S n (l ++ [f]) = plcEnd t S (endsP t S n l) f.f2
 | [], n, f => rfl
 | g :: l, n, f => by
  show endsP t S (plcEnd t S n g.f2) (l ++ [f]) = _
  rw [endsP_snoc t S l]; rfl
theorem plcAt_le {t : List S40} {n a : Int} (h0 : 0 ≤ n) : n ≤ plcAt t n a ∧ plcAt t n a ≤ n + 3 := by
 unfold plcAt
 have := upP_ge h0
 split <;> omega
theorem plcEnd_in {t : List S40} {S : Int → Int} {n a : Int} (h0 : 0 ≤ n) (hs : 0 ≤ S a) : 0 ≤ plcEnd t S n a ∧ plcEnd t S n a ≤ 32769 := by
 have := plcAt_le (t := t) (a := a) h0
 exact ⟨cutP_ge (by omega), cutP_le _⟩
theorem endsP_in {t : List S40} {S : Int → Int} : ∀ (l : List S42) (n : Int), 0 ≤ n → n ≤ 32769 → (∀ f ∈ l, 0 ≤ S f.f2) → 0 ≤ endsP t S n l ∧ endsP t S n l ≤ 32769
 | [], n, h0, h1, _ => ⟨h0, h1⟩
 | f :: l, n, h0, h1, hs => by
  obtain ⟨k0, k1⟩ := plcEnd_in (t := t) (n := n) h0 (hs f (by simp))
  exact endsP_in l _ k0 k1 (fun g hg => hs g (by simp [hg]))
structure Sizes (t : List S40) (S : Int → Int) : Prop where
 eq : ∀ a, InT t a → S a = szX t S (rd_T40 t a)
 lo : ∀ a, InT t a → 0 ≤ S a
 hi : ∀ a, InT t a → S a ≤ 32769
theorem endsP_congr {t : List S40} {S T : Int → Int} : ∀ (l : List S42) (n : Int), (∀ f ∈ l, S f.f2 = T f.f2) → endsP t S n l = endsP t T n l
 | [], n, _ => rfl
 | f :: l, n, h => by
  show endsP t S (plcEnd t S n f.f2) l = endsP t T (plcEnd t T n f.f2) l
  have e : plcEnd t S n f.f2 = plcEnd t T n f.f2 := by unfold plcEnd; rw [h f (by simp)]
  rw [e]
  exact endsP_congr l _ (fun g hg => h g (by simp [hg]))
theorem szX_congr {t : List S40} {S T : Int → Int} {a : Int} (h : ∀ b ∈ insP t a, S b = T b) : szX t S (rd_T40 t a) = szX t T (rd_T40 t a) := by
 unfold insP at h
 unfold szX
 split
 · rfl
 split
 · rfl
 split
 ·
  rename_i h7
  rw [if_pos (.inl h7)] at h
  rw [h _ (by simp)]
 split
 ·
  rename_i h7 h9
  rw [if_neg (by omega), if_pos h9] at h
  rw [h _ (by simp), endsP_congr _ _ (fun f hf => h _ (by simp; exact .inr ⟨f, hf, rfl⟩))]
 · rfl
theorem szF_fuel {t : List S40} : ∀ (n m : Nat) (a : Int), Deep (insP t) n a → Deep (insP t) m a → szF t n a = szF t m a
 | 0, m, a, h, _ => h.elim
 | n + 1, 0, a, _, h => h.elim
 | n + 1, m + 1, a, h1, h2 => szX_congr fun b hb => szF_fuel n m b (h1 b hb) (h2 b hb)
theorem szF_in {t : List S40} (g : GoodR t) : ∀ (n : Nat) (a : Int), InT t a → 0 ≤ szF t n a ∧ szF t n a ≤ 32769
 | 0, a, _ => ⟨Int.le_refl _, by simp [szF]⟩
 | n + 1, a, ha => by
  have ih := szF_in g n
  have hw := (gd_ones g).within
  have hp := hw.place a ha
  show 0 ≤ szX t (szF t n) (rd_T40 t a) ∧ szX t (szF t n) (rd_T40 t a) ≤ 32769
  unfold insP at hp
  unfold szX
  split
  · omega
  split
  · omega
  split
  ·
   rename_i h7
   obtain ⟨h1, h2, h3⟩ := gd_arr g ha h7
   rw [if_pos (.inl h7)] at hp
   have := ih _ (hp (rd_T40 t a).f4 (by simp))
   refine ⟨cutP_ge ?_, cutP_le _⟩
   have hm : 0 ≤ (rd_T40 t a).f3 * szF t n (rd_T40 t a).f4 := Int.mul_nonneg (by omega) this.1
   have := upP_ge hm
   omega
  split
  ·
   rename_i h7 h9
   rw [if_neg (by omega), if_pos h9] at hp
   have hb := ih _ (hp (rd_T40 t a).f5 (by simp))
   have := endsP_in (t := t) (S := szF t n) (rd_T40 t a).f6 _ hb.1 hb.2 (fun f hf => (ih _ (hp f.f2 (by simp; exact .inr ⟨f, hf, rfl⟩))).1)
   have hu := upP_ge this.1
   exact ⟨cutP_ge (by omega), cutP_le _⟩
  · omega
theorem sizes_of {t : List S40} (g : GoodR t) {N : Nat} (hN : ∀ a, InT t a → Deep (insP t) N a) : Sizes t (szF t N) := by
 refine ⟨fun a ha => ?_, fun a ha => (szF_in g N a ha).1, fun a ha => (szF_in g N a ha).2⟩
 have e := szF_fuel N (N + 1) a (hN a ha) ((hN a ha).mono (by omega))
 exact e
end Go.Proofs.Ytgnbemgeiloegaa.Ly
