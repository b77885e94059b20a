/- BandEnds, the plain law: how many periods end in any time is as counted one by one; no conditions. -/
import Derived.Test.YtcchnefndcnnnaaEndsWalk
set_option linter.unusedVariables false
set_option linter.unusedSimpArgs false
namespace Go.Proofs.Ytcchnefndcnnnaa.Pure
open Go.RowKit Go.Proofs.Ytcchnefndcnnnaa.EndsWalk Go.Proofs.Ytcchnefndcnnnaa.PEnds Go.Proofs.YtcchnefndcnnnaaW.PrintWords Go.Proofs.YtcchnefndcnnnaaW.PrintLast Go.Proofs.YtcchnefndcnnnaaW.PrintMore
open Go.Proofs.Ytcchnefndcnnnaa.Pawake

namespace BandEndsNum
theorem bnd_u32 {n : Int} (h : (Lit.int .u32 n).wf = true) : 0 ≤ n ∧ n ≤ 4294967295 := by
  simp [Lit.wf, IntKind.min, IntKind.max, IntKind.signed, IntKind.bits] at h
  omega
theorem bnd_u16 {n : Int} (h : (Lit.int .u16 n).wf = true) : 0 ≤ n ∧ n ≤ 65535 := by
  simp [Lit.wf, IntKind.min, IntKind.max, IntKind.signed, IntKind.bits] at h
  omega
theorem bnd_u8 {n : Int} (h : (Lit.int .u8 n).wf = true) : 0 ≤ n ∧ n ≤ 255 := by
  simp [Lit.wf, IntKind.min, IntKind.max, IntKind.signed, IntKind.bits] at h
  omega
theorem bnd_i64 {n : Int} (h : (Lit.int .i64 n).wf = true) : -9223372036854775808 ≤ n ∧ n ≤ 9223372036854775807 := by
  simp [Lit.wf, IntKind.min, IntKind.max, IntKind.signed, IntKind.bits] at h
  omega

/-! What one may have, in plain numbers. -/
def Hd (a : Int) : Int := if a < 0 then 0 else if a > 1099511627776 then 1099511627776 else a
theorem Hd_range (a : Int) : 0 ≤ Hd a ∧ Hd a ≤ 1099511627776 := by unfold Hd; split <;> (try split) <;> omega
theorem Hd_id {a : Int} (h0 : 0 ≤ a) (h1 : a ≤ 1099511627776) : Hd a = a := by unfold Hd; rw [if_neg (by omega), if_neg (by omega)]
theorem held_f (a : Int) : band_held.f a = some (Hd a) := by
  unfold band_held.f mx mn Hd
  congr 1
  by_cases h1 : 1099511627776 < a
  · rw [if_pos h1, if_pos (by omega), if_neg (by omega)]
  · rw [if_neg h1]
    by_cases h2 : 0 < a
    · rw [if_pos h2, if_neg (by omega)]
    · rw [if_neg h2]
      by_cases h3 : a < 0
      · rw [if_pos h3]
      · rw [if_neg h3]; omega
theorem w64 {x : Int} (h0 : -9223372036854775808 ≤ x) (h1 : x ≤ 9223372036854775807) : wrap64 x = x := by unfold wrap64; omega
def En (p t n : Int) : Int := (Hd t + Hd n) / p - Hd t / p
theorem div_b {x p : Int} (hx : 0 ≤ x) (hp : 1 ≤ p) : 0 ≤ x / p ∧ x / p ≤ x :=
  ⟨Int.ediv_nonneg hx (by omega), Int.ediv_le_self p hx⟩
theorem ends_f {p : Int} (hp : 1 ≤ p) (t n : Int) : band_Ends.f p t n = some (En p t n) := by
  have h1 := Hd_range t
  have h2 := Hd_range n
  unfold band_Ends.f
  rw [if_neg (by omega), held_f, held_f]
  simp only [Option.bind_some]
  rw [if_neg (by omega), w64 (x := Hd t + Hd n) (by omega) (by omega), Int.tdiv_eq_ediv_of_nonneg (by omega), Int.tdiv_eq_ediv_of_nonneg (by omega)]
  have h3 := div_b (x := Hd t + Hd n) (by omega) hp
  have h4 := div_b (x := Hd t) (by omega) hp
  rw [w64 (x := (Hd t + Hd n) / p) (by omega) (by omega), w64 (x := Hd t / p) (by omega) (by omega), w64 (by omega) (by omega)]
  rfl
theorem ends_f0 {p : Int} (hp : p < 1) (t n : Int) : band_Ends.f p t n = some 0 := by unfold band_Ends.f; rw [if_pos hp]
theorem En_nonneg {p : Int} (hp : 1 ≤ p) (t n : Int) : 0 ≤ En p t n := by
  have h1 := Hd_range t
  have h2 := Hd_range n
  have := Int.ediv_le_ediv (a := Hd t) (b := Hd t + Hd n) (c := p) (by omega) (by omega)
  unfold En; omega
theorem awake_f : diapauselaw08_awake.f = some true := by decide +kernel
theorem div_u {x p q r : Int} (hp : 1 ≤ p) (h : x = p * q + r) (h0 : 0 ≤ r) (h1 : r < p) : x / p = q ∧ x % p = r :=
  (Int.ediv_emod_unique (by omega)).2 ⟨by omega, h0, h1⟩
theorem div_step {x p : Int} (hp : 1 ≤ p) : x / p = (x - 1) / p + if x % p = 0 then 1 else 0 := by
  have e := Int.mul_ediv_add_emod x p
  have r0 := Int.emod_nonneg x (b := p) (by omega)
  have r1 := Int.emod_lt_of_pos x (b := p) (by omega)
  by_cases h : x % p = 0
  · rw [if_pos h]
    have := (div_u (x := x - 1) (p := p) (q := x / p - 1) (r := p - 1) hp (by rw [Int.mul_sub]; omega) (by omega) (by omega)).1
    omega
  · rw [if_neg h]
    have := (div_u (x := x - 1) (p := p) (q := x / p) (r := x % p - 1) hp (by omega) (by omega) (by omega)).1
    omega

theorem Held_f (a : Int) : diapauseref08_Held.f a = some (Hd a) := by
  unfold diapauseref08_Held.f Hd
  split
  · rfl
  · split <;> rfl
theorem refEnds_f {p : Int} (hp : 1 ≤ p) (hp2 : p ≤ 9223372036854775807) (t n : Int) : diapauseref08_Ends.f p t n = some (En p t n) := by
  have h1 := Hd_range t
  have h2 := Hd_range n
  unfold diapauseref08_Ends.f
  rw [if_neg (by omega), Held_f, Held_f]
  simp only [Option.bind_some]
  rw [if_neg (by omega), Int.tmod_eq_emod_of_nonneg (by omega)]
  have e := Int.mul_ediv_add_emod (Hd t) p
  have r0 := Int.emod_nonneg (Hd t) (b := p) (by omega)
  have r1 := Int.emod_lt_of_pos (Hd t) (b := p) (by omega)
  have q := div_b (x := Hd t) (by omega) hp
  have hle : Hd t % p ≤ Hd t := by have := Int.mul_nonneg (a := p) (b := Hd t / p) (by omega) (by omega); omega
  have hw : Hd t - Hd t % p + p ≤ 9223372036854775807 := by
    by_cases hb : p ≤ 4398046511104
    · omega
    · have := Int.emod_eq_of_lt (a := Hd t) (b := p) (by omega) (by omega); omega
  rw [w64 (x := Hd t - Hd t % p) (by omega) (by omega), w64 (x := Hd t - Hd t % p + p) (by omega) (by omega), w64 (x := Hd t + Hd n) (by omega) (by omega)]
  by_cases hgt : Hd t - Hd t % p + p > Hd t + Hd n
  · rw [if_pos hgt]
    unfold En
    have := (div_u (x := Hd t + Hd n) (p := p) (q := Hd t / p) (r := Hd t % p + Hd n) hp (by omega) (by omega) (by omega)).1
    rw [this]; simp
  · rw [if_neg hgt, w64 (x := Hd t + Hd n - (Hd t - Hd t % p + p)) (by omega) (by omega), Int.tdiv_eq_ediv_of_nonneg (by omega)]
    have e2 : Hd t + Hd n - (Hd t - Hd t % p + p) = Hd t + Hd n + p * (-(Hd t / p + 1)) := by rw [Int.mul_neg, Int.mul_add]; omega
    have e3 : (Hd t + Hd n - (Hd t - Hd t % p + p)) / p = (Hd t + Hd n) / p - (Hd t / p + 1) := by
      rw [e2, Int.add_mul_ediv_left _ _ (by omega)]; omega
    have b1 := div_b (x := Hd t + Hd n - (Hd t - Hd t % p + p)) (by omega) hp
    rw [w64 (x := (Hd t + Hd n - (Hd t - Hd t % p + p)) / p) (by omega) (by omega), w64 (by omega) (by omega), e3]
    unfold En
    congr 1; omega

theorem loop (p n F : Int) (hp : 1 ≤ p ∨ p < 1) (hp2 : p ≤ 9223372036854775807) (hn0 : 0 ≤ n) (hn : n ≤ 255) (hF0 : 0 ≤ F) (hF : F ≤ 100000) (d : Nat) :
    ∀ (k : Nat) (x m : Int), x ≤ F + n + 1 → F + 1 ≤ x → F + n + 1 - x = d → d < k → m = (if 1 ≤ p then (x - 1) / p - F / p else 0) →
      diapauselaw08_BandEnds.l0 k p n true F m x = some true := by
  have wn : wrap64 n = n := w64 (by omega) (by omega)
  have wt : wrap64 (F + n) = F + n := w64 (by omega) (by omega)
  induction d with
  | zero =>
    intro k x m h1 h2 h3 h4 hm
    obtain ⟨k, rfl⟩ : ∃ j, k = j + 1 := ⟨k - 1, by omega⟩
    simp only [diapauselaw08_BandEnds.l0]
    rw [wn, wt, if_neg (by omega), if_pos trivial]
    have hx : x - 1 = F + n := by omega
    rcases hp with hp | hp
    · rw [if_pos hp, hx] at hm
      rw [ends_f hp]
      have he : En p F n = m := by unfold En; rw [Hd_id hF0 (by omega), Hd_id hn0 (by omega), hm]
      simp only [Option.bind_some]
      rw [if_pos he, refEnds_f hp hp2]
      simp
    · rw [if_neg (by omega)] at hm
      rw [ends_f0 hp]
      simp only [Option.bind_some]
      rw [if_pos hm.symm]
      unfold diapauseref08_Ends.f
      rw [if_pos hp]
      rfl
  | succ d ih =>
    intro k x m h1 h2 h3 h4 hm
    obtain ⟨k, rfl⟩ : ∃ j, k = j + 1 := ⟨k - 1, by omega⟩
    simp only [diapauselaw08_BandEnds.l0]
    rw [wn, wt, if_pos (by omega), w64 (x := x + 1) (by omega) (by omega)]
    rcases hp with hp | hp
    · rw [if_pos hp] at hm
      rw [if_pos (by omega), if_neg (by omega), Int.tmod_eq_emod_of_nonneg (by omega)]
      have hs := div_step (x := x) hp
      have b1 := div_b (x := x - 1) (by omega) hp
      have b2 := div_b (x := F) (by omega) hp
      have b3 := div_b (x := x) (by omega) hp
      by_cases h : x % p = 0
      · rw [if_pos h] at hs ⊢
        rw [w64 (x := m + 1) (by omega) (by omega)]
        exact ih k (x + 1) (m + 1) (by omega) (by omega) (by omega) (by omega) (by rw [if_pos hp, show x + 1 - 1 = x from by omega]; omega)
      · rw [if_neg h] at hs ⊢
        exact ih k (x + 1) m (by omega) (by omega) (by omega) (by omega) (by rw [if_pos hp, show x + 1 - 1 = x from by omega]; omega)
    · rw [if_neg (by omega)] at hm
      rw [if_neg (by omega)]
      exact ih k (x + 1) m (by omega) (by omega) (by omega) (by omega) (by rw [if_neg (by omega)]; exact hm)

theorem BandEnds_num (a0 a1 a2 : Int) (h0 : a0 ≤ 9223372036854775807) (h1 : 0 ≤ a1) (h2 : 0 ≤ a2) (h3 : a2 ≤ 255) : ∃ k, diapauselaw08_BandEnds.f k a0 a1 a2 = some true := by
  refine ⟨300, ?_⟩
  unfold diapauselaw08_BandEnds.f
  rw [awake_f]
  simp only [Option.bind_some]
  have r0 := Int.emod_nonneg a1 (b := 100000) (by omega)
  have r1 := Int.emod_lt_of_pos a1 (b := 100000) (by omega)
  rw [Int.tmod_eq_emod_of_nonneg h1, w64 (x := a1 % 100000) (by omega) (by omega), w64 (by omega) (by omega)]
  exact loop a0 a2 (a1 % 100000) (by omega) h0 h2 h3 r0 (by omega) a2.toNat 300 _ _ (by omega) (by omega) (by omega) (by omega) (by rw [show a1 % 100000 + 1 - 1 = a1 % 100000 from by omega]; split <;> omega)

end BandEndsNum

theorem BandEnds : EndsWalk.diapauselaw08_BandEnds.Pure := by
  intro a0 a1 a2 h0 h1 h2
  have b0 := BandEndsNum.bnd_i64 h0
  have b1 := BandEndsNum.bnd_u32 h1
  have b2 := BandEndsNum.bnd_u8 h2
  exact BandEndsNum.BandEnds_num a0 a1 a2 b0.2 b1.1 b2.1 b2.2

end Go.Proofs.Ytcchnefndcnnnaa.Pure
