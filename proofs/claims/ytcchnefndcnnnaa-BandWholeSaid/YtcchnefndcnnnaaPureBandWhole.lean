/- BandWhole: in so many periods so many end, from whenever on; no conditions. -/
import Derived.Test.YtcchnefndcnnnaaPBandWholex2
set_option linter.unusedVariables false
set_option linter.unusedSimpArgs false
namespace Go.Proofs.Ytcchnefndcnnnaa.Pure
open Go.RowKit Go.Proofs.Ytcchnefndcnnnaa.PBandWhole Go.Proofs.YtcchnefndcnnnaaW.PrintWords Go.Proofs.YtcchnefndcnnnaaW.PrintLast Go.Proofs.YtcchnefndcnnnaaW.PrintMore

namespace BandWholeNum
theorem bnd_u32 {n : Int} (h : (Lit.int .u32 n).wf = true) : 0 ≤ n ∧ n ≤ 4294967295 := by
  simp [Lit.wf, IntKind.min, IntKind.max, IntKind.signed, IntKind.bits] at h
  omega
theorem bnd_u16 {n : Int} (h : (Lit.int .u16 n).wf = true) : 0 ≤ n ∧ n ≤ 65535 := by
  simp [Lit.wf, IntKind.min, IntKind.max, IntKind.signed, IntKind.bits] at h
  omega
theorem bnd_u8 {n : Int} (h : (Lit.int .u8 n).wf = true) : 0 ≤ n ∧ n ≤ 255 := by
  simp [Lit.wf, IntKind.min, IntKind.max, IntKind.signed, IntKind.bits] at h
  omega
theorem bnd_i64 {n : Int} (h : (Lit.int .i64 n).wf = true) : -9223372036854775808 ≤ n ∧ n ≤ 9223372036854775807 := by
  simp [Lit.wf, IntKind.min, IntKind.max, IntKind.signed, IntKind.bits] at h
  omega

/-! What one may have, in plain numbers. -/
def Hd (a : Int) : Int := if a < 0 then 0 else if a > 1099511627776 then 1099511627776 else a
theorem Hd_range (a : Int) : 0 ≤ Hd a ∧ Hd a ≤ 1099511627776 := by unfold Hd; split <;> (try split) <;> omega
theorem Hd_id {a : Int} (h0 : 0 ≤ a) (h1 : a ≤ 1099511627776) : Hd a = a := by unfold Hd; rw [if_neg (by omega), if_neg (by omega)]
theorem held_f (a : Int) : band_held.f a = some (Hd a) := by
  unfold band_held.f mx mn Hd
  congr 1
  by_cases h1 : 1099511627776 < a
  · rw [if_pos h1, if_pos (by omega), if_neg (by omega)]
  · rw [if_neg h1]
    by_cases h2 : 0 < a
    · rw [if_pos h2, if_neg (by omega)]
    · rw [if_neg h2]
      by_cases h3 : a < 0
      · rw [if_pos h3]
      · rw [if_neg h3]; omega
theorem w64 {x : Int} (h0 : -9223372036854775808 ≤ x) (h1 : x ≤ 9223372036854775807) : wrap64 x = x := by unfold wrap64; omega
def En (p t n : Int) : Int := (Hd t + Hd n) / p - Hd t / p
theorem div_b {x p : Int} (hx : 0 ≤ x) (hp : 1 ≤ p) : 0 ≤ x / p ∧ x / p ≤ x :=
  ⟨Int.ediv_nonneg hx (by omega), Int.ediv_le_self p hx⟩
theorem ends_f {p : Int} (hp : 1 ≤ p) (t n : Int) : band_Ends.f p t n = some (En p t n) := by
  have h1 := Hd_range t
  have h2 := Hd_range n
  unfold band_Ends.f
  rw [if_neg (by omega), held_f, held_f]
  simp only [Option.bind_some]
  rw [if_neg (by omega), w64 (x := Hd t + Hd n) (by omega) (by omega), Int.tdiv_eq_ediv_of_nonneg (by omega), Int.tdiv_eq_ediv_of_nonneg (by omega)]
  have h3 := div_b (x := Hd t + Hd n) (by omega) hp
  have h4 := div_b (x := Hd t) (by omega) hp
  rw [w64 (x := (Hd t + Hd n) / p) (by omega) (by omega), w64 (x := Hd t / p) (by omega) (by omega), w64 (by omega) (by omega)]
  rfl
theorem ends_f0 {p : Int} (hp : p < 1) (t n : Int) : band_Ends.f p t n = some 0 := by unfold band_Ends.f; rw [if_pos hp]
theorem En_nonneg {p : Int} (hp : 1 ≤ p) (t n : Int) : 0 ≤ En p t n := by
  have h1 := Hd_range t
  have h2 := Hd_range n
  have := Int.ediv_le_ediv (a := Hd t) (b := Hd t + Hd n) (c := p) (by omega) (by omega)
  unfold En; omega
theorem awake_f : diapauselaw08_awake.f = some true := by decide +kernel
theorem div_u {x p q r : Int} (hp : 1 ≤ p) (h : x = p * q + r) (h0 : 0 ≤ r) (h1 : r < p) : x / p = q ∧ x % p = r :=
  (Int.ediv_emod_unique (by omega)).2 ⟨by omega, h0, h1⟩
theorem div_step {x p : Int} (hp : 1 ≤ p) : x / p = (x - 1) / p + if x % p = 0 then 1 else 0 := by
  have e := Int.mul_ediv_add_emod x p
  have r0 := Int.emod_nonneg x (b := p) (by omega)
  have r1 := Int.emod_lt_of_pos x (b := p) (by omega)
  by_cases h : x % p = 0
  · rw [if_pos h]
    have := (div_u (x := x - 1) (p := p) (q := x / p - 1) (r := p - 1) hp (by rw [Int.mul_sub]; omega) (by omega) (by omega)).1
    omega
  · rw [if_neg h]
    have := (div_u (x := x - 1) (p := p) (q := x / p) (r := x % p - 1) hp (by omega) (by omega) (by omega)).1
    omega

theorem BandWhole_num (a0 a1 a2 : Int) (h0 : 0 ≤ a0) (h0' : a0 ≤ 65535) (h1 : 0 ≤ a1) (h1' : a1 ≤ 65535) (h2 : 0 ≤ a2) (h2' : a2 ≤ 4294967295) : diapauselaw08_BandWhole.f a0 a1 a2 = some true := by
  unfold diapauselaw08_BandWhole.f
  rw [awake_f]
  simp only [Option.bind_some]
  obtain ⟨p, hp⟩ : ∃ p, p = 1 + a0 := ⟨_, rfl⟩
  have m0 : 0 ≤ p * a1 := Int.mul_nonneg (by omega) h1
  have m1 : p * a1 ≤ 65536 * 65535 := Int.mul_le_mul (by omega) h1' h1 (by omega)
  rw [w64 (x := a0) (by omega) (by omega), w64 (x := 1 + a0) (by omega) (by omega), w64 (x := a1) (by omega) (by omega), w64 (x := a2) (by omega) (by omega), ← hp,
    w64 (x := p * a1) (by omega) (by omega), w64 (x := p * a1 + p) (by omega) (by omega), w64 (x := p * a1 + p - 1) (by omega) (by omega), w64 (x := a1 + 1) (by omega) (by omega), w64 (x := p - 1) (by omega) (by omega)]
  have hp1 : 1 ≤ p := by omega
  have e1 : En p a2 (p * a1) = a1 := by
    unfold En; rw [Hd_id h2 (by omega), Hd_id m0 (by omega), Int.add_mul_ediv_left _ _ (by omega)]; omega
  have e2 : En p a2 (p * a1 + p - 1) ≤ a1 + 1 := by
    unfold En; rw [Hd_id h2 (by omega), Hd_id (a := p * a1 + p - 1) (by omega) (by omega)]
    have := Int.ediv_le_ediv (a := a2 + (p * a1 + p - 1)) (b := a2 + p * (a1 + 1)) (c := p) (by omega) (by rw [Int.mul_add]; omega)
    rw [Int.add_mul_ediv_left _ _ (by omega)] at this; omega
  have e3 : En p (p * a1) (p - 1) = 0 := by
    unfold En; rw [Hd_id m0 (by omega), Hd_id (a := p - 1) (by omega) (by omega)]
    have := (div_u (x := p * a1 + (p - 1)) (p := p) (q := a1) (r := p - 1) hp1 rfl (by omega) (by omega)).1
    have := (div_u (x := p * a1) (p := p) (q := a1) (r := 0) hp1 (by omega) (by omega) (by omega)).1
    omega
  rw [if_pos trivial, ends_f hp1, ends_f hp1, ends_f hp1]
  simp only [Option.bind_some]
  rw [if_pos e1, if_pos e2, e3]
  rfl

end BandWholeNum
theorem BandWhole : diapauselaw08_BandWhole.Pure := by
  intro a0 a1 a2 h0 h1 h2
  have b0 := BandWholeNum.bnd_u16 h0
  have b1 := BandWholeNum.bnd_u16 h1
  have b2 := BandWholeNum.bnd_u32 h2
  exact BandWholeNum.BandWhole_num a0 a1 a2 b0.1 b0.2 b1.1 b1.2 b2.1 b2.2

end Go.Proofs.Ytcchnefndcnnnaa.Pure
