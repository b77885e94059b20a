/- BandMore, the plain law: with more quota one is open, if one was, and has as much more left; no conditions. -/
import Derived.Test.YtcchnefndcnnnaaMoreWalk
set_option linter.unusedVariables false
set_option linter.unusedSimpArgs false
namespace Go.Proofs.Ytcchnefndcnnnaa.Pure
open Go.Proofs.Ytcchnefndcnnnaa.MoreWalk Go.RowKit Go.Proofs.Ytcchnefndcnnnaa.PBandMore Go.Proofs.YtcchnefndcnnnaaW.PrintWords Go.Proofs.YtcchnefndcnnnaaW.PrintLast Go.Proofs.YtcchnefndcnnnaaW.PrintMore

namespace BandMoreNum
theorem bnd_u32 {n : Int} (h : (Lit.int .u32 n).wf = true) : 0 ≤ n ∧ n ≤ 4294967295 := by
  simp [Lit.wf, IntKind.min, IntKind.max, IntKind.signed, IntKind.bits] at h
  omega
theorem bnd_u16 {n : Int} (h : (Lit.int .u16 n).wf = true) : 0 ≤ n ∧ n ≤ 65535 := by
  simp [Lit.wf, IntKind.min, IntKind.max, IntKind.signed, IntKind.bits] at h
  omega
theorem bnd_u8 {n : Int} (h : (Lit.int .u8 n).wf = true) : 0 ≤ n ∧ n ≤ 255 := by
  simp [Lit.wf, IntKind.min, IntKind.max, IntKind.signed, IntKind.bits] at h
  omega
theorem bnd_i64 {n : Int} (h : (Lit.int .i64 n).wf = true) : -9223372036854775808 ≤ n ∧ n ≤ 9223372036854775807 := by
  simp [Lit.wf, IntKind.min, IntKind.max, IntKind.signed, IntKind.bits] at h
  omega

/-! What one may have, in plain numbers. -/
def Hd (a : Int) : Int := if a < 0 then 0 else if a > 1099511627776 then 1099511627776 else a
theorem Hd_range (a : Int) : 0 ≤ Hd a ∧ Hd a ≤ 1099511627776 := by unfold Hd; split <;> (try split) <;> omega
theorem Hd_id {a : Int} (h0 : 0 ≤ a) (h1 : a ≤ 1099511627776) : Hd a = a := by unfold Hd; rw [if_neg (by omega), if_neg (by omega)]
theorem held_f (a : Int) : band_held.f a = some (Hd a) := by
  unfold band_held.f mx mn Hd
  congr 1
  by_cases h1 : 1099511627776 < a
  · rw [if_pos h1, if_pos (by omega), if_neg (by omega)]
  · rw [if_neg h1]
    by_cases h2 : 0 < a
    · rw [if_pos h2, if_neg (by omega)]
    · rw [if_neg h2]
      by_cases h3 : a < 0
      · rw [if_pos h3]
      · rw [if_neg h3]; omega
theorem w64 {x : Int} (h0 : -9223372036854775808 ≤ x) (h1 : x ≤ 9223372036854775807) : wrap64 x = x := by unfold wrap64; omega
def En (p t n : Int) : Int := (Hd t + Hd n) / p - Hd t / p
theorem div_b {x p : Int} (hx : 0 ≤ x) (hp : 1 ≤ p) : 0 ≤ x / p ∧ x / p ≤ x :=
  ⟨Int.ediv_nonneg hx (by omega), Int.ediv_le_self p hx⟩
theorem ends_f {p : Int} (hp : 1 ≤ p) (t n : Int) : band_Ends.f p t n = some (En p t n) := by
  have h1 := Hd_range t
  have h2 := Hd_range n
  unfold band_Ends.f
  rw [if_neg (by omega), held_f, held_f]
  simp only [Option.bind_some]
  rw [if_neg (by omega), w64 (x := Hd t + Hd n) (by omega) (by omega), Int.tdiv_eq_ediv_of_nonneg (by omega), Int.tdiv_eq_ediv_of_nonneg (by omega)]
  have h3 := div_b (x := Hd t + Hd n) (by omega) hp
  have h4 := div_b (x := Hd t) (by omega) hp
  rw [w64 (x := (Hd t + Hd n) / p) (by omega) (by omega), w64 (x := Hd t / p) (by omega) (by omega), w64 (by omega) (by omega)]
  rfl
theorem ends_f0 {p : Int} (hp : p < 1) (t n : Int) : band_Ends.f p t n = some 0 := by unfold band_Ends.f; rw [if_pos hp]
theorem En_nonneg {p : Int} (hp : 1 ≤ p) (t n : Int) : 0 ≤ En p t n := by
  have h1 := Hd_range t
  have h2 := Hd_range n
  have := Int.ediv_le_ediv (a := Hd t) (b := Hd t + Hd n) (c := p) (by omega) (by omega)
  unfold En; omega
theorem awake_f : diapauselaw08_awake.f = some true := by decide +kernel
theorem div_u {x p q r : Int} (hp : 1 ≤ p) (h : x = p * q + r) (h0 : 0 ≤ r) (h1 : r < p) : x / p = q ∧ x % p = r :=
  (Int.ediv_emod_unique (by omega)).2 ⟨by omega, h0, h1⟩
theorem div_step {x p : Int} (hp : 1 ≤ p) : x / p = (x - 1) / p + if x % p = 0 then 1 else 0 := by
  have e := Int.mul_ediv_add_emod x p
  have r0 := Int.emod_nonneg x (b := p) (by omega)
  have r1 := Int.emod_lt_of_pos x (b := p) (by omega)
  by_cases h : x % p = 0
  · rw [if_pos h]
    have := (div_u (x := x - 1) (p := p) (q := x / p - 1) (r := p - 1) hp (by rw [Int.mul_sub]; omega) (by omega) (by omega)).1
    omega
  · rw [if_neg h]
    have := (div_u (x := x - 1) (p := p) (q := x / p) (r := x % p - 1) hp (by omega) (by omega) (by omega)).1
    omega

def Can (a b c : Int) : Prop := 0 ≤ a ∧ a ≤ 1048576 ∧ 0 ≤ b ∧ b ≤ 1048576 ∧ 0 ≤ c ∧ c ≤ 1099511627776 ∧ (0 < a ∨ b = 0) ∧ (0 < b ∨ c = 0)
theorem Right_f (a b c : Int) : ∃ r, diapauseref08_Right.f a b c = some r ∧ (r = true ↔ Can a b c) := by
  unfold diapauseref08_Right.f Can
  by_cases h1 : a < 0
  · exact ⟨false, by rw [if_pos h1], by simp; omega⟩
  rw [if_neg h1]
  by_cases h2 : a > 1048576
  · exact ⟨false, by rw [if_pos h2], by simp; omega⟩
  rw [if_neg h2]
  by_cases h3 : b < 0
  · exact ⟨false, by rw [if_pos h3], by simp; omega⟩
  rw [if_neg h3]
  by_cases h4 : b > 1048576
  · exact ⟨false, by rw [if_pos h4], by simp; omega⟩
  rw [if_neg h4]
  by_cases h5 : c < 0
  · exact ⟨false, by rw [if_pos h5], by simp; omega⟩
  rw [if_neg h5]
  by_cases h6 : c > 1099511627776
  · exact ⟨false, by rw [if_pos h6], by simp; omega⟩
  rw [if_neg h6]
  by_cases h7 : a > 0
  · rw [if_pos h7]
    by_cases h8 : b > 0
    · exact ⟨true, by rw [if_pos h8], by simp; omega⟩
    · exact ⟨c == 0, by rw [if_neg h8], by simp; omega⟩
  · rw [if_neg h7]
    by_cases h8 : b = 0
    · exact ⟨c == 0, by rw [if_pos h8, if_neg (by omega)], by simp; omega⟩
    · exact ⟨false, by rw [if_neg h8], by simp; omega⟩
theorem pass_f (a b c t n : Int) (h : Can a b c) : ∃ e, band_Ends.f a t n = some e ∧ 0 ≤ e ∧ band_Pass.f a b c t n = some (a, b, if 0 < e then 0 else c) := by
  by_cases ha : 1 ≤ a
  · refine ⟨En a t n, ends_f ha t n, En_nonneg ha t n, ?_⟩
    unfold band_Pass.f; rw [ends_f ha]; simp only [Option.bind_some]
    by_cases he : 0 < En a t n
    · rw [if_pos he, if_pos he]
    · rw [if_neg he, if_neg he]
  · refine ⟨0, ends_f0 (by omega) t n, by omega, ?_⟩
    unfold band_Pass.f; rw [ends_f0 (by omega)]; simp
theorem shut_f (a b c : Int) : band_Shut.f a b c = some (decide (0 < b ∧ b ≤ c)) := by
  unfold band_Shut.f
  by_cases h : b > 0
  · rw [if_pos h]; congr 1; simp only [decide_eq_decide]; omega
  · rw [if_neg h]; congr 1; symm; rw [decide_eq_false_iff_not]; omega
def Lf (b c : Int) : Int := if b = 0 then -1 else if b ≤ c then 0 else b - c
theorem left_f (a b c : Int) (h : Can a b c) : band_Left.f a b c = some (Lf b c) := by
  unfold Can at h
  unfold band_Left.f Lf mx
  by_cases hb : b = 0
  · rw [if_pos hb, if_pos hb]
  · rw [if_neg hb, if_neg hb, w64 (by omega) (by omega)]
    by_cases hc : b ≤ c
    · rw [if_pos hc, if_neg (by omega)]
    · rw [if_neg hc, if_pos (by omega)]

theorem BandMore_num (a b c m : Int) (h1 : 0 ≤ m) (h1' : m ≤ 65535) (h2 : -9223372036854775808 ≤ b) (h2' : b ≤ 9223372036854775807) : ∃ k, diapauselaw08_BandMore.f k a b c m = some true := by
  refine ⟨1, ?_⟩
  unfold diapauselaw08_BandMore.f
  rw [awake_f]
  obtain ⟨r, hr, hC⟩ := Right_f a b c
  obtain ⟨s, hs, hD⟩ := Right_f a (wrap64 (b + wrap64 m)) c
  rw [hr, hs]
  simp only [Option.bind_some]
  cases r with
  | false => simp [diapauselaw08_BandMore.j0]
  | true =>
    cases s with
    | false => simp [diapauselaw08_BandMore.j0]
    | true =>
      have hc := hC.1 rfl
      have hd := hD.1 rfl
      have e : wrap64 (b + wrap64 m) = b + m := by
        unfold Can at hc
        rw [w64 (x := m) (by omega) (by omega), w64 (by omega) (by omega)]
      rw [e] at hd ⊢
      rw [if_pos rfl, if_pos rfl]
      simp only [diapauselaw08_BandMore.j0]
      by_cases hb : b = 0
      · rw [if_pos (by simp [hb])]
      · rw [if_neg (by simp [hb])]
        rw [shut_f, shut_f, left_f a b c hc, left_f a (b + m) c hd, w64 (x := m) (by omega) (by omega)]
        simp only [Option.bind_some]
        unfold Can at hc hd
        by_cases q : b ≤ c
        · rw [if_pos trivial, if_pos (by simp; omega)]
          have : Lf (b + m) c ≥ Lf b c := by unfold Lf; rw [if_neg (show ¬ b + m = 0 by omega), if_neg hb, if_pos q]; split <;> omega
          split <;> simp [this]
        · have l1 : Lf b c = b - c := by unfold Lf; rw [if_neg (by omega), if_neg q]
          have l2 : Lf (b + m) c = b + m - c := by unfold Lf; rw [if_neg (by omega), if_neg (by omega)]
          rw [if_pos trivial, if_neg (by simp; omega), if_neg (by simp; omega), l1, l2, w64 (by omega) (by omega), if_pos (by omega), if_neg (by simp; omega)]
          simp only [Option.some.injEq, decide_eq_true_eq]
          omega

end BandMoreNum
theorem BandMore (a b c m : Int) (hb : (Lit.int .i64 b).wf = true) (h : (Lit.int .u16 m).wf = true) : ∃ k, diapauselaw08_BandMore.f k a b c m = some true := by
  have b1 := BandMoreNum.bnd_i64 hb
  have b2 := BandMoreNum.bnd_u16 h
  exact BandMoreNum.BandMore_num a b c m b2.1 b2.2 b1.1 b1.2

end Go.Proofs.Ytcchnefndcnnnaa.Pure
