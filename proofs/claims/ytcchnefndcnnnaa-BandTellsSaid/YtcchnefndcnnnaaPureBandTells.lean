/- BandTells, the plain law: whether any band can be, what is left of it, and what it is when some was had, and some time went by, is as the document says; no conditions. -/
import Derived.Test.YtcchnefndcnnnaaTellsWalk
set_option linter.unusedVariables false
set_option linter.unusedSimpArgs false
namespace Go.Proofs.Ytcchnefndcnnnaa.Pure
open Go.RowKit Go.Proofs.Ytcchnefndcnnnaa.TellsWalk Go.Proofs.Ytcchnefndcnnnaa.PassWalk Go.Proofs.YtcchnefndcnnnaaW.PrintWords Go.Proofs.YtcchnefndcnnnaaW.PrintLast Go.Proofs.YtcchnefndcnnnaaW.PrintMore
open Go.Proofs.Ytcchnefndcnnnaa.PBandTells
open Go.Proofs.Ytcchnefndcnnnaa

namespace BandTellsNum
theorem bnd_u32 {n : Int} (h : (Lit.int .u32 n).wf = true) : 0 ≤ n ∧ n ≤ 4294967295 := by
  simp [Lit.wf, IntKind.min, IntKind.max, IntKind.signed, IntKind.bits] at h
  omega
theorem bnd_u16 {n : Int} (h : (Lit.int .u16 n).wf = true) : 0 ≤ n ∧ n ≤ 65535 := by
  simp [Lit.wf, IntKind.min, IntKind.max, IntKind.signed, IntKind.bits] at h
  omega
theorem bnd_u8 {n : Int} (h : (Lit.int .u8 n).wf = true) : 0 ≤ n ∧ n ≤ 255 := by
  simp [Lit.wf, IntKind.min, IntKind.max, IntKind.signed, IntKind.bits] at h
  omega
theorem bnd_i64 {n : Int} (h : (Lit.int .i64 n).wf = true) : -9223372036854775808 ≤ n ∧ n ≤ 9223372036854775807 := by
  simp [Lit.wf, IntKind.min, IntKind.max, IntKind.signed, IntKind.bits] at h
  omega
/-! What one may have, in plain numbers. -/
def Hd (a : Int) : Int := if a < 0 then 0 else if a > 1099511627776 then 1099511627776 else a
theorem Hd_range (a : Int) : 0 ≤ Hd a ∧ Hd a ≤ 1099511627776 := by unfold Hd; split <;> (try split) <;> omega
theorem Hd_id {a : Int} (h0 : 0 ≤ a) (h1 : a ≤ 1099511627776) : Hd a = a := by unfold Hd; rw [if_neg (by omega), if_neg (by omega)]
theorem held_f (a : Int) : band_held.f a = some (Hd a) := by
  unfold band_held.f mx mn Hd
  congr 1
  by_cases h1 : 1099511627776 < a
  · rw [if_pos h1, if_pos (by omega), if_neg (by omega)]
  · rw [if_neg h1]
    by_cases h2 : 0 < a
    · rw [if_pos h2, if_neg (by omega)]
    · rw [if_neg h2]
      by_cases h3 : a < 0
      · rw [if_pos h3]
      · rw [if_neg h3]; omega
theorem w64 {x : Int} (h0 : -9223372036854775808 ≤ x) (h1 : x ≤ 9223372036854775807) : wrap64 x = x := by unfold wrap64; omega
def En (p t n : Int) : Int := (Hd t + Hd n) / p - Hd t / p
theorem div_b {x p : Int} (hx : 0 ≤ x) (hp : 1 ≤ p) : 0 ≤ x / p ∧ x / p ≤ x :=
  ⟨Int.ediv_nonneg hx (by omega), Int.ediv_le_self p hx⟩
theorem ends_f {p : Int} (hp : 1 ≤ p) (t n : Int) : band_Ends.f p t n = some (En p t n) := by
  have h1 := Hd_range t
  have h2 := Hd_range n
  unfold band_Ends.f
  rw [if_neg (by omega), held_f, held_f]
  simp only [Option.bind_some]
  rw [if_neg (by omega), w64 (x := Hd t + Hd n) (by omega) (by omega), Int.tdiv_eq_ediv_of_nonneg (by omega), Int.tdiv_eq_ediv_of_nonneg (by omega)]
  have h3 := div_b (x := Hd t + Hd n) (by omega) hp
  have h4 := div_b (x := Hd t) (by omega) hp
  rw [w64 (x := (Hd t + Hd n) / p) (by omega) (by omega), w64 (x := Hd t / p) (by omega) (by omega), w64 (by omega) (by omega)]
  rfl
theorem ends_f0 {p : Int} (hp : p < 1) (t n : Int) : band_Ends.f p t n = some 0 := by unfold band_Ends.f; rw [if_pos hp]
theorem En_nonneg {p : Int} (hp : 1 ≤ p) (t n : Int) : 0 ≤ En p t n := by
  have h1 := Hd_range t
  have h2 := Hd_range n
  have := Int.ediv_le_ediv (a := Hd t) (b := Hd t + Hd n) (c := p) (by omega) (by omega)
  unfold En; omega
theorem awake_f : diapauselaw08_awake.f = some true := by decide +kernel
theorem div_u {x p q r : Int} (hp : 1 ≤ p) (h : x = p * q + r) (h0 : 0 ≤ r) (h1 : r < p) : x / p = q ∧ x % p = r :=
  (Int.ediv_emod_unique (by omega)).2 ⟨by omega, h0, h1⟩
theorem div_step {x p : Int} (hp : 1 ≤ p) : x / p = (x - 1) / p + if x % p = 0 then 1 else 0 := by
  have e := Int.mul_ediv_add_emod x p
  have r0 := Int.emod_nonneg x (b := p) (by omega)
  have r1 := Int.emod_lt_of_pos x (b := p) (by omega)
  by_cases h : x % p = 0
  · rw [if_pos h]
    have := (div_u (x := x - 1) (p := p) (q := x / p - 1) (r := p - 1) hp (by rw [Int.mul_sub]; omega) (by omega) (by omega)).1
    omega
  · rw [if_neg h]
    have := (div_u (x := x - 1) (p := p) (q := x / p) (r := x % p - 1) hp (by omega) (by omega) (by omega)).1
    omega
theorem Held_f (a : Int) : PEnds.diapauseref08_Held.f a = some (Hd a) := by
  unfold PEnds.diapauseref08_Held.f Hd
  split
  · rfl
  · split <;> rfl
theorem refEnds_f {p : Int} (hp : 1 ≤ p) (hp2 : p ≤ 9223372036854775807) (t n : Int) : PEnds.diapauseref08_Ends.f p t n = some (En p t n) := by
  have h1 := Hd_range t
  have h2 := Hd_range n
  unfold PEnds.diapauseref08_Ends.f
  rw [if_neg (by omega), Held_f, Held_f]
  simp only [Option.bind_some]
  rw [if_neg (by omega), Int.tmod_eq_emod_of_nonneg (by omega)]
  have e := Int.mul_ediv_add_emod (Hd t) p
  have r0 := Int.emod_nonneg (Hd t) (b := p) (by omega)
  have r1 := Int.emod_lt_of_pos (Hd t) (b := p) (by omega)
  have q := div_b (x := Hd t) (by omega) hp
  have hle : Hd t % p ≤ Hd t := by have := Int.mul_nonneg (a := p) (b := Hd t / p) (by omega) (by omega); omega
  have hw : Hd t - Hd t % p + p ≤ 9223372036854775807 := by
    by_cases hb : p ≤ 4398046511104
    · omega
    · have := Int.emod_eq_of_lt (a := Hd t) (b := p) (by omega) (by omega); omega
  rw [w64 (x := Hd t - Hd t % p) (by omega) (by omega), w64 (x := Hd t - Hd t % p + p) (by omega) (by omega), w64 (x := Hd t + Hd n) (by omega) (by omega)]
  by_cases hgt : Hd t - Hd t % p + p > Hd t + Hd n
  · rw [if_pos hgt]
    unfold En
    have := (div_u (x := Hd t + Hd n) (p := p) (q := Hd t / p) (r := Hd t % p + Hd n) hp (by omega) (by omega) (by omega)).1
    rw [this]; simp
  · rw [if_neg hgt, w64 (x := Hd t + Hd n - (Hd t - Hd t % p + p)) (by omega) (by omega), Int.tdiv_eq_ediv_of_nonneg (by omega)]
    have e2 : Hd t + Hd n - (Hd t - Hd t % p + p) = Hd t + Hd n + p * (-(Hd t / p + 1)) := by rw [Int.mul_neg, Int.mul_add]; omega
    have e3 : (Hd t + Hd n - (Hd t - Hd t % p + p)) / p = (Hd t + Hd n) / p - (Hd t / p + 1) := by
      rw [e2, Int.add_mul_ediv_left _ _ (by omega)]; omega
    have b1 := div_b (x := Hd t + Hd n - (Hd t - Hd t % p + p)) (by omega) hp
    rw [w64 (x := (Hd t + Hd n - (Hd t - Hd t % p + p)) / p) (by omega) (by omega), w64 (by omega) (by omega), e3]
    unfold En
    congr 1; omega
theorem HeldC_f (a : Int) : PCharge.diapauseref08_Held.f a = some (Hd a) := by
  unfold PCharge.diapauseref08_Held.f Hd
  split
  · rfl
  · split <;> rfl
def Can (a b c : Int) : Prop := 0 ≤ a ∧ a ≤ 1048576 ∧ 0 ≤ b ∧ b ≤ 1048576 ∧ 0 ≤ c ∧ c ≤ 1099511627776 ∧ (0 < a ∨ b = 0) ∧ (0 < b ∨ c = 0)
theorem Right_f (a b c : Int) : ∃ r, diapauseref08_Right.f a b c = some r ∧ (r = true ↔ Can a b c) := by
  unfold diapauseref08_Right.f Can
  by_cases h1 : a < 0
  · exact ⟨false, by rw [if_pos h1], by simp; omega⟩
  rw [if_neg h1]
  by_cases h2 : a > 1048576
  · exact ⟨false, by rw [if_pos h2], by simp; omega⟩
  rw [if_neg h2]
  by_cases h3 : b < 0
  · exact ⟨false, by rw [if_pos h3], by simp; omega⟩
  rw [if_neg h3]
  by_cases h4 : b > 1048576
  · exact ⟨false, by rw [if_pos h4], by simp; omega⟩
  rw [if_neg h4]
  by_cases h5 : c < 0
  · exact ⟨false, by rw [if_pos h5], by simp; omega⟩
  rw [if_neg h5]
  by_cases h6 : c > 1099511627776
  · exact ⟨false, by rw [if_pos h6], by simp; omega⟩
  rw [if_neg h6]
  by_cases h7 : a > 0
  · rw [if_pos h7]
    by_cases h8 : b > 0
    · exact ⟨true, by rw [if_pos h8], by simp; omega⟩
    · exact ⟨c == 0, by rw [if_neg h8], by simp; omega⟩
  · rw [if_neg h7]
    by_cases h8 : b = 0
    · exact ⟨c == 0, by rw [if_pos h8, if_neg (by omega)], by simp; omega⟩
    · exact ⟨false, by rw [if_neg h8], by simp; omega⟩
theorem pass_f (a b c t n : Int) (h : Can a b c) : ∃ e, band_Ends.f a t n = some e ∧ 0 ≤ e ∧ band_Pass.f a b c t n = some (a, b, if 0 < e then 0 else c) := by
  by_cases ha : 1 ≤ a
  · refine ⟨En a t n, ends_f ha t n, En_nonneg ha t n, ?_⟩
    unfold band_Pass.f; rw [ends_f ha]; simp only [Option.bind_some]
    by_cases he : 0 < En a t n
    · rw [if_pos he, if_pos he]
    · rw [if_neg he, if_neg he]
  · refine ⟨0, ends_f0 (by omega) t n, by omega, ?_⟩
    unfold band_Pass.f; rw [ends_f0 (by omega)]; simp
theorem shut_f (a b c : Int) : band_Shut.f a b c = some (decide (0 < b ∧ b ≤ c)) := by
  unfold band_Shut.f
  by_cases h : b > 0
  · rw [if_pos h]; congr 1; simp only [decide_eq_decide]; omega
  · rw [if_neg h]; congr 1; symm; rw [decide_eq_false_iff_not]; omega
def Lf (b c : Int) : Int := if b = 0 then -1 else if b ≤ c then 0 else b - c
theorem left_f (a b c : Int) (h : Can a b c) : band_Left.f a b c = some (Lf b c) := by
  unfold Can at h
  unfold band_Left.f Lf mx
  by_cases hb : b = 0
  · rw [if_pos hb, if_pos hb]
  · rw [if_neg hb, if_neg hb, w64 (by omega) (by omega)]
    by_cases hc : b ≤ c
    · rw [if_pos hc, if_neg (by omega)]
    · rw [if_neg hc, if_pos (by omega)]
theorem bRight_f (a b c : Int) (h1 : -9223372036854775808 ≤ a) (h2 : a ≤ 9223372036854775807) : ∃ r, band_Right.f a b c = some r ∧ (r = true ↔ Can a b c) := by
  unfold band_Right.f band_within.f Can
  by_cases hb : b = 0
  · rw [if_pos hb]
    by_cases ha : a ≥ 0
    · rw [if_pos ha]; simp only [Option.bind_some]
      by_cases ha2 : a ≤ 1048576
      · exact ⟨c == 0, by rw [if_pos (by simpa using ha2)]; simp [hb], by simp; omega⟩
      · exact ⟨false, by rw [if_neg (by simpa using ha2)], by simp; omega⟩
    · rw [if_neg ha]; simp only [Option.bind_some]
      exact ⟨false, by simp, by simp; omega⟩
  · rw [if_neg hb]
    have hw : wrap64 (a - 1) = a - 1 ∨ (a = -9223372036854775808 ∧ wrap64 (a - 1) = 9223372036854775807) := by unfold wrap64; omega
    by_cases ha : wrap64 (a - 1) ≥ 0
    · rw [if_pos ha]; simp only [Option.bind_some]
      by_cases ha2 : wrap64 (a - 1) ≤ 1048575
      · rw [if_pos (by simpa using ha2)]
        by_cases hb1 : b ≥ 0
        · rw [if_pos hb1]; simp only [Option.bind_some]
          by_cases hb2 : b ≤ 1048576
          · rw [if_pos (by simpa using hb2)]
            by_cases hc1 : c ≥ 0
            · rw [if_pos hc1]; simp only [Option.bind_some]
              exact ⟨decide (c ≤ 1099511627776), rfl, by simp; omega⟩
            · rw [if_neg hc1]; simp only [Option.bind_some]
              exact ⟨false, rfl, by simp; omega⟩
          · rw [if_neg (by simpa using hb2)]
            exact ⟨false, rfl, by simp; omega⟩
        · rw [if_neg hb1]; simp only [Option.bind_some]
          exact ⟨false, by simp, by simp; omega⟩
      · rw [if_neg (by simpa using ha2)]
        exact ⟨false, rfl, by simp; omega⟩
    · rw [if_neg ha]; simp only [Option.bind_some]
      exact ⟨false, by simp, by simp; omega⟩
theorem charge_f (a b c x : Int) (h : Can a b c) : band_Charge.f a b c x = some (a, b, if 0 < b then Hd (c + Hd x) else c) := by
  unfold Can at h
  have hx := Hd_range x
  unfold band_Charge.f
  by_cases hb : b > 0
  · rw [if_pos hb, held_f]; simp only [Option.bind_some]
    rw [w64 (by omega) (by omega), held_f, if_pos (by omega)]; rfl
  · rw [if_neg hb, if_neg (by omega)]
theorem rCharge_f (a b c x : Int) (h : Can a b c) : PCharge.diapauseref08_Charge.f a b c x = some (a, b, if 0 < b then Hd (c + Hd x) else c) := by
  unfold Can at h
  have hx := Hd_range x
  unfold PCharge.diapauseref08_Charge.f
  by_cases hb : b = 0
  · rw [if_pos hb, if_neg (by omega)]
  · rw [if_neg hb, HeldC_f, if_pos (by omega)]; simp only [Option.bind_some]
    rw [w64 (by omega) (by omega)]
    congr 3
    unfold mn
    by_cases hm : c + Hd x < 1099511627776
    · rw [if_pos hm, Hd_id (a := c + Hd x) (by omega) (by omega)]
    · rw [if_neg hm]; generalize Hd x = z at *; unfold Hd; split <;> (try split) <;> omega
theorem rLeft_f (a b c : Int) (h : Can a b c) : diapauseref08_Left.f a b c = some (Lf b c) := by
  unfold Can at h
  unfold diapauseref08_Left.f Lf
  by_cases hb : b = 0
  · rw [if_pos hb, if_pos hb]
  · rw [if_neg hb, if_neg hb]
    by_cases hc : c > b
    · rw [if_pos hc, if_pos (by omega)]
    · rw [if_neg hc, w64 (by omega) (by omega)]
      by_cases hc2 : b ≤ c
      · rw [if_pos hc2]; congr 1; omega
      · rw [if_neg hc2]
theorem rPass_f (a b c t n : Int) (h : Can a b c) : diapauseref08_Pass.f a b c t n = band_Pass.f a b c t n := by
  unfold diapauseref08_Pass.f band_Pass.f
  by_cases ha : 1 ≤ a
  · unfold Can at h
    rw [refEnds_f ha (by omega), ends_f ha]; simp only [Option.bind_some]
    have := En_nonneg ha t n
    by_cases he : En a t n = 0
    · rw [if_pos he, if_neg (by omega)]
    · rw [if_neg he, if_pos (by omega)]
  · unfold PEnds.diapauseref08_Ends.f
    rw [if_pos (by omega), ends_f0 (by omega)]; simp
theorem BandTells_num (a b c x t n : Int) (h1 : -9223372036854775808 ≤ a) (h2 : a ≤ 9223372036854775807) : diapauselaw08_BandTells.f a b c x t n = some true := by
  unfold diapauselaw08_BandTells.f
  rw [awake_f]
  obtain ⟨r, hr, hC⟩ := Right_f a b c
  obtain ⟨s, hs, hD⟩ := bRight_f a b c h1 h2
  rw [hr, hs]
  have he : s = r := by rw [Bool.eq_iff_iff, hC, hD]
  subst he
  simp only [Option.bind_some]
  rw [if_neg (by simp)]
  cases s with
  | false => simp
  | true =>
    have hc := hC.1 rfl
    rw [if_pos rfl, rLeft_f a b c hc, left_f a b c hc, shut_f, charge_f a b c x hc, rCharge_f a b c x hc]
    obtain ⟨e, E, g, P⟩ := pass_f a b c t n hc
    rw [rPass_f a b c t n hc, P]
    simp only [Option.bind_some]
    have hl : (decide (0 < b ∧ b ≤ c) == (Lf b c == 0)) = true := by
      rw [beq_iff_eq, Bool.eq_iff_iff, decide_eq_true_eq, beq_iff_eq]
      unfold Can at hc; unfold Lf; split <;> (try split) <;> omega
    rw [if_pos trivial, if_pos trivial, if_pos hl]
    simp

end BandTellsNum

theorem BandTells (a b c x t n : Int) (h : (Lit.int .i64 a).wf = true) : diapauselaw08_BandTells.f a b c x t n = some true := by
  have b0 := BandTellsNum.bnd_i64 h
  exact BandTellsNum.BandTells_num a b c x t n b0.1 b0.2

end Go.Proofs.Ytcchnefndcnnnaa.Pure
