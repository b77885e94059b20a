/- BandBounds, the plain law: nobody has more than its quota in a period; no conditions. -/
import Derived.Test.YtcchnefndcnnnaaPBandBoundsx3
set_option linter.unusedVariables false
set_option linter.unusedSimpArgs false
namespace Go.Proofs.Ytcchnefndcnnnaa.Pure
open Go.RowKit Go.Proofs.Ytcchnefndcnnnaa.PBandBounds Go.Proofs.YtcchnefndcnnnaaW.PrintWords Go.Proofs.YtcchnefndcnnnaaW.PrintLast Go.Proofs.YtcchnefndcnnnaaW.PrintMore

namespace BandBoundsNum
theorem bnd_u32 {n : Int} (h : (Lit.int .u32 n).wf = true) : 0 ≤ n ∧ n ≤ 4294967295 := by
  simp [Lit.wf, IntKind.min, IntKind.max, IntKind.signed, IntKind.bits] at h
  omega
theorem bnd_u16 {n : Int} (h : (Lit.int .u16 n).wf = true) : 0 ≤ n ∧ n ≤ 65535 := by
  simp [Lit.wf, IntKind.min, IntKind.max, IntKind.signed, IntKind.bits] at h
  omega
theorem bnd_u8 {n : Int} (h : (Lit.int .u8 n).wf = true) : 0 ≤ n ∧ n ≤ 255 := by
  simp [Lit.wf, IntKind.min, IntKind.max, IntKind.signed, IntKind.bits] at h
  omega
theorem bnd_i64 {n : Int} (h : (Lit.int .i64 n).wf = true) : -9223372036854775808 ≤ n ∧ n ≤ 9223372036854775807 := by
  simp [Lit.wf, IntKind.min, IntKind.max, IntKind.signed, IntKind.bits] at h
  omega

/-! What one may have, in plain numbers. -/
def Hd (a : Int) : Int := if a < 0 then 0 else if a > 1099511627776 then 1099511627776 else a
theorem Hd_range (a : Int) : 0 ≤ Hd a ∧ Hd a ≤ 1099511627776 := by unfold Hd; split <;> (try split) <;> omega
theorem Hd_id {a : Int} (h0 : 0 ≤ a) (h1 : a ≤ 1099511627776) : Hd a = a := by unfold Hd; rw [if_neg (by omega), if_neg (by omega)]
theorem held_f (a : Int) : band_held.f a = some (Hd a) := by
  unfold band_held.f mx mn Hd
  congr 1
  by_cases h1 : 1099511627776 < a
  · rw [if_pos h1, if_pos (by omega), if_neg (by omega)]
  · rw [if_neg h1]
    by_cases h2 : 0 < a
    · rw [if_pos h2, if_neg (by omega)]
    · rw [if_neg h2]
      by_cases h3 : a < 0
      · rw [if_pos h3]
      · rw [if_neg h3]; omega
theorem w64 {x : Int} (h0 : -9223372036854775808 ≤ x) (h1 : x ≤ 9223372036854775807) : wrap64 x = x := by unfold wrap64; omega
def En (p t n : Int) : Int := (Hd t + Hd n) / p - Hd t / p
theorem div_b {x p : Int} (hx : 0 ≤ x) (hp : 1 ≤ p) : 0 ≤ x / p ∧ x / p ≤ x :=
  ⟨Int.ediv_nonneg hx (by omega), Int.ediv_le_self p hx⟩
theorem ends_f {p : Int} (hp : 1 ≤ p) (t n : Int) : band_Ends.f p t n = some (En p t n) := by
  have h1 := Hd_range t
  have h2 := Hd_range n
  unfold band_Ends.f
  rw [if_neg (by omega), held_f, held_f]
  simp only [Option.bind_some]
  rw [if_neg (by omega), w64 (x := Hd t + Hd n) (by omega) (by omega), Int.tdiv_eq_ediv_of_nonneg (by omega), Int.tdiv_eq_ediv_of_nonneg (by omega)]
  have h3 := div_b (x := Hd t + Hd n) (by omega) hp
  have h4 := div_b (x := Hd t) (by omega) hp
  rw [w64 (x := (Hd t + Hd n) / p) (by omega) (by omega), w64 (x := Hd t / p) (by omega) (by omega), w64 (by omega) (by omega)]
  rfl
theorem ends_f0 {p : Int} (hp : p < 1) (t n : Int) : band_Ends.f p t n = some 0 := by unfold band_Ends.f; rw [if_pos hp]
theorem En_nonneg {p : Int} (hp : 1 ≤ p) (t n : Int) : 0 ≤ En p t n := by
  have h1 := Hd_range t
  have h2 := Hd_range n
  have := Int.ediv_le_ediv (a := Hd t) (b := Hd t + Hd n) (c := p) (by omega) (by omega)
  unfold En; omega
theorem awake_f : diapauselaw08_awake.f = some true := by decide +kernel
theorem div_u {x p q r : Int} (hp : 1 ≤ p) (h : x = p * q + r) (h0 : 0 ≤ r) (h1 : r < p) : x / p = q ∧ x % p = r :=
  (Int.ediv_emod_unique (by omega)).2 ⟨by omega, h0, h1⟩
theorem div_step {x p : Int} (hp : 1 ≤ p) : x / p = (x - 1) / p + if x % p = 0 then 1 else 0 := by
  have e := Int.mul_ediv_add_emod x p
  have r0 := Int.emod_nonneg x (b := p) (by omega)
  have r1 := Int.emod_lt_of_pos x (b := p) (by omega)
  by_cases h : x % p = 0
  · rw [if_pos h]
    have := (div_u (x := x - 1) (p := p) (q := x / p - 1) (r := p - 1) hp (by rw [Int.mul_sub]; omega) (by omega) (by omega)).1
    omega
  · rw [if_neg h]
    have := (div_u (x := x - 1) (p := p) (q := x / p) (r := x % p - 1) hp (by omega) (by omega) (by omega)).1
    omega

def Can (a b c : Int) : Prop := 0 ≤ a ∧ a ≤ 1048576 ∧ 0 ≤ b ∧ b ≤ 1048576 ∧ 0 ≤ c ∧ c ≤ 1099511627776 ∧ (0 < a ∨ b = 0) ∧ (0 < b ∨ c = 0)

theorem shut_f (a b c : Int) : band_Shut.f a b c = some (decide (0 < b ∧ b ≤ c)) := by
  unfold band_Shut.f
  by_cases h : b > 0
  · rw [if_pos h]; congr 1; simp only [decide_eq_decide]; omega
  · rw [if_neg h]; congr 1; symm; rw [decide_eq_false_iff_not]; omega

theorem bRight_f (a b c : Int) (h1 : -9223372036854775808 ≤ a) (h2 : a ≤ 9223372036854775807) : ∃ r, band_Right.f a b c = some r ∧ (r = true ↔ Can a b c) := by
  unfold band_Right.f band_within.f Can
  by_cases hb : b = 0
  · rw [if_pos hb]
    by_cases ha : a ≥ 0
    · rw [if_pos ha]; simp only [Option.bind_some]
      by_cases ha2 : a ≤ 1048576
      · exact ⟨c == 0, by rw [if_pos (by simpa using ha2)]; simp [hb], by simp; omega⟩
      · exact ⟨false, by rw [if_neg (by simpa using ha2)], by simp; omega⟩
    · rw [if_neg ha]; simp only [Option.bind_some]
      exact ⟨false, by simp, by simp; omega⟩
  · rw [if_neg hb]
    have hw : wrap64 (a - 1) = a - 1 ∨ (a = -9223372036854775808 ∧ wrap64 (a - 1) = 9223372036854775807) := by unfold wrap64; omega
    by_cases ha : wrap64 (a - 1) ≥ 0
    · rw [if_pos ha]; simp only [Option.bind_some]
      by_cases ha2 : wrap64 (a - 1) ≤ 1048575
      · rw [if_pos (by simpa using ha2)]
        by_cases hb1 : b ≥ 0
        · rw [if_pos hb1]; simp only [Option.bind_some]
          by_cases hb2 : b ≤ 1048576
          · rw [if_pos (by simpa using hb2)]
            by_cases hc1 : c ≥ 0
            · rw [if_pos hc1]; simp only [Option.bind_some]
              exact ⟨decide (c ≤ 1099511627776), rfl, by simp; omega⟩
            · rw [if_neg hc1]; simp only [Option.bind_some]
              exact ⟨false, rfl, by simp; omega⟩
          · rw [if_neg (by simpa using hb2)]
            exact ⟨false, rfl, by simp; omega⟩
        · rw [if_neg hb1]; simp only [Option.bind_some]
          exact ⟨false, by simp, by simp; omega⟩
      · rw [if_neg (by simpa using ha2)]
        exact ⟨false, rfl, by simp; omega⟩
    · rw [if_neg ha]; simp only [Option.bind_some]
      exact ⟨false, by simp, by simp; omega⟩

theorem j2ok (k : Nat) (l : List Bool) (p h now Q u : Int) (hp : 1 ≤ p ∧ p ≤ 1000) (hh : 0 ≤ h ∧ h ≤ 1000) (hQ : 0 ≤ Q ∧ Q ≤ 999) (i1 : 0 < Q → u = h ∧ h ≤ Q) (i2 : Q = 0 → u = 0) :
    diapauselaw08_BandBounds.j2 (k + 1) l true p h now p Q u = diapauselaw08_BandBounds.j3 k l true p h now false p Q u := by
  simp only [diapauselaw08_BandBounds.j2]
  by_cases hq : Q > 0
  · obtain ⟨rfl, hle⟩ := i1 hq
    rw [if_pos hq, if_neg (by omega)]
    have hl : band_Left.f p Q u = some (Q - u) := by
      unfold band_Left.f mx
      rw [if_neg (by omega), w64 (by omega) (by omega)]
      by_cases h0 : 0 < Q - u
      · rw [if_pos h0]
      · rw [if_neg h0]; congr 1; omega
    rw [hl]; simp only [Option.bind_some]
    rw [if_pos (by rw [w64 (by omega) (by omega)]), if_neg (by omega)]
  · have h0 : Q = 0 := by omega
    obtain rfl := i2 h0
    rw [if_neg hq, if_pos h0, shut_f]; simp only [Option.bind_some]
    rw [if_neg (by rw [decide_eq_true_eq]; omega)]
    rfl
theorem j3ok (k : Nat) (l : List Bool) (p h now Q u : Int) (hp : 1 ≤ p ∧ p ≤ 1000) (hn : 0 ≤ now ∧ now ≤ 1000) :
    diapauselaw08_BandBounds.j3 (k + 1) l true p h now false p Q u = if (now + 1) % p = 0 then diapauselaw08_BandBounds.l0 k l true p 0 (now + 1) p Q 0 else diapauselaw08_BandBounds.l0 k l true p h (now + 1) p Q u := by
  simp only [diapauselaw08_BandBounds.j3]
  rw [if_neg (by simp)]
  have e : En p now 1 = (now + 1) / p - now / p := by unfold En; rw [Hd_id hn.1 (by omega), show Hd 1 = 1 from rfl]
  have hs := div_step (x := now + 1) hp.1
  rw [show now + 1 - 1 = now from by omega] at hs
  unfold band_Pass.f
  rw [ends_f hp.1, e]; simp only [Option.bind_some]
  rw [w64 (x := now + 1) (by omega) (by omega), Int.tmod_eq_emod_of_nonneg (by omega)]
  by_cases hm : (now + 1) % p = 0
  · rw [if_pos hm] at hs
    rw [if_pos (by omega)]; simp only [Option.bind_some]
    rw [if_neg (by omega), if_pos hm, if_pos hm]
  · rw [if_neg hm] at hs
    rw [if_neg (by omega)]; simp only [Option.bind_some]
    rw [if_neg (by omega), if_neg hm, if_neg hm]
theorem charge1 (p Q u : Int) (hu : 0 ≤ u ∧ u ≤ 1000) : band_Charge.f p Q u 1 = some (p, Q, if 0 < Q then u + 1 else u) := by
  unfold band_Charge.f
  by_cases hq : Q > 0
  · rw [if_pos hq, held_f, show Hd 1 = 1 from rfl]; simp only [Option.bind_some]
    rw [w64 (by omega) (by omega), held_f, Hd_id (by omega) (by omega), if_pos (by omega)]; rfl
  · rw [if_neg hq, if_neg (by omega)]
theorem loop (l : List Bool) (p Q : Int) (hl : l.length ≤ 500) (hp : 1 ≤ p ∧ p ≤ 1000) (hQ : 0 ≤ Q ∧ Q ≤ 999) (d : Nat) :
    ∀ (k : Nat) (h now u : Int), 0 ≤ now → now ≤ l.length → (l.length : Int) - now = d → 4 * d < k → 0 ≤ h ∧ h ≤ now → (0 < Q → u = h ∧ h ≤ Q) → (Q = 0 → u = 0) →
      diapauselaw08_BandBounds.l0 k l true p h now p Q u = some true := by
  induction d with
  | zero =>
    intro k h now u h0 h1 h2 h3 h4 i1 i2
    obtain ⟨k, rfl⟩ : ∃ j, k = j + 1 := ⟨k - 1, by omega⟩
    simp only [diapauselaw08_BandBounds.l0]
    rw [if_neg (by omega), if_pos trivial]
    obtain ⟨r, hr, hE⟩ := bRight_f p Q u (by omega) (by omega)
    have : r = true := hE.2 (by unfold Can; omega)
    rw [hr, this]; rfl
  | succ d ih =>
    intro k h now u h0 h1 h2 h3 h4 i1 i2
    obtain ⟨k, rfl⟩ : ∃ j, k = j + 4 := ⟨k - 4, by omega⟩
    have hu : 0 ≤ u ∧ u ≤ 1000 := by omega
    have step : ∀ (h' u' : Int), (0 ≤ h' ∧ h' ≤ now + 1) → (0 < Q → u' = h' ∧ h' ≤ Q) → (Q = 0 → u' = 0) → diapauselaw08_BandBounds.j2 (k + 2) l true p h' now p Q u' = some true := by
      intro h' u' hh j1 j2
      rw [j2ok (k + 1) l p h' now Q u' hp (by omega) hQ j1 j2, j3ok k l p h' now Q u' hp (by omega)]
      by_cases hm : (now + 1) % p = 0
      · rw [if_pos hm]
        exact ih k 0 (now + 1) 0 (by omega) (by omega) (by omega) (by omega) (by omega) (by omega) (fun _ => rfl)
      · rw [if_neg hm]
        exact ih k h' (now + 1) u' (by omega) (by omega) (by omega) (by omega) (by omega) j1 j2
    have e : k + 4 = (k + 3) + 1 := rfl
    rw [e]
    simp only [diapauselaw08_BandBounds.l0]
    rw [if_pos (by omega), if_pos h0]
    by_cases hw : rdOf false l now = true
    · rw [if_pos hw, shut_f]; simp only [Option.bind_some]
      simp only [diapauselaw08_BandBounds.j1]
      by_cases hs : 0 < Q ∧ Q ≤ u
      · rw [if_neg (by simp; omega)]
        exact step h u (by omega) i1 i2
      · rw [if_pos (by simp; omega), charge1 p Q u hu]; simp only [Option.bind_some]
        rw [w64 (x := h + 1) (by omega) (by omega)]
        exact step (h + 1) _ (by omega) (fun hq => by rw [if_pos hq]; omega) (fun hq => by rw [if_neg (by omega)]; exact i2 hq)
    · rw [if_neg hw]
      simp only [diapauselaw08_BandBounds.j1]
      rw [if_neg (by simp)]
      exact step h u (by omega) i1 i2
theorem BandBounds_num (a0 a1 : Int) (l : List Bool) (h0 : 0 ≤ a0) (h1 : 0 ≤ a1) : ∃ k, diapauselaw08_BandBounds.f k a0 a1 l = some true := by
  refine ⟨2001, ?_⟩
  unfold diapauselaw08_BandBounds.f
  rw [awake_f]; simp only [Option.bind_some]
  by_cases hl : (l.length : Int) > 500
  · rw [if_pos hl]
  · rw [if_neg hl]
    have r0 := Int.emod_nonneg a0 (b := 1000) (by omega)
    have r1 := Int.emod_lt_of_pos a0 (b := 1000) (by omega)
    have r2 := Int.emod_nonneg a1 (b := 1000) (by omega)
    have r3 := Int.emod_lt_of_pos a1 (b := 1000) (by omega)
    rw [Int.tmod_eq_emod_of_nonneg h0, Int.tmod_eq_emod_of_nonneg h1, w64 (x := a0 % 1000) (by omega) (by omega), w64 (x := a1 % 1000) (by omega) (by omega), w64 (by omega) (by omega)]
    exact loop l (1 + a0 % 1000) (a1 % 1000) (by omega) (by omega) (by omega) l.length 2001 0 0 0 (by omega) (by omega) (by omega) (by omega) (by omega) (by omega) (fun _ => rfl)

end BandBoundsNum
theorem BandBounds (a0 a1 : Int) (l : List Bool) (h0 : (Lit.int .u16 a0).wf = true) (h1 : (Lit.int .u16 a1).wf = true) : ∃ k, diapauselaw08_BandBounds.f k a0 a1 l = some true :=
  BandBoundsNum.BandBounds_num a0 a1 l (BandBoundsNum.bnd_u16 h0).1 (BandBoundsNum.bnd_u16 h1).1

end Go.Proofs.Ytcchnefndcnnnaa.Pure
