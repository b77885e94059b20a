/- Plain facts on sets of cores: numbers of 64 bits; no conditions. -/
import Derived.Lib.TrailingZeros
namespace Go.Proofs.YtgkmipfcadiobaaDoor.Pl
open Go
/-- The cores of a set, rising. -/
def cores (n : Nat) : List Nat := (List.range 64).filter (fun i => n.testBit i)
theorem cores_zero : cores 0 = [] := by decide
theorem mem_cores {n c : Nat} : c ∈ cores n ↔ c < 64 ∧ n.testBit c = true := by simp [cores]
theorem pop_form (t m : Nat) : (2 ^ t * (2 * m + 1)) &&& (2 ^ t * (2 * m + 1) - 1) = 2 ^ (t + 1) * m := by
  apply Nat.eq_of_testBit_eq
  intro i
  have hp : 0 < 2 ^ t := Nat.two_pow_pos t
  have e : 2 ^ t * (2 * m + 1) - 1 = 2 ^ (t + 1) * m + (2 ^ t - 1) := by
    rw [Nat.mul_add, Nat.pow_succ, Nat.mul_one, ← Nat.mul_assoc]
    omega
  rw [Nat.testBit_and, e, Nat.testBit_two_pow_mul, Nat.testBit_two_pow_mul]
  by_cases h : t + 1 ≤ i
  · obtain ⟨j, rfl⟩ : ∃ j, i = t + 1 + j := ⟨i - (t + 1), by omega⟩
    have h1 : (2 ^ (t + 1) * m + (2 ^ t - 1)).testBit (t + 1 + j) = m.testBit j := by
      rw [Nat.testBit_two_pow_mul_add m (by rw [Nat.pow_succ]; omega), if_neg (by omega)]
      congr 1; omega
    rw [h1]
    have h2 : (2 * m + 1).testBit (t + 1 + j - t) = m.testBit j := by
      rw [show t + 1 + j - t = j + 1 from by omega, Nat.testBit_succ, show (2 * m + 1) / 2 = m from by omega]
    rw [h2]
    simp only [ge_iff_le, show t ≤ t + 1 + j from by omega, show t + 1 ≤ t + 1 + j from by omega, decide_true, Bool.true_and, Bool.and_self]
    congr 1; omega
  · have hn : decide (t + 1 ≤ i) = false := by simp; omega
    simp only [ge_iff_le, hn, Bool.false_and]
    by_cases h2 : t ≤ i
    · have : i = t := by omega
      subst this
      rw [Nat.testBit_two_pow_mul_add m (by rw [Nat.pow_succ]; omega), if_pos (by omega)]
      simp
    · simp [h2]
theorem cores_form (t m : Nat) (ht : t < 64) : cores (2 ^ t * (2 * m + 1)) = t :: cores (2 ^ (t + 1) * m) := by
  have e : List.range 64 = List.range t ++ t :: (List.range (63 - t)).map (fun j => t + (j + 1)) := by
    have : 64 = t + ((63 - t) + 1) := by omega
    conv => lhs; rw [this, List.range_add, List.range_succ_eq_map]
    simp [List.map_map, Function.comp_def]
  unfold cores
  rw [e, List.filter_append, List.filter_append]
  have f1 : (List.range t).filter (fun i => (2 ^ t * (2 * m + 1)).testBit i) = [] := by
    rw [List.filter_eq_nil_iff]; intro a ha
    have := List.mem_range.1 ha
    rw [Nat.testBit_two_pow_mul]; simp; omega
  have f2 : (List.range t).filter (fun i => (2 ^ (t + 1) * m).testBit i) = [] := by
    rw [List.filter_eq_nil_iff]; intro a ha
    have := List.mem_range.1 ha
    rw [Nat.testBit_two_pow_mul]; simp; omega
  have g1 : (2 ^ t * (2 * m + 1)).testBit t = true := by rw [Nat.testBit_two_pow_mul]; simp
  have g2 : (2 ^ (t + 1) * m).testBit t = false := by rw [Nat.testBit_two_pow_mul]; simp; omega
  rw [f1, f2, List.nil_append, List.nil_append, List.filter_cons, List.filter_cons, if_pos g1, if_neg (by rw [g2]; decide)]
  congr 1
  apply List.filter_congr
  intro a ha
  obtain ⟨j, _, rfl⟩ := List.mem_map.1 ha
  rw [Nat.testBit_two_pow_mul, Nat.testBit_two_pow_mul]
  simp only [ge_iff_le, show t ≤ t + (j + 1) from by omega, show t + 1 ≤ t + (j + 1) from by omega, decide_true, Bool.true_and, show t + (j + 1) - t = j + 1 from by omega, show t + (j + 1) - (t + 1) = j from by omega, Nat.testBit_succ, show (2 * m + 1) / 2 = m from by omega]
/-- The least core is as many zeros as the number ends in; without it the others are left. -/
theorem cores_pop (x : Nat) (h0 : x ≠ 0) (h : x < 18446744073709551616) : cores x = Lib.ctz 64 x :: cores (x &&& (x - 1)) ∧ Lib.ctz 64 x < 64 := by
  obtain ⟨m, hm, hk⟩ := Lib.ctzFrom_spec 64 x (by omega) (by simpa using h)
  have e : Lib.ctz 64 x = Lib.ctzFrom 64 x := by unfold Lib.ctz; rw [if_neg h0]
  rw [e]
  refine ⟨?_, hk⟩
  generalize Lib.ctzFrom 64 x = t at *
  subst hm
  rw [pop_form, cores_form t m hk]
theorem cores_nil {x : Nat} (h : x < 18446744073709551616) (hn : cores x = []) : x = 0 := by
  apply Classical.byContradiction
  intro h0
  rw [(cores_pop x h0 h).1] at hn
  cases hn
theorem cores_length (n : Nat) : (cores n).length ≤ 64 := by
  have := List.length_filter_le (fun i => n.testBit i) (List.range 64)
  simpa [cores] using this
end Go.Proofs.YtgkmipfcadiobaaDoor.Pl
