/- What the printed readings of mask.bit, With, Without, Has and Up compute, over plain numbers of 64 bits, bit by bit; no program in sight. -/
import Derived.Test.YtgkmipfcadiobaaDoorPopF
import Derived.Test.YtgkmipfcadiobaaDoorGMx2
set_option linter.unusedVariables false
namespace Go.Proofs.YtgkmipfcadiobaaDoor.Pl
open Go Go.RowKit
abbrev U64 : Nat := 18446744073709551616
theorem set_ext {x y : Nat} (hx : x < U64) (hy : y < U64) (h : ∀ i, i < 64 → x.testBit i = y.testBit i) : x = y := by
  apply Nat.eq_of_testBit_eq
  intro i
  by_cases hi : i < 64
  · exact h i hi
  · rw [Nat.testBit_lt_two_pow (Nat.lt_of_lt_of_le hx (show 2 ^ 64 ≤ 2 ^ i from Nat.pow_le_pow_right (by decide) (by omega))), Nat.testBit_lt_two_pow (Nat.lt_of_lt_of_le hy (show 2 ^ 64 ≤ 2 ^ i from Nat.pow_le_pow_right (by decide) (by omega)))]
/-- The set of one core; none, if there is no such core. -/
def bitN (c : Int) : Nat := if 0 ≤ c ∧ c < 64 then 2 ^ c.toNat else 0
theorem bitN_lt (c : Int) : bitN c < U64 := by
  unfold bitN
  split
  · show 2 ^ c.toNat < 2 ^ 64
    exact Nat.pow_lt_pow_right (by decide) (by omega)
  · decide
theorem bitN_test (c : Int) (i : Nat) (hi : i < 64) : (bitN c).testBit i = decide (c = i) := by
  unfold bitN
  split
  · rw [Nat.testBit_two_pow]
    apply decide_eq_decide.2
    omega
  · rw [Nat.zero_testBit]
    symm
    rw [decide_eq_false_iff_not]
    omega
theorem hasB_test (x : Nat) (c : Int) : hasB x c = decide (∃ i : Nat, i < 64 ∧ c = i ∧ x.testBit i = true) := by
  by_cases h : 0 ≤ c ∧ c < 64
  · obtain ⟨j, rfl⟩ := Int.eq_ofNat_of_zero_le h.1
    rw [hasB_nat x j (by omega)]
    cases hb : x.testBit j
    · symm; rw [decide_eq_false_iff_not]
      rintro ⟨i, _, h2, h3⟩
      obtain rfl : j = i := by omega
      rw [hb] at h3; cases h3
    · symm; rw [decide_eq_true_iff]
      exact ⟨j, by omega, rfl, hb⟩
  · rw [hasB_out x c (by omega)]
    symm; rw [decide_eq_false_iff_not]
    rintro ⟨i, h1, h2, h3⟩
    omega
/-- A set without another's cores. -/
def andN (x y : Nat) : Nat := x ^^^ (x &&& y)
theorem andN_test (x y i : Nat) : (andN x y).testBit i = (x.testBit i && !y.testBit i) := by
  unfold andN
  rw [Nat.testBit_xor, Nat.testBit_and]
  cases x.testBit i <;> cases y.testBit i <;> rfl
theorem andN_lt {x : Nat} (y : Nat) (hx : x < U64) : andN x y < U64 := Nat.xor_lt_two_pow (n := 64) hx (Nat.lt_of_le_of_lt Nat.and_le_left hx)
theorem or_lt {x y : Nat} (hx : x < U64) (hy : y < U64) : x ||| y < U64 := Nat.or_lt_two_pow (n := 64) hx hy
theorem and_lt {x : Nat} (y : Nat) (hx : x < U64) : x &&& y < U64 := Nat.lt_of_le_of_lt Nat.and_le_left hx
theorem bits_andNot_u64_nat (a b : Nat) (ha : a < U64) (hb : b < U64) : bits .andNot .u64 (a : Int) (b : Int) = ((andN a b : Nat) : Int) := by
  have h1 : (BitVec.ofInt 64 (a : Int)).toNat = a := by
    rw [BitVec.ofInt_natCast, BitVec.toNat_ofNat]; exact Nat.mod_eq_of_lt (by omega)
  have h2 : (BitVec.ofInt 64 (b : Int)).toNat = b := by
    rw [BitVec.ofInt_natCast, BitVec.toNat_ofNat]; exact Nat.mod_eq_of_lt (by omega)
  have e : (BitVec.ofInt 64 (a : Int) &&& ~~~ BitVec.ofInt 64 (b : Int)).toNat = andN a b := by
    have hn : (BitVec.ofInt 64 (a : Int) &&& ~~~ BitVec.ofInt 64 (b : Int)).toNat < U64 := BitVec.isLt _
    apply set_ext hn (andN_lt b ha)
    intro i hi
    rw [andN_test, BitVec.testBit_toNat, BitVec.getLsbD_and, BitVec.getLsbD_not, ← BitVec.testBit_toNat, ← BitVec.testBit_toNat, h1, h2]
    simp [hi]
  show IntKind.u64.wrap ((BitVec.ofInt 64 (a : Int) &&& ~~~ BitVec.ofInt 64 (b : Int)).toNat : Int) = _
  have hl := andN_lt b ha
  rw [e, IntKind.wrap_u64]
  omega
/-- The set of the first cores. -/
def upN (n : Int) : Nat := (max 0 (min n 64)).toNat
theorem upN_le (n : Int) : upN n ≤ 64 := by unfold upN; omega
def upS (n : Int) : Nat := 2 ^ upN n - 1
theorem upS_lt (n : Int) : upS n < U64 := by
  have := Nat.pow_le_pow_right (n := 2) (by decide) (upN_le n)
  have h0 := Nat.two_pow_pos (upN n)
  unfold upS U64
  omega
theorem upS_test (n : Int) (i : Nat) (hi : i < 64) : (upS n).testBit i = decide ((i : Int) < n) := by
  unfold upS
  rw [Nat.testBit_two_pow_sub_one]
  apply decide_eq_decide.2
  unfold upN
  omega
theorem up_div (m : Nat) (h : m ≤ 64) : 18446744073709551615 / 2 ^ (64 - m) = 2 ^ m - 1 := by
  have : ∀ m, m ≤ 64 → 18446744073709551615 / 2 ^ (64 - m) = 2 ^ m - 1 := by decide +kernel
  exact this m h
theorem cores_ext {x y : Nat} (h : ∀ i, i < 64 → x.testBit i = y.testBit i) : cores x = cores y := by
  unfold cores
  apply List.filter_congr
  intro i hi
  exact h i (List.mem_range.1 hi)
end Go.Proofs.YtgkmipfcadiobaaDoor.Pl
namespace Go.Proofs.YtgkmipfcadiobaaDoor.GM
open Go Go.RowKit Go.Proofs.YtgkmipfcadiobaaDoor Pl Go.Proofs.YtgkmipfcadiobaaDoorW.PrintWords Go.Proofs.YtgkmipfcadiobaaDoorW.PrintMore
theorem bit_f (c : Int) : mask_bit.f c = some ((bitN c : Nat) : Int) := by
  unfold mask_bit.f
  split
  · unfold bitN; rw [if_neg (by omega)]; rfl
  · split
    · unfold bitN; rw [if_neg (by omega)]; rfl
    · rw [if_pos (by omega)]
      unfold bitN; rw [if_pos (by omega)]
      congr 1
      unfold shl
      obtain ⟨j, rfl⟩ := Int.eq_ofNat_of_zero_le (show 0 ≤ c by omega)
      have hj : j < 64 := by omega
      rw [Int.toNat_natCast, Nat.min_eq_left (show j ≤ IntKind.u64.bits from Nat.le_of_lt hj), Int.one_mul]
      exact pow_u64 hj
theorem with_f (x : Nat) (hx : x < U64) (c : Int) : mask_Set_With.f (x : Int) c = some ((x ||| bitN c : Nat) : Int) := by
  unfold mask_Set_With.f
  rw [bit_f]
  show some _ = _
  rw [bits_or_u64_nat x (bitN c) hx (bitN_lt c)]
theorem without_f (x : Nat) (hx : x < U64) (c : Int) : mask_Set_Without.f (x : Int) c = some ((andN x (bitN c) : Nat) : Int) := by
  unfold mask_Set_Without.f
  rw [bit_f]
  show some _ = _
  rw [bits_andNot_u64_nat x (bitN c) hx (bitN_lt c)]
theorem has_f (x : Nat) (hx : x < U64) (c : Int) : mask_Set_Has.f (x : Int) c = some (hasB x c) := by
  unfold mask_Set_Has.f
  rw [bit_f]
  show some _ = _
  unfold bitN
  split
  · rename_i h
    obtain ⟨j, rfl⟩ := Int.eq_ofNat_of_zero_le h.1
    rw [Int.toNat_natCast, and_pow x j hx (by omega), hasB_nat x j (by omega)]
  · rw [hasB_out x c (by omega)]
    have := and_zero x hx
    congr 1
    show (bits .and .u64 (x : Int) 0 != 0) = false
    rw [this]; rfl
theorem mxn (n : Int) : mx 0 (mn n 64) = (upN n : Int) := by
  unfold mx mn upN
  split <;> split <;> omega
theorem up_f (n : Int) : mask_Up.f n = some ((upS n : Nat) : Int) := by
  unfold mask_Up.f
  rw [mxn]
  have h := upN_le n
  have e : ((64 : Int) - (upN n : Int)).toNat = 64 - upN n := by omega
  have h2 := up_div (upN n) h
  rw [e]
  congr 1
  unfold upS
  rw [← h2, Int.natCast_ediv, Int.natCast_pow]
  rfl
end Go.Proofs.YtgkmipfcadiobaaDoor.GM
