/- The count of a number's bits: math/bits.OnesCount64, as the printed reading has it, over plain numbers; no conditions but the width. -/
import Derived.Test.YtgkmipfcadiobaaDoorPlain
import Derived.RowKit
import Derived.Laws.BitsLemmas
import Derived.Laws.Bits64b
set_option linter.unusedVariables false
namespace Go.Proofs.YtgkmipfcadiobaaDoor.Pl
open Go Go.RowKit

theorem and_split (h a M m : Nat) (ha : a < 256) (hm : m < 256) : (a + 256 * h) &&& (m + 256 * M) = (a &&& m) + 256 * (h &&& M) := by
  have e1 := Nat.and_div_two_pow (a := a + 256 * h) (b := m + 256 * M) (n := 8)
  have e2 := Nat.and_mod_two_pow (a := a + 256 * h) (b := m + 256 * M) (n := 8)
  simp only [Nat.reducePow, show (a + 256 * h) / 256 = h by omega, show (m + 256 * M) / 256 = M by omega, show (a + 256 * h) % 256 = a by omega, show (m + 256 * M) % 256 = m by omega] at e1 e2
  have := Nat.div_add_mod ((a + 256 * h) &&& (m + 256 * M)) 256
  rw [e1, e2] at this
  omega
def by8 (b0 b1 b2 b3 b4 b5 b6 b7 : Nat) : Nat := b0 + 256 * (b1 + 256 * (b2 + 256 * (b3 + 256 * (b4 + 256 * (b5 + 256 * (b6 + 256 * b7))))))
theorem and8 (m b0 b1 b2 b3 b4 b5 b6 b7 : Nat) (hm : m < 256) (h0 : b0 < 256) (h1 : b1 < 256) (h2 : b2 < 256) (h3 : b3 < 256) (h4 : b4 < 256) (h5 : b5 < 256) (h6 : b6 < 256) (h7 : b7 < 256) :
    by8 b0 b1 b2 b3 b4 b5 b6 b7 &&& by8 m m m m m m m m = by8 (b0 &&& m) (b1 &&& m) (b2 &&& m) (b3 &&& m) (b4 &&& m) (b5 &&& m) (b6 &&& m) (b7 &&& m) := by
  unfold by8
  rw [and_split _ _ _ _ h0 hm, and_split _ _ _ _ h1 hm, and_split _ _ _ _ h2 hm, and_split _ _ _ _ h3 hm, and_split _ _ _ _ h4 hm, and_split _ _ _ _ h5 hm, and_split _ _ _ _ h6 hm]
def p1 (b : Nat) : Nat := ((b / 2) &&& 85) + (b &&& 85)
def p2 (b : Nat) : Nat := ((b / 4) &&& 51) + (b &&& 51)
def p3 (b : Nat) : Nat := (b + b / 16) % 16
def cnt (n x : Nat) : Nat := ((List.range n).filter fun i => x.testBit i).length
set_option maxRecDepth 100000 in
theorem byte_p : ∀ b < 256, p1 b < 256 ∧ (p2 (p1 b) ≤ 68 ∧ p2 (p1 b) % 16 ≤ 4) ∧ p3 (p2 (p1 b)) = cnt 8 b ∧ cnt 8 b ≤ 8 := by decide +kernel
set_option maxRecDepth 100000 in
theorem byte_s1 : ∀ b < 256, ∀ e < 2, (b / 2 + 128 * e) &&& 85 = (b / 2) &&& 85 := by decide +kernel
set_option maxRecDepth 100000 in
theorem byte_s2 : ∀ b < 256, ∀ e < 4, (b / 4 + 64 * e) &&& 51 = (b / 4) &&& 51 := by decide +kernel
theorem cnt_step (n x : Nat) : cnt (8 + n) x = cnt 8 (x % 256) + cnt n (x / 256) := by
  unfold cnt
  rw [List.range_add, List.filter_append, List.length_append, List.filter_map, List.length_map]
  congr 2
  · apply List.filter_congr
    intro i hi
    have := List.mem_range.1 hi
    rw [show (256 : Nat) = 2 ^ 8 from rfl, Nat.testBit_mod_two_pow]
    simp [this]
  · apply List.filter_congr
    intro i hi
    rw [show (256 : Nat) = 2 ^ 8 from rfl, Nat.testBit_div_two_pow]
    simp [Nat.add_comm]
theorem cores_cnt (x : Nat) : (cores x).length = cnt 64 x := rfl
theorem byte_split (x : Nat) (hx : x < 18446744073709551616) : ∃ b0 b1 b2 b3 b4 b5 b6 b7 : Nat, (b0 < 256 ∧ b1 < 256 ∧ b2 < 256 ∧ b3 < 256 ∧ b4 < 256 ∧ b5 < 256 ∧ b6 < 256 ∧ b7 < 256) ∧ x = by8 b0 b1 b2 b3 b4 b5 b6 b7 ∧ cnt 64 x = cnt 8 b0 + cnt 8 b1 + cnt 8 b2 + cnt 8 b3 + cnt 8 b4 + cnt 8 b5 + cnt 8 b6 + cnt 8 b7 := by
  refine ⟨x % 256, x / 256 % 256, x / 256 / 256 % 256, x / 256 / 256 / 256 % 256, x / 256 / 256 / 256 / 256 % 256, x / 256 / 256 / 256 / 256 / 256 % 256, x / 256 / 256 / 256 / 256 / 256 / 256 % 256, x / 256 / 256 / 256 / 256 / 256 / 256 / 256 % 256, by omega, ?_, ?_⟩
  · unfold by8; omega
  · rw [show (64 : Nat) = 8 + (8 + (8 + (8 + (8 + (8 + (8 + (8 + 0))))))) from rfl]
    simp only [cnt_step]
    have : ∀ y, cnt 0 y = 0 := fun y => rfl
    rw [this]
    omega
theorem wrap_nat (n : Nat) (h : n < 18446744073709551616) : IntKind.u64.wrap (n : Int) = (n : Int) := by rw [IntKind.wrap_u64]; omega

theorem st1 (x z : Nat) (h1 : x < 18446744073709551616) (d m : Nat) (D M : Int) (hD : D = (d : Int)) (hM : M = (m : Int)) (hm : m < 18446744073709551616) (hz : z = ((x / d) &&& m) + (x &&& m)) (hz2 : z < 18446744073709551616) :
    IntKind.u64.wrap (Go.bits .and .u64 ((x : Int) / D) M + Go.bits .and .u64 (x : Int) M) = (z : Int) := by
  have : x / d ≤ x := Nat.div_le_self _ _
  rw [hD, hM, ← Int.natCast_ediv, bits_and_u64_nat (x / d) m (by omega) hm, bits_and_u64_nat x m h1 hm, ← Int.natCast_add, ← hz, wrap_nat z hz2]
theorem st2 (x : Nat) (d : Nat) (D : Int) (hD : D = (d : Int)) (h : x / d + x < 18446744073709551616) : IntKind.u64.wrap ((x : Int) / D + (x : Int)) = ((x / d + x : Nat) : Int) := by
  rw [hD, ← Int.natCast_ediv, ← Int.natCast_add, wrap_nat _ h]
theorem st3 (x : Nat) (d : Nat) (D : Int) (hD : D = (d : Int)) (h : x + x / d < 18446744073709551616) : IntKind.u64.wrap ((x : Int) + (x : Int) / D) = ((x + x / d : Nat) : Int) := by
  rw [hD, ← Int.natCast_ediv, ← Int.natCast_add, wrap_nat _ h]
theorem st4 (x m : Nat) (M : Int) (hM : M = (m : Int)) (h : x < 18446744073709551616) (hm : m < 18446744073709551616) : Go.bits .and .u64 (x : Int) M = ((x &&& m : Nat) : Int) := by rw [hM]; exact bits_and_u64_nat x m h hm

set_option maxHeartbeats 8000000 in
theorem pop_stages (x : Nat) (hx : x < 18446744073709551616) : ∃ y z v t u : Nat, y < 18446744073709551616 ∧ z < 18446744073709551616 ∧ v < 18446744073709551616 ∧ t < 18446744073709551616 ∧ u < 18446744073709551616 ∧
    y = ((x / 2) &&& 6148914691236517205) + (x &&& 6148914691236517205) ∧
    z = ((y / 4) &&& 3689348814741910323) + (y &&& 3689348814741910323) ∧
    z / 16 + z < 18446744073709551616 ∧ v = (z / 16 + z) &&& 1085102592571150095 ∧
    t = v + v / 256 ∧ u = t + t / 65536 ∧ u + u / 4294967296 < 9223372036854775808 ∧ (u + u / 4294967296) % 128 = (cores x).length := by
  obtain ⟨b0, b1, b2, b3, b4, b5, b6, b7, ⟨h0, h1, h2, h3, h4, h5, h6, h7⟩, hb, hc⟩ := byte_split x hx
  have q0 := byte_p b0 h0; have q1 := byte_p b1 h1; have q2 := byte_p b2 h2; have q3 := byte_p b3 h3
  have q4 := byte_p b4 h4; have q5 := byte_p b5 h5; have q6 := byte_p b6 h6; have q7 := byte_p b7 h7
  have s1 : ((x / 2) &&& 6148914691236517205) + (x &&& 6148914691236517205) = by8 (p1 b0) (p1 b1) (p1 b2) (p1 b3) (p1 b4) (p1 b5) (p1 b6) (p1 b7) := by
    have e1 : x / 2 = by8 (b0 / 2 + 128 * (b1 % 2)) (b1 / 2 + 128 * (b2 % 2)) (b2 / 2 + 128 * (b3 % 2)) (b3 / 2 + 128 * (b4 % 2)) (b4 / 2 + 128 * (b5 % 2)) (b5 / 2 + 128 * (b6 % 2)) (b6 / 2 + 128 * (b7 % 2)) (b7 / 2 + 128 * 0) := by rw [hb]; unfold by8; omega
    rw [e1, show (6148914691236517205 : Nat) = by8 85 85 85 85 85 85 85 85 from rfl, and8 85 _ _ _ _ _ _ _ _ (by omega) (by omega) (by omega) (by omega) (by omega) (by omega) (by omega) (by omega) (by omega), hb, and8 85 _ _ _ _ _ _ _ _ (by omega) h0 h1 h2 h3 h4 h5 h6 h7]
    rw [byte_s1 b0 h0 _ (by omega), byte_s1 b1 h1 _ (by omega), byte_s1 b2 h2 _ (by omega), byte_s1 b3 h3 _ (by omega), byte_s1 b4 h4 _ (by omega), byte_s1 b5 h5 _ (by omega), byte_s1 b6 h6 _ (by omega), byte_s1 b7 h7 _ (by omega)]
    unfold by8 p1
    omega
  generalize hy : ((x / 2) &&& 6148914691236517205) + (x &&& 6148914691236517205) = y at s1
  generalize p1 b0 = c0 at *; generalize p1 b1 = c1 at *; generalize p1 b2 = c2 at *; generalize p1 b3 = c3 at *
  generalize p1 b4 = c4 at *; generalize p1 b5 = c5 at *; generalize p1 b6 = c6 at *; generalize p1 b7 = c7 at *
  have s2 : ((y / 4) &&& 3689348814741910323) + (y &&& 3689348814741910323) = by8 (p2 c0) (p2 c1) (p2 c2) (p2 c3) (p2 c4) (p2 c5) (p2 c6) (p2 c7) := by
    have e1 : y / 4 = by8 (c0 / 4 + 64 * (c1 % 4)) (c1 / 4 + 64 * (c2 % 4)) (c2 / 4 + 64 * (c3 % 4)) (c3 / 4 + 64 * (c4 % 4)) (c4 / 4 + 64 * (c5 % 4)) (c5 / 4 + 64 * (c6 % 4)) (c6 / 4 + 64 * (c7 % 4)) (c7 / 4 + 64 * 0) := by rw [s1]; unfold by8; omega
    rw [e1, show (3689348814741910323 : Nat) = by8 51 51 51 51 51 51 51 51 from rfl, and8 51 _ _ _ _ _ _ _ _ (by omega) (by omega) (by omega) (by omega) (by omega) (by omega) (by omega) (by omega) (by omega), s1, and8 51 _ _ _ _ _ _ _ _ (by omega) q0.1 q1.1 q2.1 q3.1 q4.1 q5.1 q6.1 q7.1]
    rw [byte_s2 c0 q0.1 _ (by omega), byte_s2 c1 q1.1 _ (by omega), byte_s2 c2 q2.1 _ (by omega), byte_s2 c3 q3.1 _ (by omega), byte_s2 c4 q4.1 _ (by omega), byte_s2 c5 q5.1 _ (by omega), byte_s2 c6 q6.1 _ (by omega), byte_s2 c7 q7.1 _ (by omega)]
    unfold by8 p2
    omega
  generalize hz : ((y / 4) &&& 3689348814741910323) + (y &&& 3689348814741910323) = z at s2
  have ylt : y < 18446744073709551616 := by rw [s1]; unfold by8; omega
  generalize p2 c0 = d0 at *; generalize p2 c1 = d1 at *; generalize p2 c2 = d2 at *; generalize p2 c3 = d3 at *
  generalize p2 c4 = d4 at *; generalize p2 c5 = d5 at *; generalize p2 c6 = d6 at *; generalize p2 c7 = d7 at *
  have zlt : z < 18446744073709551616 := by rw [s2]; unfold by8; omega
  have s3 : z / 16 + z = by8 (d0 + d0 / 16 + 16 * (d1 % 16)) (d1 + d1 / 16 + 16 * (d2 % 16)) (d2 + d2 / 16 + 16 * (d3 % 16)) (d3 + d3 / 16 + 16 * (d4 % 16)) (d4 + d4 / 16 + 16 * (d5 % 16)) (d5 + d5 / 16 + 16 * (d6 % 16)) (d6 + d6 / 16 + 16 * (d7 % 16)) (d7 + d7 / 16) := by rw [s2]; unfold by8; omega
  have m15 : ∀ n : Nat, n &&& 15 = n % 16 := fun n => Nat.and_two_pow_sub_one_eq_mod n 4
  have s4 : (z / 16 + z) &&& 1085102592571150095 = by8 (p3 d0) (p3 d1) (p3 d2) (p3 d3) (p3 d4) (p3 d5) (p3 d6) (p3 d7) := by
    rw [s3, show (1085102592571150095 : Nat) = by8 15 15 15 15 15 15 15 15 from rfl, and8 15 _ _ _ _ _ _ _ _ (by omega) (by omega) (by omega) (by omega) (by omega) (by omega) (by omega) (by omega) (by omega)]
    simp only [m15]
    unfold p3
    congr 1 <;> omega
  have s3lt : z / 16 + z < 18446744073709551616 := by rw [s3]; unfold by8; omega
  rw [q0.2.2.1, q1.2.2.1, q2.2.2.1, q3.2.2.1, q4.2.2.1, q5.2.2.1, q6.2.2.1, q7.2.2.1] at s4
  generalize hv : (z / 16 + z) &&& 1085102592571150095 = v at s4
  have r0 := q0.2.2.2; have r1 := q1.2.2.2; have r2 := q2.2.2.2; have r3 := q3.2.2.2
  have r4 := q4.2.2.2; have r5 := q5.2.2.2; have r6 := q6.2.2.2; have r7 := q7.2.2.2
  rw [cores_cnt, hc]
  clear q0 q1 q2 q3 q4 q5 q6 q7 hc hb
  generalize cnt 8 b0 = a0 at *; generalize cnt 8 b1 = a1 at *; generalize cnt 8 b2 = a2 at *; generalize cnt 8 b3 = a3 at *
  generalize cnt 8 b4 = a4 at *; generalize cnt 8 b5 = a5 at *; generalize cnt 8 b6 = a6 at *; generalize cnt 8 b7 = a7 at *
  have t1 : v + v / 256 = by8 (a0 + a1) (a1 + a2) (a2 + a3) (a3 + a4) (a4 + a5) (a5 + a6) (a6 + a7) a7 := by rw [s4]; unfold by8; omega
  have t2 : (v + v / 256) + (v + v / 256) / 65536 = by8 (a0 + a1 + (a2 + a3)) (a1 + a2 + (a3 + a4)) (a2 + a3 + (a4 + a5)) (a3 + a4 + (a5 + a6)) (a4 + a5 + (a6 + a7)) (a5 + a6 + a7) (a6 + a7) a7 := by rw [t1]; unfold by8; omega
  generalize hu1 : (v + v / 256) + (v + v / 256) / 65536 = u at t2
  have t3 : u + u / 4294967296 = by8 (a0 + a1 + (a2 + a3) + (a4 + a5 + (a6 + a7))) (a1 + a2 + (a3 + a4) + (a5 + a6 + a7)) (a2 + a3 + (a4 + a5) + (a6 + a7)) (a3 + a4 + (a5 + a6) + a7) (a4 + a5 + (a6 + a7)) (a5 + a6 + a7) (a6 + a7) a7 := by clear hu1 t1 s4 hv s3lt s3 zlt ylt s2 s1; rw [t2]; unfold by8; omega
  refine ⟨y, z, v, v + v / 256, u, ylt, zlt, ?_, ?_, ?_, rfl, hz.symm, s3lt, hv.symm, rfl, hu1.symm, ?_, ?_⟩
  · rw [s4]; unfold by8; omega
  · rw [t1]; unfold by8; omega
  · rw [t2]; unfold by8; omega
  · rw [t3]; unfold by8; omega
  · rw [t3]; unfold by8; clear t3 t2 t1 hu1 s4 hv s3lt s3 zlt ylt s2 s1; omega
end Go.Proofs.YtgkmipfcadiobaaDoor.Pl
