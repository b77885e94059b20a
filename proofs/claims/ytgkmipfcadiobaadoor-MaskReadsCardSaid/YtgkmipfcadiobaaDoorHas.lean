/- The contracts of mask.bit, (mask.Set).Has and mask.run, over plain sets; no conditions on the world. -/
import Derived.Test.YtgkmipfcadiobaaDoorNth
namespace Go.Proofs.YtgkmipfcadiobaaDoor
open Go.RowKit Go.Shelf Pl

theorem ret_int {k : IntKind} {a b : Int} (h : a = b) : Ending.returned (.int k a) = .returned (.int k b) := by rw [h]
theorem ret_bool {a b : Bool} (h : a = b) : Ending.returned (.bool a) = .returned (.bool b) := by rw [h]
theorem pow_u64 {c : Nat} (h : c < 64) : IntKind.u64.wrap ((2 : Int) ^ c) = ((2 ^ c : Nat) : Int) := by
  have h1 : 2 ^ c < 2 ^ 64 := Nat.pow_lt_pow_right (by decide) h
  have e : (2 : Int) ^ c = ((2 ^ c : Nat) : Int) := by simp
  rw [IntKind.wrap_u64, e]
  clear e
  generalize 2 ^ c = p at h1 ⊢
  omega
theorem bit_in (c : Nat) (h1 : c < 64) (w : World) : Calls Tryd.prog 66 #[.int .i64 (c : Nat)] w fun e w' => e = .returned (.int .u64 ((2 ^ c : Nat) : Int)) ∧ w = w' := by
  have g1 : decide ((c : Int) < 0) = false := by simp
  have g2 : decide ((c : Int) ≥ 64) = false := by simp; omega
  go_enter Tryd.func66, Tryd.ntmps66
  go_wp2
  go_ret
  exact ⟨ret_int (pow_u64 h1), rfl⟩
theorem bit_out (c : Int) (h1 : c < 0 ∨ 64 ≤ c) (w : World) : Calls Tryd.prog 66 #[.int .i64 c] w fun e w' => e = .returned (.int .u64 0) ∧ w = w' := by
  rcases h1 with h1 | h1
  · go_enter Tryd.func66, Tryd.ntmps66
    go_wp2
    go_ret
    exact ⟨rfl, rfl⟩
  · have g1 : decide (c < 0) = false := by simp; omega
    go_enter Tryd.func66, Tryd.ntmps66
    go_wp2
    go_ret
    exact ⟨rfl, rfl⟩

/-- Is a number a core of a set? -/
def hasB (x : Nat) (c : Int) : Bool := decide (0 ≤ c ∧ c < 64) && x.testBit c.toNat
theorem hasB_nat (x c : Nat) (h : c < 64) : hasB x (c : Nat) = x.testBit c := by
  unfold hasB
  have : decide (0 ≤ (c : Int) ∧ (c : Int) < 64) = true := by simp; omega
  rw [this]; simp
theorem hasB_out (x : Nat) (c : Int) (h : c < 0 ∨ 64 ≤ c) : hasB x c = false := by
  unfold hasB
  have : decide (0 ≤ c ∧ c < 64) = false := by simp; omega
  rw [this]; rfl
theorem and_two (x c : Nat) : x &&& 2 ^ c = if x.testBit c = true then 2 ^ c else 0 := by
  apply Nat.eq_of_testBit_eq
  intro i
  rw [Nat.testBit_and, Nat.testBit_two_pow]
  by_cases hi : c = i
  · subst hi
    cases h : x.testBit c <;> simp
  · cases h : x.testBit c <;> simp [hi]
theorem and_pow (x c : Nat) (hx : x < 18446744073709551616) (h : c < 64) : (bits BinOp.and IntKind.u64 (x : Int) ((2 ^ c : Nat) : Int) != 0) = x.testBit c := by
  have h1 : 2 ^ c < 2 ^ 64 := Nat.pow_lt_pow_right (by decide) h
  rw [bits_and_u64_nat x _ hx (by omega), and_two]
  have := Nat.two_pow_pos c
  cases x.testBit c
  · simp
  · simp only [if_true]; rw [bne_iff_ne]; omega
theorem and_zero (x : Nat) (hx : x < 18446744073709551616) : bits BinOp.and IntKind.u64 (x : Int) 0 = 0 := by
  have := bits_and_u64_nat x 0 hx (by omega)
  simpa using this

theorem has_calls (x : Nat) (hx : x < 18446744073709551616) (c : Int) (w : World) : Calls Tryd.prog 39 #[.int .u64 (x : Nat), .int .i64 c] w fun e w' => e = .returned (.bool (hasB x c)) ∧ w = w' := by
  by_cases h : 0 ≤ c ∧ c < 64
  · obtain ⟨j, rfl⟩ := Int.eq_ofNat_of_zero_le h.1
    have hj : j < 64 := by omega
    clear h
    have E := Lib.hid (and_pow x j hx hj)
    have B := Lib.hid (hasB_nat x j hj)
    go_enter Tryd.func39, Tryd.ntmps39
    go_wp2_with (go_at_call 66; refine (bit_in j hj _).mono ?_; rintro e w' ⟨rfl, rfl⟩)
    go_ret
    exact ⟨ret_bool (by rw [B.out]; exact E.out), rfl⟩
  · have h' : c < 0 ∨ 64 ≤ c := by omega
    clear h
    have E := Lib.hid (and_zero x hx)
    have B := Lib.hid (hasB_out x c h')
    go_enter Tryd.func39, Tryd.ntmps39
    go_wp2_with (go_at_call 66; refine (bit_out c h' _).mono ?_; rintro e w' ⟨rfl, rfl⟩)
    go_ret
    exact ⟨ret_bool (by rw [B.out, E.out]; rfl), rfl⟩

/-- How many cores from one on follow one another (a set has 64 at most). -/
def runF (x : Nat) : Nat → Nat → Nat
  | 0, _ => 0
  | f + 1, c => if hasB x (c : Nat) = true then runF x f (c + 1) + 1 else 0
def runLen (x c : Nat) : Nat := runF x 64 c
theorem runF_all (x : Nat) : ∀ (f c j : Nat), j < runF x f c → hasB x ((c + j : Nat)) = true
  | 0, _, j, h => by simp [runF] at h
  | f + 1, c, j, h => by
    unfold runF at h
    by_cases hb : hasB x (c : Nat) = true
    · rw [if_pos hb] at h
      cases j with
      | zero => exact hb
      | succ j => have := runF_all x f (c + 1) j (by omega); rwa [show c + 1 + j = c + (j + 1) from by omega] at this
    · rw [if_neg hb] at h; omega
theorem runF_end (x : Nat) : ∀ (f c : Nat), 64 ≤ c + f → hasB x ((c + runF x f c : Nat)) = false
  | 0, c, h => hasB_out x _ (by right; unfold runF; omega)
  | f + 1, c, h => by
    unfold runF
    by_cases hb : hasB x (c : Nat) = true
    · rw [if_pos hb]
      have := runF_end x f (c + 1) (by omega)
      rwa [show c + (runF x f (c + 1) + 1) = c + 1 + runF x f (c + 1) from by omega]
    · rw [if_neg hb]; simpa using hb
theorem runF_le (x : Nat) : ∀ (f c : Nat), runF x f c ≤ f
  | 0, c => Nat.le_refl _
  | f + 1, c => by
    unfold runF
    split
    · have := runF_le x f (c + 1); omega
    · omega

set_option maxHeartbeats 1000000 in
theorem run_calls (x : Nat) (hx : x < 18446744073709551616) (c : Nat) (hc : c < 64) (w : World) :
    Calls Tryd.prog 63 #[.int .i64 (c : Nat), .func (.func 39) #[.int .u64 (x : Nat)] #[]] w fun e w' => e = .returned (.int .i64 (runLen x c : Nat)) ∧ w = w' := by
  have hle := runF_le x 64 c
  have hall := Lib.hid (runF_all x 64 c)
  have hend := Lib.hid (runF_end x 64 c (by omega))
  unfold runLen
  generalize runF x 64 c = r at *
  go_enter Tryd.func63, Tryd.ntmps63
  go_wp2
  go_loop [5] (fun t => ∃ k : Nat, k ≤ r ∧ t = .int .i64 (k : Nat)) (fun t => r - (intOf t).toNat)
  case atStart => exact ⟨0, by omega, rfl⟩
  case round =>
    obtain ⟨k, hk, rfl⟩ := hrel
    by_cases hlt : k < r
    · have hB : hasB x ((c : Int) + (k : Int)) = true := by have := hall.out k hlt; rwa [Int.natCast_add] at this
      go_wp2_with (go_at_call 39; refine (has_calls x hx _ _).mono ?_; rintro e w' ⟨rfl, rfl⟩)
      go_round
      case rel => exact ⟨k + 1, by omega, by go_num⟩
      case measure => simp [intOf]; omega
    · have hB : hasB x ((c : Int) + (k : Int)) = false := by have := hend.out; rw [Int.natCast_add] at this; rw [show k = r from by omega]; exact this
      go_wp2_with (go_at_call 39; refine (has_calls x hx _ _).mono ?_; rintro e w' ⟨rfl, rfl⟩)
      go_ret
      exact ⟨ret_int (by omega), rfl⟩
end Go.Proofs.YtgkmipfcadiobaaDoor
