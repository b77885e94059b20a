/- mask.Set's iterator over its cores, and what a loop over it comes to; the table of package math/bits lies as its text lays it. -/
import Derived.RangeFuncBox
import Derived.RangeFuncLeaves
import Derived.Shelf.Abstract
import Derived.WalkKit
import Derived.OwnWalkIn
import Derived.TacticsInMore
import Derived.LoopNIn
import Derived.LoopIn
import Derived.Maps.AppendAt
import Derived.Lib.Hide
import Derived.Shelf.Spec.TrailingZeros
import Derived.Test.YtgkmipfcadiobaaDoorProg
import Derived.Test.YtgkmipfcadiobaaDoorPlain
namespace Go.Proofs.YtgkmipfcadiobaaDoor
open Go.RowKit Go.Shelf Pl

attribute [local go_sem] Oper.semAt_some

theorem tz64_core (x k idx : Nat) (w : World) (hx0 : ((x : Int) == 0) = false)
    (key : IntKind.u64.wrap (bits BinOp.and IntKind.u64 (x : Int) (IntKind.u64.wrap (-(x : Int))) * 285870213051353865) / 288230376151711744 = (idx : Int))
    (hi : idx < 64) (hk : k < 64) (hcell : w.cell? ⟨0, idx, none⟩ = some (.int .u8 k)) :
    Calls Tryd.prog 76 #[.int .u64 x] w fun e w' => e = .returned (.int .i64 k) ∧ w' = w := by
  go_enter Tryd.func76, Tryd.ntmps76
  go_wp2_with (simp only [key])
  go_ret
  exact ⟨rfl, rfl⟩
theorem tz64 (x : Nat) (hx : x < 18446744073709551616) (hx0 : x ≠ 0) (w : World) (hT : TabAt 0 Lib.deBruijn64tab w) :
    Calls Tryd.prog 76 #[.int .u64 x] w fun e w' => e = .returned (.int .i64 (Lib.ctz 64 x)) ∧ w' = w := by
  obtain ⟨hlow, hk⟩ := Lib.lowest_bit 64 x hx0 hx
  obtain ⟨hi, htab⟩ := Lib.deBruijn64_at _ hk
  have hcell := hT _ hi
  rw [htab] at hcell
  exact tz64_core x _ _ w (by simp; omega) (tz64_key x _ hx hx0 hlow) hi hk hcell

/-- The set's box and its iterator's value. -/
theorem each_in (F : Fence) (n : Nat) (h : F.fn 61) (hro : F.round = none) (x : Int) (w : World) :
    CallsIn F n Tryd.prog 61 #[.int .u64 x] w fun e w' => e = .returned (.func (.func 75) #[] #[.pointer (some ⟨w.heap.size, 0, none⟩)]) ∧ w' = w.alloc (.cells #[.int .u64 x] 48) := by
  refine callsIn_of_wp Tryd.func61 rfl h ?_ hro
  simp only [Tryd.ntmps61, List.size_toArray, List.length_cons, List.length_nil, Nat.reduceAdd, Nat.reduceSub, Array.replicate_succ, Array.replicate_zero, List.push_toArray, List.append_toArray, List.nil_append, List.cons_append]
  gi_wp2
  go_ret
  exact ⟨rfl, rfl⟩

/-- How many cores are still to come, read off the box. -/
noncomputable def leftOf (B : Nat) (W : World) : Nat :=
  match W.cell? ⟨B, 0, none⟩ with
  | some (.int _ x) => (cores x.toNat).length
  | _ => 0
theorem leftOf_eq {B : Nat} {W : World} {x : Nat} (h : Boxed W B 48 (.int .u64 x)) : leftOf B W = (cores x).length := by
  unfold leftOf; rw [h.cell]; simp

theorem and_pred (x : Nat) (h0 : x ≠ 0) (hx : x < 18446744073709551616) : bits BinOp.and IntKind.u64 (x : Int) ((x : Int) - 1) = ((x &&& (x - 1) : Nat) : Int) := by
  have e1 : (x : Int) - 1 = ((x - 1 : Nat) : Int) := by omega
  rw [e1, bits_and_u64_nat x _ hx (by omega)]

set_option maxRecDepth 100000 in
set_option maxHeartbeats 1000000 in
/-- THE ITERATOR, FOR EVERY LOOP BODY THAT KEEPS ITS BOX: J holds between two rounds (the cores that have come), Jx where a round has said 'no more'. -/
theorem each1_in (n : Nat) (hn : 1 ≤ n) (l B : Nat) (x0 : Nat) (hx0 : x0 < 18446744073709551616) (J Jx : List Nat → World → Prop)
    (hS : ∀ pre W u v, Boxed W B 48 u → J pre W → J pre (W.setCell ⟨B, 0, none⟩ v)) (hT : ∀ pre W, J pre W → TabAt 0 Lib.deBruijn64tab W)
    (hY : ∀ pre c W, J pre W → pre ++ [c] <+: cores x0 → YieldAt Fence.wide (n - 1) Tryd.prog l #[.int .i64 (pre.length : Nat), .int .i64 (c : Nat)] W fun e W' =>
      (e = .returned (.bool true) ∧ J (pre ++ [c]) W' ∧ ∀ v, Boxed W B 48 v → Boxed W' B 48 v) ∨ (e = .returned (.bool false) ∧ Jx (pre ++ [c]) W'))
    (W : World) (hB : Boxed W B 48 (.int .u64 x0)) (h0 : J [] W) :
    CallsIn Fence.wide n Tryd.prog 75 #[.func (.yield l) #[] #[], .pointer (some ⟨B, 0, none⟩)] W fun e W' => (∃ v, e = .returned v) ∧
      (J (cores x0) W' ∨ (∃ pre, pre <+: cores x0 ∧ Jx pre W')) := by
  have f76 : Fence.wide.fn 76 := trivial
  refine callsIn_of_wp Tryd.func75 rfl trivial ?_ rfl
  simp only [Tryd.ntmps75, List.size_toArray, List.length_cons, List.length_nil, Nat.reduceAdd, Nat.reduceSub, Array.replicate_succ, Array.replicate_zero, List.push_toArray, List.append_toArray, List.nil_append, List.cons_append]
  gi_wp2
  gi_loopw [3] (fun k wr => ∃ (pre : List Nat) (x : Nat), x < 18446744073709551616 ∧ k = .int .i64 (pre.length : Nat) ∧ cores x0 = pre ++ cores x ∧ Boxed wr B 48 (.int .u64 x) ∧ J pre wr)
    (fun _ wr => leftOf B wr)
  case atStart =>
    exact ⟨[], x0, hx0, rfl, rfl, hB, h0⟩
  case round =>
    obtain ⟨pre, x, hx, rfl, hc, hb, hj⟩ := hrel
    have hcell := hb.cell
    have hfr := hb.frozen
    have hlen : pre.length ≤ 64 := by have := cores_length x0; rw [hc] at this; simp at this; omega
    by_cases hz : x = 0
    · subst hz
      have hc' : cores x0 = pre := by rw [hc, cores_zero, List.append_nil]
      clear hc
      gi_wp2
      go_end0
      exact ⟨⟨_, rfl⟩, .inl (hc' ▸ hj)⟩
    · have hpop := cores_pop x hz hx
      have ht := hT _ _ hj
      have hnz : ((x : Int) != 0) = true := by simp; omega
      have hpre : pre ++ [Lib.ctz 64 x] <+: cores x0 := ⟨cores (x &&& (x - 1)), by rw [hc, hpop.1]; simp⟩
      have HC := Lib.hid hc
      have HP := Lib.hid hpop
      clear hc hpop
      obtain ⟨fn, tmps, assign, body, hy, hR⟩ := hY pre (Lib.ctz 64 x) wr hj hpre
      clear hpre
      gi_wp2_with (gi_at_call 76; refine (callsIn_wide.2 (tz64 x hx hz _ ht)).mono ?_; rintro e w' ⟨rfl, rfl⟩)
      refine hR.mono ?_
      rintro e W3 (⟨rfl, hJ3, hk3⟩ | ⟨rfl, hJx3⟩)
      · have hb3 := hk3 _ hb
        have hcell3 := hb3.cell
        have hfr3 := hb3.frozen
        gi_wp2
        have hset := hb3.set (Value.int .u64 (bits BinOp.and IntKind.u64 (x : Int) ((x : Int) - 1)))
        have hJs := hS _ _ _ (Value.int .u64 (bits BinOp.and IntKind.u64 (x : Int) ((x : Int) - 1))) hb3 hJ3
        go_roundw
        case rel => exact ⟨pre ++ [Lib.ctz 64 x], x &&& (x - 1), Nat.lt_of_le_of_lt Nat.and_le_left hx, by simp, by rw [HC.out, HP.out.1]; simp, by have h := hset; rw [and_pred x hz hx] at h ⊢; exact h, hJs⟩
        case measure =>
          have h := hset
          rw [and_pred x hz hx] at h ⊢
          rw [leftOf_eq h, leftOf_eq hb, HP.out.1]
          simp
      · gi_wp2
        refine bodyPost_ret (results_none rfl _ _ _) rfl ?_
        exact ⟨⟨_, rfl⟩, .inr ⟨pre ++ [Lib.ctz 64 x], ⟨cores (x &&& (x - 1)), by rw [HC.out, HP.out.1]; simp⟩, hJx3⟩⟩
end Go.Proofs.YtgkmipfcadiobaaDoor
