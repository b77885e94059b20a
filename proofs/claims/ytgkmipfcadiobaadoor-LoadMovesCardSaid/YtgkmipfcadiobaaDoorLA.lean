/- Plain facts on sets of cores: numbers of 64 bits; no conditions. mask.Set's iterator over its cores, and what a loop over it comes to; the table of package math/bits lies as its text lays it. A loop over mask.Set's iterator: what holds between two rounds is carried to its end; the table of package math/bits lies as its text lays it. The contracts of (mask.Set).All and (mask.Set).Nth: the cores of a set, rising; the table of package math/bits lies as its text lays it. The contract of (mask.Set).All in the shape of the printed ones; the table of package math/bits lies as the rows list it (Lt). -/
import Derived.Lib.TrailingZeros
import Derived.RangeFuncBox
import Derived.RangeFuncLeaves
import Derived.Shelf.Abstract
import Derived.WalkKit
import Derived.OwnWalkIn
import Derived.TacticsInMore
import Derived.LoopNIn
import Derived.LoopIn
import Derived.Maps.AppendAt
import Derived.Lib.Hide
import Derived.Shelf.Spec.TrailingZeros
import Derived.Test.YtgkmipfcadiobaaDoorProg
import Derived.Test.YtgkmipfcadiobaaDoorWWords
import Derived.Test.YtgkmipfcadiobaaDoorWLast
import Derived.Test.YtgkmipfcadiobaaDoorWMore
namespace Go.Proofs.YtgkmipfcadiobaaDoor.Pl
open Go
/-- The cores of a set, rising. -/
def cores (n : Nat) : List Nat := (List.range 64).filter (fun i => n.testBit i)
theorem cores_zero : cores 0 = [] := by decide
theorem mem_cores {n c : Nat} : c ∈ cores n ↔ c < 64 ∧ n.testBit c = true := by simp [cores]
theorem pop_form (t m : Nat) : (2 ^ t * (2 * m + 1)) &&& (2 ^ t * (2 * m + 1) - 1) = 2 ^ (t + 1) * m := by
  apply Nat.eq_of_testBit_eq
  intro i
  have hp : 0 < 2 ^ t := Nat.two_pow_pos t
  have e : 2 ^ t * (2 * m + 1) - 1 = 2 ^ (t + 1) * m + (2 ^ t - 1) := by
    rw [Nat.mul_add, Nat.pow_succ, Nat.mul_one, ← Nat.mul_assoc]
    omega
  rw [Nat.testBit_and, e, Nat.testBit_two_pow_mul, Nat.testBit_two_pow_mul]
  by_cases h : t + 1 ≤ i
  · obtain ⟨j, rfl⟩ : ∃ j, i = t + 1 + j := ⟨i - (t + 1), by omega⟩
    have h1 : (2 ^ (t + 1) * m + (2 ^ t - 1)).testBit (t + 1 + j) = m.testBit j := by
      rw [Nat.testBit_two_pow_mul_add m (by rw [Nat.pow_succ]; omega), if_neg (by omega)]
      congr 1; omega
    rw [h1]
    have h2 : (2 * m + 1).testBit (t + 1 + j - t) = m.testBit j := by
      rw [show t + 1 + j - t = j + 1 from by omega, Nat.testBit_succ, show (2 * m + 1) / 2 = m from by omega]
    rw [h2]
    simp only [ge_iff_le, show t ≤ t + 1 + j from by omega, show t + 1 ≤ t + 1 + j from by omega, decide_true, Bool.true_and, Bool.and_self]
    congr 1; omega
  · have hn : decide (t + 1 ≤ i) = false := by simp; omega
    simp only [ge_iff_le, hn, Bool.false_and]
    by_cases h2 : t ≤ i
    · have : i = t := by omega
      subst this
      rw [Nat.testBit_two_pow_mul_add m (by rw [Nat.pow_succ]; omega), if_pos (by omega)]
      simp
    · simp [h2]
theorem cores_form (t m : Nat) (ht : t < 64) : cores (2 ^ t * (2 * m + 1)) = t :: cores (2 ^ (t + 1) * m) := by
  have e : List.range 64 = List.range t ++ t :: (List.range (63 - t)).map (fun j => t + (j + 1)) := by
    have : 64 = t + ((63 - t) + 1) := by omega
    conv => lhs; rw [this, List.range_add, List.range_succ_eq_map]
    simp [List.map_map, Function.comp_def]
  unfold cores
  rw [e, List.filter_append, List.filter_append]
  have f1 : (List.range t).filter (fun i => (2 ^ t * (2 * m + 1)).testBit i) = [] := by
    rw [List.filter_eq_nil_iff]; intro a ha
    have := List.mem_range.1 ha
    rw [Nat.testBit_two_pow_mul]; simp; omega
  have f2 : (List.range t).filter (fun i => (2 ^ (t + 1) * m).testBit i) = [] := by
    rw [List.filter_eq_nil_iff]; intro a ha
    have := List.mem_range.1 ha
    rw [Nat.testBit_two_pow_mul]; simp; omega
  have g1 : (2 ^ t * (2 * m + 1)).testBit t = true := by rw [Nat.testBit_two_pow_mul]; simp
  have g2 : (2 ^ (t + 1) * m).testBit t = false := by rw [Nat.testBit_two_pow_mul]; simp; omega
  rw [f1, f2, List.nil_append, List.nil_append, List.filter_cons, List.filter_cons, if_pos g1, if_neg (by rw [g2]; decide)]
  congr 1
  apply List.filter_congr
  intro a ha
  obtain ⟨j, _, rfl⟩ := List.mem_map.1 ha
  rw [Nat.testBit_two_pow_mul, Nat.testBit_two_pow_mul]
  simp only [ge_iff_le, show t ≤ t + (j + 1) from by omega, show t + 1 ≤ t + (j + 1) from by omega, decide_true, Bool.true_and, show t + (j + 1) - t = j + 1 from by omega, show t + (j + 1) - (t + 1) = j from by omega, Nat.testBit_succ, show (2 * m + 1) / 2 = m from by omega]
/-- The least core is as many zeros as the number ends in; without it the others are left. -/
theorem cores_pop (x : Nat) (h0 : x ≠ 0) (h : x < 18446744073709551616) : cores x = Lib.ctz 64 x :: cores (x &&& (x - 1)) ∧ Lib.ctz 64 x < 64 := by
  obtain ⟨m, hm, hk⟩ := Lib.ctzFrom_spec 64 x (by omega) (by simpa using h)
  have e : Lib.ctz 64 x = Lib.ctzFrom 64 x := by unfold Lib.ctz; rw [if_neg h0]
  rw [e]
  refine ⟨?_, hk⟩
  generalize Lib.ctzFrom 64 x = t at *
  subst hm
  rw [pop_form, cores_form t m hk]
theorem cores_nil {x : Nat} (h : x < 18446744073709551616) (hn : cores x = []) : x = 0 := by
  apply Classical.byContradiction
  intro h0
  rw [(cores_pop x h0 h).1] at hn
  cases hn
theorem cores_length (n : Nat) : (cores n).length ≤ 64 := by
  have := List.length_filter_le (fun i => n.testBit i) (List.range 64)
  simpa [cores] using this
end Go.Proofs.YtgkmipfcadiobaaDoor.Pl
namespace Go.Proofs.YtgkmipfcadiobaaDoor
open Go.RowKit Go.Shelf Pl

attribute [local go_sem] Oper.semAt_some

theorem tz64_core (x k idx : Nat) (w : World) (hx0 : ((x : Int) == 0) = false)
    (key : IntKind.u64.wrap (bits BinOp.and IntKind.u64 (x : Int) (IntKind.u64.wrap (-(x : Int))) * 285870213051353865) / 288230376151711744 = (idx : Int))
    (hi : idx < 64) (hk : k < 64) (hcell : w.cell? ⟨0, idx, none⟩ = some (.int .u8 k)) :
    Calls Tryd.prog 76 #[.int .u64 x] w fun e w' => e = .returned (.int .i64 k) ∧ w' = w := by
  go_enter Tryd.func76, Tryd.ntmps76
  go_wp2_with (simp only [key])
  go_ret
  exact ⟨rfl, rfl⟩
theorem tz64 (x : Nat) (hx : x < 18446744073709551616) (hx0 : x ≠ 0) (w : World) (hT : TabAt 0 Lib.deBruijn64tab w) :
    Calls Tryd.prog 76 #[.int .u64 x] w fun e w' => e = .returned (.int .i64 (Lib.ctz 64 x)) ∧ w' = w := by
  obtain ⟨hlow, hk⟩ := Lib.lowest_bit 64 x hx0 hx
  obtain ⟨hi, htab⟩ := Lib.deBruijn64_at _ hk
  have hcell := hT _ hi
  rw [htab] at hcell
  exact tz64_core x _ _ w (by simp; omega) (tz64_key x _ hx hx0 hlow) hi hk hcell

/-- The set's box and its iterator's value. -/
theorem each_in (F : Fence) (n : Nat) (h : F.fn 61) (hro : F.round = none) (x : Int) (w : World) :
    CallsIn F n Tryd.prog 61 #[.int .u64 x] w fun e w' => e = .returned (.func (.func 75) #[] #[.pointer (some ⟨w.heap.size, 0, none⟩)]) ∧ w' = w.alloc (.cells #[.int .u64 x] 48) := by
  refine callsIn_of_wp Tryd.func61 rfl h ?_ hro
  simp only [Tryd.ntmps61, List.size_toArray, List.length_cons, List.length_nil, Nat.reduceAdd, Nat.reduceSub, Array.replicate_succ, Array.replicate_zero, List.push_toArray, List.append_toArray, List.nil_append, List.cons_append]
  gi_wp2
  go_ret
  exact ⟨rfl, rfl⟩

/-- How many cores are still to come, read off the box. -/
noncomputable def leftOf (B : Nat) (W : World) : Nat :=
  match W.cell? ⟨B, 0, none⟩ with
  | some (.int _ x) => (cores x.toNat).length
  | _ => 0
theorem leftOf_eq {B : Nat} {W : World} {x : Nat} (h : Boxed W B 48 (.int .u64 x)) : leftOf B W = (cores x).length := by
  unfold leftOf; rw [h.cell]; simp

theorem and_pred (x : Nat) (h0 : x ≠ 0) (hx : x < 18446744073709551616) : bits BinOp.and IntKind.u64 (x : Int) ((x : Int) - 1) = ((x &&& (x - 1) : Nat) : Int) := by
  have e1 : (x : Int) - 1 = ((x - 1 : Nat) : Int) := by omega
  rw [e1, bits_and_u64_nat x _ hx (by omega)]

set_option maxRecDepth 100000 in
set_option maxHeartbeats 1000000 in
/-- THE ITERATOR, FOR EVERY LOOP BODY THAT KEEPS ITS BOX: J holds between two rounds (the cores that have come), Jx where a round has said 'no more'. -/
theorem each1_in (n : Nat) (hn : 1 ≤ n) (l B : Nat) (x0 : Nat) (hx0 : x0 < 18446744073709551616) (J Jx : List Nat → World → Prop)
    (hS : ∀ pre W u v, Boxed W B 48 u → J pre W → J pre (W.setCell ⟨B, 0, none⟩ v)) (hT : ∀ pre W, J pre W → TabAt 0 Lib.deBruijn64tab W)
    (hY : ∀ pre c W, J pre W → pre ++ [c] <+: cores x0 → YieldAt Fence.wide (n - 1) Tryd.prog l #[.int .i64 (pre.length : Nat), .int .i64 (c : Nat)] W fun e W' =>
      (e = .returned (.bool true) ∧ J (pre ++ [c]) W' ∧ ∀ v, Boxed W B 48 v → Boxed W' B 48 v) ∨ (e = .returned (.bool false) ∧ Jx (pre ++ [c]) W'))
    (W : World) (hB : Boxed W B 48 (.int .u64 x0)) (h0 : J [] W) :
    CallsIn Fence.wide n Tryd.prog 75 #[.func (.yield l) #[] #[], .pointer (some ⟨B, 0, none⟩)] W fun e W' => (∃ v, e = .returned v) ∧
      (J (cores x0) W' ∨ (∃ pre, pre <+: cores x0 ∧ Jx pre W')) := by
  have f76 : Fence.wide.fn 76 := trivial
  refine callsIn_of_wp Tryd.func75 rfl trivial ?_ rfl
  simp only [Tryd.ntmps75, List.size_toArray, List.length_cons, List.length_nil, Nat.reduceAdd, Nat.reduceSub, Array.replicate_succ, Array.replicate_zero, List.push_toArray, List.append_toArray, List.nil_append, List.cons_append]
  gi_wp2
  gi_loopw [3] (fun k wr => ∃ (pre : List Nat) (x : Nat), x < 18446744073709551616 ∧ k = .int .i64 (pre.length : Nat) ∧ cores x0 = pre ++ cores x ∧ Boxed wr B 48 (.int .u64 x) ∧ J pre wr)
    (fun _ wr => leftOf B wr)
  case atStart =>
    exact ⟨[], x0, hx0, rfl, rfl, hB, h0⟩
  case round =>
    obtain ⟨pre, x, hx, rfl, hc, hb, hj⟩ := hrel
    have hcell := hb.cell
    have hfr := hb.frozen
    have hlen : pre.length ≤ 64 := by have := cores_length x0; rw [hc] at this; simp at this; omega
    by_cases hz : x = 0
    · subst hz
      have hc' : cores x0 = pre := by rw [hc, cores_zero, List.append_nil]
      clear hc
      gi_wp2
      go_end0
      exact ⟨⟨_, rfl⟩, .inl (hc' ▸ hj)⟩
    · have hpop := cores_pop x hz hx
      have ht := hT _ _ hj
      have hnz : ((x : Int) != 0) = true := by simp; omega
      have hpre : pre ++ [Lib.ctz 64 x] <+: cores x0 := ⟨cores (x &&& (x - 1)), by rw [hc, hpop.1]; simp⟩
      have HC := Lib.hid hc
      have HP := Lib.hid hpop
      clear hc hpop
      obtain ⟨fn, tmps, assign, body, hy, hR⟩ := hY pre (Lib.ctz 64 x) wr hj hpre
      clear hpre
      gi_wp2_with (gi_at_call 76; refine (callsIn_wide.2 (tz64 x hx hz _ ht)).mono ?_; rintro e w' ⟨rfl, rfl⟩)
      refine hR.mono ?_
      rintro e W3 (⟨rfl, hJ3, hk3⟩ | ⟨rfl, hJx3⟩)
      · have hb3 := hk3 _ hb
        have hcell3 := hb3.cell
        have hfr3 := hb3.frozen
        gi_wp2
        have hset := hb3.set (Value.int .u64 (bits BinOp.and IntKind.u64 (x : Int) ((x : Int) - 1)))
        have hJs := hS _ _ _ (Value.int .u64 (bits BinOp.and IntKind.u64 (x : Int) ((x : Int) - 1))) hb3 hJ3
        go_roundw
        case rel => exact ⟨pre ++ [Lib.ctz 64 x], x &&& (x - 1), Nat.lt_of_le_of_lt Nat.and_le_left hx, by simp, by rw [HC.out, HP.out.1]; simp, by have h := hset; rw [and_pred x hz hx] at h ⊢; exact h, hJs⟩
        case measure =>
          have h := hset
          rw [and_pred x hz hx] at h ⊢
          rw [leftOf_eq h, leftOf_eq hb, HP.out.1]
          simp
      · gi_wp2
        refine bodyPost_ret (results_none rfl _ _ _) rfl ?_
        exact ⟨⟨_, rfl⟩, .inr ⟨pre ++ [Lib.ctz 64 x], ⟨cores (x &&& (x - 1)), by rw [HC.out, HP.out.1]; simp⟩, hJx3⟩⟩
end Go.Proofs.YtgkmipfcadiobaaDoor
namespace Go.Proofs.YtgkmipfcadiobaaDoor
open Go.RowKit Go.Shelf Pl

/-- How a round's body may be left. -/
def ownPostE (B : Nat) (I : List Nat → World → Prop) (Ix : Code → List Nat → World → Prop) (xs : List Nat) (W : World) : Exit → Act → World → Prop
  | .normal, _, W' => KeepsOthers W W' ∧ (∀ v, Boxed W B 48 v → Boxed W' B 48 v) ∧ I xs W'
  | .ret, _, W' => KeepsOthers W W' ∧ Ix .ret xs W'
  | .exit id, _, W' => KeepsOthers W W' ∧ Ix (.exit id) xs W'
  | .goto t, _, W' => KeepsOthers W W' ∧ Ix (.goto t) xs W'
  | .panic _, _, _ => False
  | .outgrown, _, _ => False

theorem boxed_putObj {W : World} {B : Nat} {t : TypeId} {v : Value} {l : Nat} {o : Obj} (h : Boxed W B t v) (hne : B ≠ l) : Boxed (W.putObj l o) B t v := (World.putObj_heap_other hne).trans h

set_option maxHeartbeats 1000000 in
theorem range_each {n : Nat} {g : Operand} {ps : Array Tmp} {assign body : Code} {Q : Exit → Act → World → Prop} {a : Act} {w : World} (h1 : 2 ≤ n)
    {B x0 : Nat} (hx0 : x0 < 18446744073709551616) (hg : a.eval g = .func (.func 75) #[] #[.pointer (some ⟨B, 0, none⟩)]) (hps : ps.size = 2) (hB : Boxed w B 48 (.int .u64 x0))
    (I : List Nat → World → Prop) (Ix : Code → List Nat → World → Prop) (hI : OwnFrom w.heap.size I) (hIx : ∀ c, OwnFrom w.heap.size (Ix c))
    (hS : ∀ pre W u v, Boxed W B 48 u → I pre W → I pre (W.setCell ⟨B, 0, none⟩ v)) (hT : ∀ pre W, I pre W → TabAt 0 Lib.deBruijn64tab W) (h0 : I [] w) (a₁ : Nat → Nat → Act)
    (hassign : ∀ (l k c : Nat) (W : World) (K : Act → World → Prop), K (a₁ k c) W →
      assign.wpIn (Fence.wide.inRound l) (n - 1 - 1) Tryd.prog (Exit.then K (fun _ _ _ => False)) { tmps := (ps.zip #[.int .i64 (k : Nat), .int .i64 (c : Nat)]).foldl (fun t (p, v) => t.setIfInBounds p v) a.tmps, defers := [] } W)
    (hbody : ∀ (l : Nat) (pre : List Nat) (c : Nat) (W : World), I pre W → pre ++ [c] <+: cores x0 → body.wpIn (Fence.wide.inRound l) (n - 1 - 1) Tryd.prog (ownPostE B I Ix (pre ++ [c]) W) (a₁ pre.length c) W)
    (hdone : ∀ (D : Nat) (W : World), w.heap.size ≤ D → I (cores x0) W → W.heap[D]? = some (.deferred (some [])) → Q .normal { a with defers := { target := .collected D, args := #[] } :: a.defers } W)
    (hstop : ∀ (D : Nat) (c : Code) (pre : List Nat) (W : World), w.heap.size ≤ D → pre <+: cores x0 → Ix c pre W → W.heap[D]? = some (.deferred (some [])) → c.wpIn Fence.wide n Tryd.prog Q { a with defers := { target := .collected D, args := #[] } :: a.defers } W) :
    (Code.rangeFunc g ps assign body).wpIn Fence.wide n Tryd.prog Q a w := by
  have hBlt : B < w.heap.size := hB.lt
  refine wpIn_rangeFunc ?_
  intro fn hfn
  obtain ⟨rec, hrec⟩ : ∃ rec : LoopState → Option Code → Loop, rec = fun st pe => { state := st, pending := pe, fn, tmps := a.tmps, params := ps, assign, body, defers := w.heap.size } := ⟨_, rfl⟩
  obtain ⟨W1, hW1⟩ : ∃ W1, (w.alloc (.deferred (some []))).alloc (.loop (rec .ready none)) = W1 := ⟨_, rfl⟩
  have hL1 : W1.heap[w.heap.size + 1]? = some (.loop (rec .ready none)) := by
    rw [← hW1]; have := World.alloc_heap_new (w.alloc (.deferred (some []))) (.loop (rec .ready none)); rwa [World.size_alloc] at this
  have hK1 : W1.heap[w.heap.size]? = some (.deferred (some [])) := by
    rw [← hW1]; exact (Below.heap_alloc _ _ _ (by simp)).trans (World.alloc_heap_new w _)
  have hI1 : I [] W1 := by rw [← hW1]; exact hI.alloc _ (hI.alloc _ h0)
  have hB1 : Boxed W1 B 48 (.int .u64 x0) := by rw [← hW1]; exact (hB.alloc _).alloc _
  refine ⟨w.heap.size + 1, [{ target := .collected w.heap.size, args := #[] }], W1, { target := .fn (.func 75) #[.pointer (some ⟨B, 0, none⟩)], args := #[.func (.yield (w.heap.size + 1)) #[] #[]] }, W1, 75,
    #[.func (.yield (w.heap.size + 1)) #[] #[]] ++ #[.pointer (some ⟨B, 0, none⟩)], W1, ?_, ?_, ?_, ?_, fun _ => by omega, ?_⟩
  · rw [← hW1, hrec]; exact run_enterLoop_outer _ _ _ _ _
  · simp only [resolve, hg]
    simp [go_sem]
  · intro f' _; trivial
  · simp [invoke, go_sem]
  · refine (each1_in (n - 1) (by omega) (w.heap.size + 1) B x0 hx0
      (fun pre W => I pre W ∧ W.heap[w.heap.size + 1]? = some (.loop (rec .ready none)) ∧ W.heap[w.heap.size]? = some (.deferred (some [])))
      (fun pre W => ∃ c, Ix c pre W ∧ W.heap[w.heap.size + 1]? = some (.loop (rec .done (some c))) ∧ W.heap[w.heap.size]? = some (.deferred (some [])))
      (fun pre W u v hu hs => ⟨hS pre W u v hu hs.1, (Below.heap_setCell W _ v _ (by show w.heap.size + 1 ≠ B; omega)).trans hs.2.1, (Below.heap_setCell W _ v _ (by show w.heap.size ≠ B; omega)).trans hs.2.2⟩)
      (fun pre W hs => hT pre W hs.1) ?_ W1 hB1 ⟨hI1, hL1, hK1⟩).mono ?_
    · rintro pre c W ⟨hi, hl, hk⟩ hpre
      have hlt : w.heap.size + 1 < W.heap.size := (Array.getElem?_eq_some_iff.1 hl).1
      have hy := run_yield (P := Tryd.prog) (args := #[.int .i64 (pre.length : Nat), .int .i64 (c : Nat)]) hl (by rw [hrec]; exact hps.symm)
      rw [hrec] at hy
      refine ⟨fn, _, assign, body, hy, roundIn_of_wpIn hfn (hassign _ pre.length c W _ ⟨_, run_beginRound hl (by rw [hrec]), ?_⟩)⟩
      have hl2 : (W.putObj (w.heap.size + 1) (.loop { rec .ready none with state := .busy })).heap[w.heap.size + 1]? = some (.loop { rec .ready none with state := .busy }) := World.putObj_heap_same hlt
      have hk2 : (W.putObj (w.heap.size + 1) (.loop { rec .ready none with state := .busy })).heap[w.heap.size]? = some (.deferred (some [])) := (World.putObj_heap_other (by omega)).trans hk
      refine wpIn_mono (hbody _ pre c _ (hI.putObj _ hi (by omega) hl rfl) hpre) ?_
      have fin : ∀ (jump : Option Code) (W3 : World), KeepsOthers (W.putObj (w.heap.size + 1) (.loop { rec .ready none with state := .busy })) W3 →
          (Instr.endRound (w.heap.size + 1) jump).run Tryd.prog W3 = .ok (.bool jump.isNone) (W3.putObj (w.heap.size + 1) (.loop (rec (if jump.isNone then .ready else .done) jump))) ∧
          W3.heap[w.heap.size + 1]? = some (.loop { rec .ready none with state := .busy }) ∧
          (W3.putObj (w.heap.size + 1) (.loop (rec (if jump.isNone then .ready else .done) jump))).heap[w.heap.size + 1]? = some (.loop (rec (if jump.isNone then .ready else .done) jump)) ∧
          (W3.putObj (w.heap.size + 1) (.loop (rec (if jump.isNone then .ready else .done) jump))).heap[w.heap.size]? = some (.deferred (some [])) := fun jump W3 hk3 => by
        have hl3 := hk3.same _ _ hl2 rfl
        have := run_endRound (P := Tryd.prog) jump hl3
        rw [hrec] at this ⊢
        exact ⟨this, by rw [hrec] at hl3; exact hl3, World.putObj_heap_same (Array.getElem?_eq_some_iff.1 hl3).1, (World.putObj_heap_other (by omega)).trans (hk3.same _ _ hk2 rfl)⟩
      rintro e a3 W3 hp
      cases e with
      | normal =>
        obtain ⟨hk3, hkp3, hi3⟩ := hp
        obtain ⟨hr, hl3, hl4, hk4⟩ := fin none W3 hk3
        exact ⟨_, _, hr, .inl ⟨rfl, ⟨hI.putObj _ hi3 (by omega) hl3 rfl, hl4, hk4⟩, fun v hv => boxed_putObj (hkp3 v (boxed_putObj hv (by omega))) (by omega)⟩⟩
      | ret =>
        obtain ⟨hk3, hi3⟩ := hp
        obtain ⟨hr, hl3, hl4, hk4⟩ := fin (some .ret) W3 hk3
        exact ⟨_, _, hr, .inr ⟨rfl, .ret, (hIx _).putObj _ hi3 (by omega) hl3 rfl, hl4, hk4⟩⟩
      | exit id =>
        obtain ⟨hk3, hi3⟩ := hp
        obtain ⟨hr, hl3, hl4, hk4⟩ := fin (some (.exit id)) W3 hk3
        exact ⟨_, _, hr, .inr ⟨rfl, .exit id, (hIx _).putObj _ hi3 (by omega) hl3 rfl, hl4, hk4⟩⟩
      | goto t =>
        obtain ⟨hk3, hi3⟩ := hp
        obtain ⟨hr, hl3, hl4, hk4⟩ := fin (some (.goto t)) W3 hk3
        exact ⟨_, _, hr, .inr ⟨rfl, .goto t, (hIx _).putObj _ hi3 (by omega) hl3 rfl, hl4, hk4⟩⟩
      | panic ch => exact hp.elim
      | outgrown => exact hp.elim
    · rintro e W2 ⟨⟨v, rfl⟩, (⟨hi, hl, hk⟩ | ⟨pre, hSp, c, hi, hl, hk⟩)⟩
      · exact ⟨none, _, by have := run_endLoop (P := Tryd.prog) hl (by rw [hrec]; simp); rw [hrec] at this; exact this, hdone _ _ (Nat.le_refl _) (hI.putObj _ hi (by omega) hl rfl) ((World.putObj_heap_other (by omega)).trans hk)⟩
      · exact ⟨some c, _, by have := run_endLoop (P := Tryd.prog) hl (by rw [hrec]; simp); rw [hrec] at this; exact this, hstop _ c pre _ (Nat.le_refl _) hSp ((hIx c).putObj _ hi (by omega) hl rfl) ((World.putObj_heap_other (by omega)).trans hk)⟩
end Go.Proofs.YtgkmipfcadiobaaDoor
namespace Go.Proofs.YtgkmipfcadiobaaDoor
open Go.RowKit Go.Shelf Pl
attribute [local go_sem] Oper.semAt_some

theorem infoInt : (Tryd.prog.info? 3).map (fun i => (i.zero, i.size, i.bytes)) = some (some (.int .i64 0), 1, 8) := by kernel_rfl
def ints (l : List Nat) : List Value := l.map fun c => .int .i64 (c : Nat)
theorem ints_length (l : List Nat) : (ints l).length = l.length := by simp [ints]
theorem ints_snoc (l : List Nat) (c : Nat) : ints (l ++ [c]) = ints l ++ [.int .i64 (c : Nat)] := by simp [ints]
theorem tabAt_below {w W : World} {g : Nat} {tab : List Nat} (hg : g < w.heap.size) (h : TabAt g tab w) (hb : Below w.heap.size w W) : TabAt g tab W := fun j hj => (hb.cell (p := ⟨g, j, none⟩) hg).trans (h j hj)
theorem tabAt_lt {w : World} {g : Nat} (h : TabAt g Lib.deBruijn64tab w) : g < w.heap.size := World.block_lt_of_cell? w ⟨g, 0, none⟩ (h 0 (by decide))

/-- A row that one owns is not another variable's box. -/
theorem row_set {W : World} {B t e base size k : Nat} {u v r : Value} {xs : List Value} (hb : Boxed W B t u) (hte : t ≠ e) (h : W.ownsRow base e size r k xs) : (W.setCell ⟨B, 0, none⟩ v).ownsRow base e size r k xs :=
  h.kept (grownBy_setCell' W B v) (.inr (hb.not_row hte h).symm)
theorem box_set {W : World} {B C t u : Nat} {a b v : Value} (_hb : Boxed W B t a) (hne : C ≠ B) (h : Boxed W C u b) : Boxed (W.setCell ⟨B, 0, none⟩ v) C u b :=
  h.kept (grownBy_setCell' W B v) (fun e => hne (Option.some.inj e))

set_option maxRecDepth 100000 in
set_option maxHeartbeats 2000000 in
theorem all_in (n : Nat) (hn : 3 ≤ n) (x : Nat) (hx : x < 18446744073709551616) (w : World) (hT : TabAt 0 Lib.deBruijn64tab w) :
    CallsIn Fence.wide n Tryd.prog 48 #[.int .u64 x] w fun e W' => ∃ v, e = .returned v ∧ W'.ownsRow w.heap.size 3 1 v (cores x).length (ints (cores x)) ∧ Below w.heap.size w W' := by
  have h1 : 1 ≤ n := by omega
  have hg := tabAt_lt hT
  obtain ⟨i0, hi, hz0, hz1, hz2⟩ := info_parts infoInt
  have f61 : Fence.wide.fn 61 := trivial
  refine callsIn_of_wp_marks Tryd.func48 rfl trivial ?_ rfl
  simp only [Tryd.ntmps48, List.size_toArray, List.length_cons, List.length_nil, Nat.reduceAdd, Nat.reduceSub, Array.replicate_succ, Array.replicate_zero, List.push_toArray, List.append_toArray, List.nil_append, List.cons_append]
  gi_wp2_with (gi_at_call 61; refine (each_in Fence.wide (n - 1) trivial rfl _ _).mono ?_; rintro e w' ⟨rfl, rfl⟩)
  have bO := Boxed.new w 24 (.slice none 0 0)
  have bN := Boxed.new (w.alloc (.cells #[.slice none 0 0] 24)) 48 (.int .u64 x)
  rw [World.size_alloc] at bN
  have hB0 : Below w.heap.size w ((w.alloc (.cells #[.slice none 0 0] 24)).alloc (.cells #[.int .u64 x] 48)) := ((Below.refl _ w).alloc (Nat.le_refl _) _).alloc (by simp) _
  refine range_each (by omega) (B := w.heap.size + 1) hx rfl rfl bN
    (fun pre W => (∃ v, Boxed W w.heap.size 24 v ∧ W.ownsRow w.heap.size 3 1 v pre.length (ints pre) ∧ True) ∧ Below w.heap.size w W)
    (fun _ _ _ => False)
    (OwnFrom.and (Own.from (holdsRow_own w.heap.size w.heap.size 24 3 1 (fun pre => pre.length) (fun pre => ints pre) (fun _ _ => True)) _) (ownFrom_below (Nat.le_refl _) (by simp; omega)))
    (fun _ _ _ _ _ hs _ _ => hs)
    ?stab (fun pre W h => tabAt_below hg hT h.2)
    ⟨⟨_, bO.alloc _, World.ownsRow_nil _ _ _ _, trivial⟩, hB0⟩
    (fun k c => { tmps := #[.int .u64 x, undef, .slice none 0 0, .pointer (some ⟨w.heap.size, 0, none⟩), undef, .int .i64 c, .int .u64 x, .func (.func 75) #[] #[.pointer (some ⟨w.heap.size + 1, 0, none⟩)], .int .i64 k, .int .i64 c, undef, undef, undef, undef, undef], defers := [] }) ?assign ?body ?done ?stop
  case stab =>
    rintro pre W u v hu ⟨⟨r, hr, hrow, hp⟩, hb⟩
    exact ⟨⟨r, box_set hu (by omega) hr, row_set hu (by decide) hrow, hp⟩, hb.setCell (p := ⟨w.heap.size + 1, 0, none⟩) (by simp) _⟩
  case assign =>
    intro l k c W K hK
    gi_wp2
    exact hK
  case body =>
    rintro l pre c W ⟨⟨v, hv, hrow, _⟩, hB⟩ hpre
    have hc := hv.cell
    have hpl : pre.length ≤ 63 := by have h1 := hpre.length_le; have h2 := cores_length x; simp at h1; omega
    clear hpre
    have hbx : ∀ (u : Value), Boxed W (w.heap.size + 1) 48 u → some (w.heap.size + 1) ≠ v.ownBlock := fun u hu => hu.not_row (by decide) hrow
    gi_wp2_with (gi_at_builtin; refine wpListIn_append_own _ rfl _ _ 24 rfl w.heap.size 3 i0 (.int .i64 0) 1 8 Tryd.underlying24 hi hz0 hz1 hz2 rfl (by decide) _ _ _ rfl (hrow.alloc _) ⟨W.heap.size, 0, none⟩ 1 1 [.int .i64 c] rfl rfl (cell_one_new _ _ _) (by simp [Value.oneCell']) (by unfold maxLen; omega) (by omega) (by have := hB.size; simp; omega) ?_; intro v' w1 hown' hgrow _; obtain ⟨g', cap', rfl⟩ := ownsRow_succ hown'; obtain ⟨hv1, hv2, hr2, hk2, hb2⟩ := hv.appended (by decide) hrow hB.size (Nat.le_refl _) hown' hgrow; have hc1 := hv1.cell; have hf1 := hv1.frozen)
    exact ⟨hk2, fun u hu => box_set hv1 (by omega) ((hu.alloc _).kept hgrow (hbx u hu)), ⟨_, hv2, by rw [ints_snoc]; simpa using hr2, trivial⟩, hB.trans hb2⟩
  case done =>
    rintro D W hD ⟨⟨v, hv, hrow, _⟩, hB⟩ hK
    have hc := hv.cell
    gi_wp2
    refine ⟨by simp, .inl ⟨_, _, rfl, run_takeDeferred hK, ?_⟩⟩
    exact ⟨_, results_tmp rfl _ _ _, v, rfl, ownsRow_putObj hrow _ hK rfl, hB.trans (belowK_b (w := w) (Nat.le_refl _) W D _ _ (by simp at hD; omega) hK rfl rfl)⟩
  case stop =>
    rintro D c pre W _ _ h _
    exact h.elim
end Go.Proofs.YtgkmipfcadiobaaDoor
set_option linter.unusedVariables false
namespace Go.Proofs.YtgkmipfcadiobaaDoor
open Go.RowKit Go.Shelf Pl
/-- What the rows of package load list: the table of package math/bits. -/
structure Lt (w : World) : Prop where
  tab : TabAt 0 Lib.deBruijn64tab w
theorem Lt.below {w W : World} (h : Lt w) (hb : Below w.heap.size w W) : Lt W := ⟨tabAt_below (tabAt_lt h.tab) h.tab hb⟩
end Go.Proofs.YtgkmipfcadiobaaDoor
namespace Go.Proofs.YtgkmipfcadiobaaDoor.GivenT
open Go.RowKit Go.Proofs.YtgkmipfcadiobaaDoorW.PrintWords Go.Proofs.YtgkmipfcadiobaaDoorW.PrintLast Go.Proofs.YtgkmipfcadiobaaDoorW.PrintMore
open Go.Proofs.YtgkmipfcadiobaaDoor Pl
def mask_Set_All.f (a0 : Int) : Option (List Int) := if 0 ≤ a0 ∧ a0 < 18446744073709551616 then some ((cores a0.toNat).map fun c : Nat => (c : Int)) else none
theorem mask_Set_All.calls (a0 : Int) (r : List Int) (w : World) (hT : Lt w) (h : mask_Set_All.f a0 = some r) :
    Calls Tryd.prog 48 #[.int .u64 a0] w fun e w' => ∃ v0_ : Value, e = .returned (v0_) ∧ Kd.R (Kd.int .i64) 3 w' w.heap.size (fun _ => True) v0_ r ∧ Below w.heap.size w w' := by
  unfold mask_Set_All.f at h
  split at h
  · rename_i hb
    obtain rfl := Option.some.inj h
    obtain ⟨x, rfl⟩ := Int.eq_ofNat_of_zero_le hb.1
    have hx : x < 18446744073709551616 := by omega
    refine (callsIn_wide.1 (all_in 3 (by omega) x hx w hT.tab)).mono fun e w' ⟨v, he, ho, hbl⟩ => ⟨v, he, Kd.R_of_own ?_ ?_, hbl⟩
    · have e1 : encs (Value.int .i64) ((cores (x : Int).toNat).map fun c : Nat => (c : Int)) = ints (cores x) := by simp [encs, ints]
      rw [e1]; simpa using ho
    · intro _ _; trivial
  · cases h
end Go.Proofs.YtgkmipfcadiobaaDoor.GivenT
