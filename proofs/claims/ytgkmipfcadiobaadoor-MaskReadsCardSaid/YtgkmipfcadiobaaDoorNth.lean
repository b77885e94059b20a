/- The contract of (mask.Set).Nth: the core with a number among a set's, rising, or -1; the table of package math/bits lies as its text lays it. -/
import Derived.Test.YtgkmipfcadiobaaDoorAllN
namespace Go.Proofs.YtgkmipfcadiobaaDoor
open Go.RowKit Go.Shelf Pl
attribute [local go_sem] Oper.semAt_some

theorem boxed_row {W W' : World} {row : Option Nat} {b : Nat} {t : TypeId} {v : Value} (h : Boxed W b t v) (hg : W.grownBy W' row) (hr : ∀ r, row = some r → ∃ o : Obj, W.heap[r]? = some o ∧ o.isCells = false) : Boxed W' b t v :=
  h.kept hg (fun e => by obtain ⟨o, ho, hc⟩ := hr b e.symm; rw [show W.heap[b]? = _ from h] at ho; cases ho; cases hc)
theorem boxed_put {W : World} {b D : Nat} {t : TypeId} {v : Value} {o o' : Obj} (h : Boxed W b t v) (hD : W.heap[D]? = some o) (hc : o.isCells = false) : Boxed (W.putObj D o') b t v :=
  boxed_row h (grownBy_putObj' W D o') (fun r e => by cases e; exact ⟨o, hD, hc⟩)

/-- The core with a number, from 0 on; -1, if there is none. -/
def nthOf (x : Nat) (k : Int) : Int := if 0 ≤ k ∧ k < (cores x).length then ((cores x).getD k.toNat 0 : Nat) else -1

set_option maxRecDepth 100000 in
set_option maxHeartbeats 2000000 in
theorem nth_in (n : Nat) (hn : 3 ≤ n) (x : Nat) (hx : x < 18446744073709551616) (k : Int) (w : World) (hT : TabAt 0 Lib.deBruijn64tab w) :
    CallsIn Fence.wide n Tryd.prog 44 #[.int .u64 x, .int .i64 k] w fun e W' => e = .returned (.int .i64 (nthOf x k)) ∧ Below w.heap.size w W' := by
  have hg := tabAt_lt hT
  have f61 : Fence.wide.fn 61 := trivial
  have hn1 : 1 ≤ n := by omega
  refine callsIn_of_wp_marks Tryd.func44 rfl trivial ?_ rfl
  simp only [Tryd.ntmps44, List.size_toArray, List.length_cons, List.length_nil, Nat.reduceAdd, Nat.reduceSub, Array.replicate_succ, Array.replicate_zero, List.push_toArray, List.append_toArray, List.nil_append, List.cons_append]
  gi_wp2_with (gi_at_call 61; refine (each_in Fence.wide (n - 1) trivial rfl _ _).mono ?_; rintro e w' ⟨rfl, rfl⟩)
  have b0 := Boxed.new w 3 (.int .i64 k)
  have b1 := Boxed.new (w.alloc (.cells #[.int .i64 k] 3)) 3 (.int .i64 0)
  have bN := Boxed.new ((w.alloc (.cells #[.int .i64 k] 3)).alloc (.cells #[.int .i64 0] 3)) 48 (.int .u64 x)
  simp only [World.size_alloc] at b1 bN
  have hB00 : Below w.heap.size w ((w.alloc (.cells #[.int .i64 k] 3)).alloc (.cells #[.int .i64 0] 3)) := ((Below.refl _ w).alloc (Nat.le_refl _) _).alloc (by simp) _
  have hB0 : Below w.heap.size w (((w.alloc (.cells #[.int .i64 k] 3)).alloc (.cells #[.int .i64 0] 3)).alloc (.cells #[.int .u64 x] 48)) := hB00.alloc (by simp; omega) _
  refine range_each (n := n) (by omega) (B := w.heap.size + 1 + 1) hx rfl rfl bN
    (fun pre W => (¬ (0 ≤ k ∧ k < (pre.length : Int))) ∧ Boxed W w.heap.size 3 (.int .i64 k) ∧ Boxed W (w.heap.size + 1) 3 (.int .i64 0) ∧ Below w.heap.size w W)
    (fun c pre W => c = .ret ∧ ∃ (p : List Nat) (y : Nat), pre = p ++ [y] ∧ (p.length : Int) = k ∧ Boxed W (w.heap.size + 1) 3 (.int .i64 (y : Nat)) ∧ Below w.heap.size w W)
    (fun s A B row hs hg hr => ⟨hs.1, boxed_row hs.2.1 hg (fun r e => (hr r e).2), boxed_row hs.2.2.1 hg (fun r e => (hr r e).2), ownFrom_below (β := Unit) (Nat.le_refl _) (by simp; omega) () A B row hs.2.2.2 hg hr⟩)
    (fun c s A B row hs hg hr => by
      obtain ⟨h1, p, y, h2, h3, h4, h5⟩ := hs
      exact ⟨h1, p, y, h2, h3, boxed_row h4 hg (fun r e => (hr r e).2), ownFrom_below (β := Unit) (Nat.le_refl _) (by simp; omega) () A B row h5 hg hr⟩)
    ?stab (fun pre W h => tabAt_below hg hT h.2.2.2)
    ⟨by simp, (b0.alloc _).alloc _, b1.alloc _, hB0⟩
    (fun j c => { tmps := #[.int .u64 x, .int .i64 k, undef, .pointer (some ⟨w.heap.size, 0, none⟩), .pointer (some ⟨w.heap.size + 1, 0, none⟩), .int .i64 j, .int .i64 c, .int .u64 x, .func (.func 75) #[] #[.pointer (some ⟨w.heap.size + 1 + 1, 0, none⟩)], .int .i64 j, .int .i64 c, undef, undef, undef, undef], defers := [] }) ?assign ?body ?done ?stop
  case stab =>
    rintro pre W u v hu ⟨h1, h2, h3, hb⟩
    exact ⟨h1, box_set hu (by omega) h2, box_set hu (by omega) h3, hb.setCell (p := ⟨w.heap.size + 1 + 1, 0, none⟩) (by simp; omega) _⟩
  case assign =>
    intro l j c W K hK
    gi_wp2
    exact hK
  case body =>
    rintro l pre c W ⟨hne, h0, h1, hB⟩ hpre
    clear hpre
    have hc0 := h0.cell
    have hc1 := h1.cell
    have hf1 := h1.frozen
    have HNE := Lib.hid hne
    clear hne
    by_cases hk : (pre.length : Int) = k
    · have hk1 : ((pre.length : Int) == k) = true := by simpa using hk
      have HK := Lib.hid hk
      clear hk
      gi_wp2
      exact ⟨KeepsOthers.setCell _ _ _, rfl, pre, c, rfl, HK.out, h1.set _, hB.setCell (p := ⟨w.heap.size + 1, 0, none⟩) (by simp) _⟩
    · have hk1 : ((pre.length : Int) == k) = false := by simpa using hk
      have HK := Lib.hid hk
      clear hk
      gi_wp2
      exact ⟨KeepsOthers.refl _, fun _ h => h, by have := HNE.out; have := HK.out; simp; omega, h0, h1, hB⟩
  case done =>
    rintro D W hD ⟨hne, h0, h1, hB⟩ hK
    have hc1 := h1.cell
    have hf1 := h1.frozen
    have hK' := (KeepsOthers.setCell W ⟨w.heap.size + 1, 0, none⟩ (.int .i64 (-1))).same D _ hK rfl
    have HNE := Lib.hid hne
    clear hne
    gi_wp2
    refine ⟨by simp, .inl ⟨_, _, rfl, run_takeDeferred hK', ?_⟩⟩
    have hc5 := (boxed_put (o' := .deferred none) (h1.set (.int .i64 (-1))) hK' rfl).cell
    refine ⟨.int .i64 (-1), ?_, ?_⟩
    · simp [results, Tryd.f44, go_sem, hc5]
    · refine ⟨by unfold nthOf; rw [if_neg HNE.out], ?_⟩
      exact (hB.setCell (p := ⟨w.heap.size + 1, 0, none⟩) (by simp) _).trans (belowK_b (w := w) (Nat.le_refl _) _ D _ _ (by simp at hD; omega) hK' rfl rfl)
  case stop =>
    rintro D c pre W hD hpre ⟨rfl, p, y, rfl, hk, h1, hB⟩ hK
    have HP := Lib.hid hpre
    have HK := Lib.hid hk
    clear hpre hk
    gi_wp2
    refine ⟨by simp, .inl ⟨_, _, rfl, run_takeDeferred hK, ?_⟩⟩
    have hc5 := (boxed_put (o' := .deferred none) h1 hK rfl).cell
    refine ⟨.int .i64 (y : Nat), ?_, ?_⟩
    · simp [results, Tryd.f44, go_sem, hc5]
    · refine ⟨?_, hB.trans (belowK_b (w := w) (Nat.le_refl _) _ D _ _ (by simp at hD; omega) hK rfl rfl)⟩
      have hk := HK.out
      have hp := HP.out
      have hl := hp.length_le
      simp at hl
      unfold nthOf
      rw [if_pos (by omega)]
      obtain ⟨t, ht⟩ := hp
      have : k.toNat = p.length := by omega
      rw [this, ← ht]
      simp
end Go.Proofs.YtgkmipfcadiobaaDoor
