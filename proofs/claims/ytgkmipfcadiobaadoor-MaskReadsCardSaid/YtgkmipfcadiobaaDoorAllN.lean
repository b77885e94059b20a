/- The contracts of (mask.Set).All and (mask.Set).Nth: the cores of a set, rising; the table of package math/bits lies as its text lays it. -/
import Derived.Test.YtgkmipfcadiobaaDoorRangeE
namespace Go.Proofs.YtgkmipfcadiobaaDoor
open Go.RowKit Go.Shelf Pl
attribute [local go_sem] Oper.semAt_some

theorem infoInt : (Tryd.prog.info? 3).map (fun i => (i.zero, i.size, i.bytes)) = some (some (.int .i64 0), 1, 8) := by kernel_rfl
def ints (l : List Nat) : List Value := l.map fun c => .int .i64 (c : Nat)
theorem ints_length (l : List Nat) : (ints l).length = l.length := by simp [ints]
theorem ints_snoc (l : List Nat) (c : Nat) : ints (l ++ [c]) = ints l ++ [.int .i64 (c : Nat)] := by simp [ints]
theorem tabAt_below {w W : World} {g : Nat} {tab : List Nat} (hg : g < w.heap.size) (h : TabAt g tab w) (hb : Below w.heap.size w W) : TabAt g tab W := fun j hj => (hb.cell (p := ⟨g, j, none⟩) hg).trans (h j hj)
theorem tabAt_lt {w : World} {g : Nat} (h : TabAt g Lib.deBruijn64tab w) : g < w.heap.size := World.block_lt_of_cell? w ⟨g, 0, none⟩ (h 0 (by decide))

/-- A row that one owns is not another variable's box. -/
theorem row_set {W : World} {B t e base size k : Nat} {u v r : Value} {xs : List Value} (hb : Boxed W B t u) (hte : t ≠ e) (h : W.ownsRow base e size r k xs) : (W.setCell ⟨B, 0, none⟩ v).ownsRow base e size r k xs :=
  h.kept (grownBy_setCell' W B v) (.inr (hb.not_row hte h).symm)
theorem box_set {W : World} {B C t u : Nat} {a b v : Value} (_hb : Boxed W B t a) (hne : C ≠ B) (h : Boxed W C u b) : Boxed (W.setCell ⟨B, 0, none⟩ v) C u b :=
  h.kept (grownBy_setCell' W B v) (fun e => hne (Option.some.inj e))

set_option maxRecDepth 100000 in
set_option maxHeartbeats 2000000 in
theorem all_in (n : Nat) (hn : 3 ≤ n) (x : Nat) (hx : x < 18446744073709551616) (w : World) (hT : TabAt 0 Lib.deBruijn64tab w) :
    CallsIn Fence.wide n Tryd.prog 48 #[.int .u64 x] w fun e W' => ∃ v, e = .returned v ∧ W'.ownsRow w.heap.size 3 1 v (cores x).length (ints (cores x)) ∧ Below w.heap.size w W' := by
  have h1 : 1 ≤ n := by omega
  have hg := tabAt_lt hT
  obtain ⟨i0, hi, hz0, hz1, hz2⟩ := info_parts infoInt
  have f61 : Fence.wide.fn 61 := trivial
  refine callsIn_of_wp_marks Tryd.func48 rfl trivial ?_ rfl
  simp only [Tryd.ntmps48, List.size_toArray, List.length_cons, List.length_nil, Nat.reduceAdd, Nat.reduceSub, Array.replicate_succ, Array.replicate_zero, List.push_toArray, List.append_toArray, List.nil_append, List.cons_append]
  gi_wp2_with (gi_at_call 61; refine (each_in Fence.wide (n - 1) trivial rfl _ _).mono ?_; rintro e w' ⟨rfl, rfl⟩)
  have bO := Boxed.new w 24 (.slice none 0 0)
  have bN := Boxed.new (w.alloc (.cells #[.slice none 0 0] 24)) 48 (.int .u64 x)
  rw [World.size_alloc] at bN
  have hB0 : Below w.heap.size w ((w.alloc (.cells #[.slice none 0 0] 24)).alloc (.cells #[.int .u64 x] 48)) := ((Below.refl _ w).alloc (Nat.le_refl _) _).alloc (by simp) _
  refine range_each (by omega) (B := w.heap.size + 1) hx rfl rfl bN
    (fun pre W => (∃ v, Boxed W w.heap.size 24 v ∧ W.ownsRow w.heap.size 3 1 v pre.length (ints pre) ∧ True) ∧ Below w.heap.size w W)
    (fun _ _ _ => False)
    (OwnFrom.and (Own.from (holdsRow_own w.heap.size w.heap.size 24 3 1 (fun pre => pre.length) (fun pre => ints pre) (fun _ _ => True)) _) (ownFrom_below (Nat.le_refl _) (by simp; omega)))
    (fun _ _ _ _ _ hs _ _ => hs)
    ?stab (fun pre W h => tabAt_below hg hT h.2)
    ⟨⟨_, bO.alloc _, World.ownsRow_nil _ _ _ _, trivial⟩, hB0⟩
    (fun k c => { tmps := #[.int .u64 x, undef, .slice none 0 0, .pointer (some ⟨w.heap.size, 0, none⟩), undef, .int .i64 c, .int .u64 x, .func (.func 75) #[] #[.pointer (some ⟨w.heap.size + 1, 0, none⟩)], .int .i64 k, .int .i64 c, undef, undef, undef, undef, undef], defers := [] }) ?assign ?body ?done ?stop
  case stab =>
    rintro pre W u v hu ⟨⟨r, hr, hrow, hp⟩, hb⟩
    exact ⟨⟨r, box_set hu (by omega) hr, row_set hu (by decide) hrow, hp⟩, hb.setCell (p := ⟨w.heap.size + 1, 0, none⟩) (by simp) _⟩
  case assign =>
    intro l k c W K hK
    gi_wp2
    exact hK
  case body =>
    rintro l pre c W ⟨⟨v, hv, hrow, _⟩, hB⟩ hpre
    have hc := hv.cell
    have hpl : pre.length ≤ 63 := by have h1 := hpre.length_le; have h2 := cores_length x; simp at h1; omega
    clear hpre
    have hbx : ∀ (u : Value), Boxed W (w.heap.size + 1) 48 u → some (w.heap.size + 1) ≠ v.ownBlock := fun u hu => hu.not_row (by decide) hrow
    gi_wp2_with (gi_at_builtin; refine wpListIn_append_own _ rfl _ _ 24 rfl w.heap.size 3 i0 (.int .i64 0) 1 8 Tryd.underlying24 hi hz0 hz1 hz2 rfl (by decide) _ _ _ rfl (hrow.alloc _) ⟨W.heap.size, 0, none⟩ 1 1 [.int .i64 c] rfl rfl (cell_one_new _ _ _) (by simp [Value.oneCell']) (by unfold maxLen; omega) (by omega) (by have := hB.size; simp; omega) ?_; intro v' w1 hown' hgrow _; obtain ⟨g', cap', rfl⟩ := ownsRow_succ hown'; obtain ⟨hv1, hv2, hr2, hk2, hb2⟩ := hv.appended (by decide) hrow hB.size (Nat.le_refl _) hown' hgrow; have hc1 := hv1.cell; have hf1 := hv1.frozen)
    exact ⟨hk2, fun u hu => box_set hv1 (by omega) ((hu.alloc _).kept hgrow (hbx u hu)), ⟨_, hv2, by rw [ints_snoc]; simpa using hr2, trivial⟩, hB.trans hb2⟩
  case done =>
    rintro D W hD ⟨⟨v, hv, hrow, _⟩, hB⟩ hK
    have hc := hv.cell
    gi_wp2
    refine ⟨by simp, .inl ⟨_, _, rfl, run_takeDeferred hK, ?_⟩⟩
    exact ⟨_, results_tmp rfl _ _ _, v, rfl, ownsRow_putObj hrow _ hK rfl, hB.trans (belowK_b (w := w) (Nat.le_refl _) W D _ _ (by simp at hD; omega) hK rfl rfl)⟩
  case stop =>
    rintro D c pre W _ _ h _
    exact h.elim
end Go.Proofs.YtgkmipfcadiobaaDoor
