/- The contract of (mask.Set).Text: the runs of a set, rising; the table of package math/bits lies as its text lays it. -/
import Derived.Test.YtgkmipfcadiobaaDoorHas
import Derived.Test.YtgkmipfcadiobaaDoorShelf
import Derived.RangeFuncCalls
import Derived.Laws.DeepStrings4
namespace Go.Proofs.YtgkmipfcadiobaaDoor
open Go.RowKit Go.Shelf Pl
attribute [local go_sem] Oper.semAt_some

theorem infoStr : (Tryd.prog.info? 9).map (fun i => (i.zero, i.size, i.bytes)) = some (some (.string ⟨#[]⟩), 1, 16) := by kernel_rfl

/-- A run's text, from its first core on. -/
def segL (x c : Nat) : List UInt8 := Lib.decDigits c ++ (if 1 < runLen x c then 45 :: Lib.decDigits (c + runLen x c - 1) else [])
def segB (x c : Nat) : ByteArray := ⟨(segL x c).toArray⟩
def segs (x : Nat) (pre : List Nat) : List ByteArray := (pre.filter fun c : Nat => !hasB x ((c : Int) - 1)).map (segB x)
theorem segs_hit (x : Nat) (pre : List Nat) (c : Nat) (h : hasB x ((c : Int) - 1) = false) : segs x (pre ++ [c]) = segs x pre ++ [segB x c] := by simp [segs, h]
theorem segs_miss (x : Nat) (pre : List Nat) (c : Nat) (h : hasB x ((c : Int) - 1) = true) : segs x (pre ++ [c]) = segs x pre := by simp [segs, h]
theorem segs_length (x : Nat) (pre : List Nat) : (segs x pre).length ≤ pre.length := by simp only [segs, List.length_map]; exact List.length_filter_le _ _
def textL (x : Nat) : List UInt8 := if segs x (cores x) = [] then [45] else Lib.join ((segs x (cores x)).map (·.data.toList)) [44]
def textB (x : Nat) : ByteArray := ⟨(textL x).toArray⟩
theorem runLen_fits (x c : Nat) (h : hasB x (c : Nat) = true) : 1 ≤ runLen x c ∧ c + runLen x c ≤ 64 := by
  have h1 : 1 ≤ runLen x c := by unfold runLen runF; rw [if_pos h]; omega
  refine ⟨h1, ?_⟩
  have h2 := runF_all x 64 c (runLen x c - 1) (by unfold runLen at *; omega)
  apply Classical.byContradiction
  intro hn
  rw [hasB_out x _ (by omega)] at h2
  cases h2
theorem dec_len {u : Nat} (h : u < 100) : (Lib.decDigits u).length ≤ 2 := by
  rw [Lib.decDigits]
  split
  · simp
  · rw [Lib.decDigits]
    rw [dif_pos (by omega)]
    simp
theorem segL_len (x c : Nat) (h : hasB x (c : Nat) = true) : (segL x c).length ≤ 5 := by
  have hf := runLen_fits x c h
  have h1 := dec_len (u := c) (by omega)
  have h2 := dec_len (u := c + runLen x c - 1) (by omega)
  unfold segL
  split <;> simp <;> omega

theorem seg_long (x c : Nat) (h : decide (1 < (runLen x c : Int)) = true) : ({ data := (Lib.decDigits c).toArray } ++ (({ data := #[45] } : ByteArray) ++ { data := (Lib.decDigits (c + runLen x c - 1)).toArray }) : ByteArray) = segB x c := by
  have h1 : 1 < runLen x c := by have := of_decide_eq_true h; omega
  unfold segB segL
  rw [if_pos h1]
  apply ByteArray.ext
  simp
theorem seg_short (x c : Nat) (h : decide (1 < (runLen x c : Int)) = false) : ({ data := (Lib.decDigits c).toArray } : ByteArray) = segB x c := by
  have h1 : ¬ 1 < runLen x c := by have := of_decide_eq_false h; omega
  unfold segB segL
  rw [if_neg h1, List.append_nil]
theorem joinTail_bound (sep : List UInt8) : ∀ (r : List (List UInt8)), (∀ y ∈ r, y.length ≤ 5) → (Lib.joinTail sep r).length ≤ r.length * (sep.length + 5)
  | [], _ => by simp [Lib.joinTail]
  | y :: r, h => by
    have ih := joinTail_bound sep r (fun z hz => h z (List.mem_cons_of_mem _ hz))
    have hy := h y List.mem_cons_self
    simp only [Lib.joinTail, List.map_cons, List.flatten_cons, List.length_append, List.length_cons] at ih ⊢
    rw [Nat.add_mul]
    omega
theorem join_bound (ls : List (List UInt8)) (sep : List UInt8) (h : ∀ y ∈ ls, y.length ≤ 5) : (Lib.join ls sep).length ≤ 5 + ls.length * (sep.length + 5) := by
  cases ls with
  | nil => simp [Lib.join_nil]
  | cons x r =>
    rw [Lib.join_cons, List.length_append]
    have h1 := h x List.mem_cons_self
    have h2 := joinTail_bound sep r (fun z hz => h z (List.mem_cons_of_mem _ hz))
    simp only [List.length_cons]
    rw [Nat.add_mul]
    omega
theorem segs_mem (x : Nat) (b : ByteArray) (h : b ∈ segs x (cores x)) : b.data.toList.length ≤ 5 := by
  obtain ⟨c, hc, rfl⟩ := List.mem_map.1 h
  have hm := (mem_cores.1 (List.mem_filter.1 hc).1)
  have := segL_len x c (by rw [hasB_nat x c hm.1]; exact hm.2)
  simpa [segB] using this
theorem segs_cores_length (x : Nat) : (segs x (cores x)).length ≤ 64 := Nat.le_trans (segs_length x _) (cores_length x)
theorem text_bound (x : Nat) : (Lib.join ((segs x (cores x)).map (·.data.toList)) (⟨#[44]⟩ : ByteArray).data.toList).length ≤ 140737488355328 := by
  have h := join_bound ((segs x (cores x)).map (·.data.toList)) [44] (fun y hy => by
    obtain ⟨b, hb, rfl⟩ := List.mem_map.1 hy
    exact segs_mem x b hb)
  have h2 := segs_cores_length x
  simp only [List.length_map, List.length_cons, List.length_nil] at h
  show (Lib.join _ [44]).length ≤ _
  omega
theorem itoa_calls (i : Int) (h0 : 0 ≤ i) (h1 : i < 100) (w : World) : Calls Tryd.prog 62 #[.int .i64 i] w fun e w' => e = .returned (.string ⟨(Lib.decDigits i.toNat).toArray⟩) ∧ w = w' := by
  obtain ⟨j, rfl⟩ := Int.eq_ofNat_of_zero_le h0
  exact (Tryd.strconv_Itoa_small j (by omega) w).mono fun e w' h => ⟨h.1, h.2.symm⟩

set_option maxRecDepth 100000 in
set_option maxHeartbeats 4000000 in
theorem text_in (n : Nat) (hn : 3 ≤ n) (x : Nat) (hx : x < 18446744073709551616) (w : World) (hT : TabAt 0 Lib.deBruijn64tab w) :
    CallsIn Fence.wide n Tryd.prog 34 #[.int .u64 x] w fun e W' => e = .returned (.string (textB x)) ∧ Below w.heap.size w W' := by
  have hg := tabAt_lt hT
  obtain ⟨i0, hi, hz0, hz1, hz2⟩ := info_parts infoStr
  have f61 : Fence.wide.fn 61 := trivial
  have f39 : Fence.wide.fn 39 := trivial
  have f62 : Fence.wide.fn 62 := trivial
  have f63 : Fence.wide.fn 63 := trivial
  have f64 : Fence.wide.fn 64 := trivial
  have hn1 : 1 ≤ n := by omega
  have hn2 : 1 ≤ n - 1 - 1 := by omega
  refine callsIn_of_wp_marks Tryd.func34 rfl trivial ?_ rfl
  simp only [Tryd.ntmps34, List.size_toArray, List.length_cons, List.length_nil, Nat.reduceAdd, Nat.reduceSub, Array.replicate_succ, Array.replicate_zero, List.push_toArray, List.append_toArray, List.nil_append, List.cons_append]
  gi_wp2_with (gi_at_call 61; refine (each_in Fence.wide (n - 1) trivial rfl _ _).mono ?_; rintro e w' ⟨rfl, rfl⟩)
  have b0 := Boxed.new w 48 (.int .u64 x)
  have b1 := Boxed.new (w.alloc (.cells #[.int .u64 x] 48)) 82 (.slice none 0 0)
  have bN := Boxed.new ((w.alloc (.cells #[.int .u64 x] 48)).alloc (.cells #[.slice none 0 0] 82)) 48 (.int .u64 x)
  simp only [World.size_alloc] at b1 bN
  have hB00 : Below w.heap.size w ((w.alloc (.cells #[.int .u64 x] 48)).alloc (.cells #[.slice none 0 0] 82)) := ((Below.refl _ w).alloc (Nat.le_refl _) _).alloc (by simp) _
  have hB0 : Below w.heap.size w (((w.alloc (.cells #[.int .u64 x] 48)).alloc (.cells #[.slice none 0 0] 82)).alloc (.cells #[.int .u64 x] 48)) := hB00.alloc (by simp; omega) _
  refine range_each (n := n) (by omega) (B := w.heap.size + 1 + 1) hx rfl rfl bN
    (fun pre W => ((∃ v, Boxed W (w.heap.size + 1) 82 v ∧ W.ownsRow w.heap.size 9 1 v (segs x pre).length ((segs x pre).map Value.string) ∧ True) ∧ Boxed W w.heap.size 48 (.int .u64 x)) ∧ Below w.heap.size w W)
    (fun _ _ _ => False)
    (OwnFrom.and (OwnFrom.and (Own.from (holdsRow_own w.heap.size (w.heap.size + 1) 82 9 1 (fun pre => (segs x pre).length) (fun pre => (segs x pre).map Value.string) (fun _ _ => True)) _) (fun s A B row hs hg hr => boxed_row hs hg (fun r e => (hr r e).2))) (ownFrom_below (Nat.le_refl _) (by simp; omega)))
    (fun _ _ _ _ _ hs _ _ => hs)
    ?stab (fun pre W h => tabAt_below hg hT h.2)
    ⟨⟨⟨_, b1.alloc _, World.ownsRow_nil _ _ _ _, trivial⟩, (b0.alloc _).alloc _⟩, hB0⟩
    (fun k c => { tmps := #[.int .u64 x, .pointer (some ⟨w.heap.size, 0, none⟩), .string ⟨#[]⟩, .pointer (some ⟨w.heap.size + 1, 0, none⟩), undef, .int .i64 c, undef, undef, .int .u64 x, .func (.func 75) #[] #[.pointer (some ⟨w.heap.size + 1 + 1, 0, none⟩)], .int .i64 k, .int .i64 c, undef, undef, undef, undef, undef, undef, undef, undef, undef, undef, undef, undef, undef, undef, undef, undef, undef, undef, undef, undef, undef, undef, undef, undef, undef, undef, undef, undef, undef], defers := [] }) ?assign ?body ?done ?stop
  case stab =>
    rintro pre W u v hu ⟨⟨⟨r, hr, hrow, _⟩, hs⟩, hb⟩
    exact ⟨⟨⟨r, box_set hu (by omega) hr, row_set hu (by decide) hrow, trivial⟩, box_set hu (by omega) hs⟩, hb.setCell (p := ⟨w.heap.size + 1 + 1, 0, none⟩) (by simp; omega) _⟩
  case assign =>
    intro l k c W K hK
    gi_wp2
    exact hK
  case body =>
    rintro l pre c W ⟨⟨⟨v, hv, hrow, _⟩, hs⟩, hB⟩ hpre
    have hcv := hv.cell
    have hcs := hs.cell
    have hpl : pre.length ≤ 63 := by have h1 := hpre.length_le; have h2 := cores_length x; simp at h1; omega
    have hsl : (segs x pre).length ≤ 63 := Nat.le_trans (segs_length x pre) hpl
    have hcm : c ∈ cores x := hpre.subset (by simp)
    have hc64 : c < 64 := (mem_cores.1 hcm).1
    have hch : hasB x (c : Nat) = true := by rw [hasB_nat x c hc64]; exact (mem_cores.1 hcm).2
    obtain ⟨hr1, hr2⟩ := runLen_fits x c hch
    have hbx : ∀ (u : Value), Boxed W (w.heap.size + 1 + 1) 48 u → some (w.heap.size + 1 + 1) ≠ v.ownBlock := fun u hu => hu.not_row (by decide) hrow
    have hbs : some w.heap.size ≠ v.ownBlock := hs.not_row (by decide) hrow
    have HSX := Lib.hid hs
    clear hpre hcm hch hs
    by_cases hst : hasB x ((c : Int) - 1) = true
    · gi_wp2_with (gi_at_call 39; refine (CallsIn.inRound l (callsIn_wide.2 (has_calls x hx _ _))).mono ?_; rintro e w' ⟨rfl, rfl⟩)
      exact ⟨KeepsOthers.refl _, fun _ h => h, ⟨⟨v, hv, by rw [segs_miss x pre c hst]; exact hrow, trivial⟩, HSX.out⟩, hB⟩
    · have hst : hasB x ((c : Int) - 1) = false := by simpa using hst
      have hd1 : (Lib.decDigits c).length ≤ 2 := dec_len (by omega)
      have hd2 : (Lib.decDigits (c + runLen x c - 1)).length ≤ 2 := dec_len (by omega)
      have hr64 : (c : Int) + (runLen x c : Int) ≤ 64 := by omega
      have hlt : decide (1 < (runLen x c : Int)) = true ∨ decide (1 < (runLen x c : Int)) = false := by by_cases h : 1 < (runLen x c : Int) <;> simp [h]
      rcases hlt with hlt | hlt
      · have SEG := Lib.hid (seg_long x c hlt)
        gi_wp2_with (first | (gi_at_call 39; refine (CallsIn.inRound l (callsIn_wide.2 (has_calls x hx _ _))).mono ?_; rintro e w' ⟨rfl, rfl⟩) | (gi_at_call 62; refine (CallsIn.inRound l (callsIn_wide.2 (itoa_calls _ (by omega) (by omega) _))).mono ?_; rintro e w' ⟨rfl, rfl⟩) | (gi_at_call 63; refine (CallsIn.inRound l (callsIn_wide.2 (run_calls x hx c hc64 _))).mono ?_; rintro e w' ⟨rfl, rfl⟩) | (gi_at_builtin; refine wpListIn_append_own _ rfl _ _ 82 rfl w.heap.size 9 i0 (.string ⟨#[]⟩) 1 16 Tryd.underlying82 hi hz0 hz1 hz2 rfl (by decide) _ _ _ rfl (hrow.alloc _) ⟨W.heap.size, 0, none⟩ 1 1 [.string ({ data := (Lib.decDigits c).toArray } ++ (({ data := #[45] } : ByteArray) ++ { data := (Lib.decDigits (c + runLen x c - 1)).toArray }))] rfl rfl (cell_one_new _ _ _) (by simp [Value.oneCell']) (by unfold maxLen; omega) (by omega) (by have := hB.size; simp; omega) ?_; intro v' w1 hown' hgrow _; obtain ⟨g', cap', rfl⟩ := ownsRow_succ hown'; obtain ⟨hv1, hv2, hr2, hk2, hb2⟩ := hv.appended (by decide) hrow hB.size (by omega) hown' hgrow; have hc1 := hv1.cell; have hf1 := hv1.frozen))
        exact ⟨hk2, fun u hu => box_set hv1 (by omega) ((hu.alloc _).kept hgrow (hbx u hu)), ⟨⟨_, hv2, by rw [segs_hit x pre c hst, ← SEG.out]; simpa using hr2, trivial⟩, box_set hv1 (by omega) ((HSX.out.alloc _).kept hgrow hbs)⟩, hB.trans hb2⟩
      · have SEG := Lib.hid (seg_short x c hlt)
        gi_wp2_with (first | (gi_at_call 39; refine (CallsIn.inRound l (callsIn_wide.2 (has_calls x hx _ _))).mono ?_; rintro e w' ⟨rfl, rfl⟩) | (gi_at_call 62; refine (CallsIn.inRound l (callsIn_wide.2 (itoa_calls _ (by omega) (by omega) _))).mono ?_; rintro e w' ⟨rfl, rfl⟩) | (gi_at_call 63; refine (CallsIn.inRound l (callsIn_wide.2 (run_calls x hx c hc64 _))).mono ?_; rintro e w' ⟨rfl, rfl⟩) | (gi_at_builtin; refine wpListIn_append_own _ rfl _ _ 82 rfl w.heap.size 9 i0 (.string ⟨#[]⟩) 1 16 Tryd.underlying82 hi hz0 hz1 hz2 rfl (by decide) _ _ _ rfl (hrow.alloc _) ⟨W.heap.size, 0, none⟩ 1 1 [.string { data := (Lib.decDigits c).toArray }] rfl rfl (cell_one_new _ _ _) (by simp [Value.oneCell']) (by unfold maxLen; omega) (by omega) (by have := hB.size; simp; omega) ?_; intro v' w1 hown' hgrow _; obtain ⟨g', cap', rfl⟩ := ownsRow_succ hown'; obtain ⟨hv1, hv2, hr2, hk2, hb2⟩ := hv.appended (by decide) hrow hB.size (by omega) hown' hgrow; have hc1 := hv1.cell; have hf1 := hv1.frozen))
        exact ⟨hk2, fun u hu => box_set hv1 (by omega) ((hu.alloc _).kept hgrow (hbx u hu)), ⟨⟨_, hv2, by rw [segs_hit x pre c hst, ← SEG.out]; simpa using hr2, trivial⟩, box_set hv1 (by omega) ((HSX.out.alloc _).kept hgrow hbs)⟩, hB.trans hb2⟩
  case done =>
    rintro D W hD ⟨⟨⟨v, hv, hrow, _⟩, hs⟩, hB⟩ hK
    have hcv := hv.cell
    have hsl := segs_cores_length x
    by_cases h0 : segs x (cores x) = []
    · have HT := Lib.hid (show textB x = ⟨#[45]⟩ by unfold textB textL; rw [if_pos h0])
      have hlen : (segs x (cores x)).length = 0 := by rw [h0]; rfl
      rw [hlen] at hrow
      obtain ⟨a, cap, rfl⟩ : ∃ a cap, v = .slice a 0 cap := by
        rcases hrow.2 with ⟨rfl, _⟩ | ⟨g, cap, cur, rfl, _⟩
        · exact ⟨_, _, rfl⟩
        · exact ⟨_, _, rfl⟩
      clear hlen h0 hsl
      gi_wp2
      refine ⟨by simp, .inl ⟨_, _, rfl, run_takeDeferred hK, ?_⟩⟩
      exact ⟨_, results_tmp rfl _ _ _, by rw [HT.out]; rfl, hB.trans (belowK_b (w := w) (Nat.le_refl _) W D _ _ (by simp at hD; omega) hK rfl rfl)⟩
    · obtain ⟨k, hk⟩ : ∃ k, (segs x (cores x)).length = k + 1 := ⟨(segs x (cores x)).length - 1, by have := List.length_pos_iff.2 h0; omega⟩
      have HT := Lib.hid (show textB x = ⟨(Lib.join ((segs x (cores x)).map (·.data.toList)) [44]).toArray⟩ by unfold textB textL; rw [if_neg h0])
      obtain ⟨g, cap, rfl⟩ := ownsRow_succ (hk ▸ hrow)
      have hcap : k + 1 ≤ cap ∧ w.heap.size ≤ g ∧ g < W.heap.size := by
        rcases hrow.2 with ⟨h', _⟩ | ⟨g', cap', cur, h', hg', hh, hc, _⟩
        · cases h'
        · simp only [Value.slice.injEq, Option.some.injEq, Addr.mk.injEq, and_true] at h'
          obtain ⟨rfl, h2, rfl⟩ := h'
          exact ⟨by omega, hg', (Array.getElem?_eq_some_iff.1 hh).1⟩
      have hj := Tryd.strings_Join g 0 cap (segs x (cores x)) ⟨#[44]⟩ W (fun j y hy => by
          have hjl := (List.getElem?_eq_some_iff.1 hy).1
          have := World.ownsRow.cellAt (hk ▸ hrow) j (by omega)
          rw [Nat.zero_add, this, List.getElem?_map, hy]; rfl) hcap.2.2 (by omega) (by omega) (text_bound x)
      rw [hk] at hj
      have HJ := Lib.hid hj
      have HW := Lib.hid hcap
      clear hj hk h0 hsl hcap
      gi_wp2_with (gi_at_call 64; refine (callsIn_wide.2 HJ.out).mono ?_; rintro e w1 ⟨rfl, hb1⟩)
      have hK1 : w1.heap[D]? = some (.deferred (some [])) := (hb1.block D (Array.getElem?_eq_some_iff.1 hK).1).trans hK
      refine ⟨by simp, .inl ⟨_, _, rfl, run_takeDeferred hK1, ?_⟩⟩
      exact ⟨_, results_tmp rfl _ _ _, by rw [HT.out]; rfl, (hB.trans (hb1.mono hB.size)).trans (belowK_b (w := w) (Nat.le_refl _) w1 D _ _ (by simp at hD; omega) hK1 rfl rfl)⟩
  case stop =>
    rintro D c pre W _ _ h _
    exact h.elim
end Go.Proofs.YtgkmipfcadiobaaDoor
