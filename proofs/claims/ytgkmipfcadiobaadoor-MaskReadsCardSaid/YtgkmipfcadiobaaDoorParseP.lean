/- Plain: what the printed reading of mask.Parse computes; it ends at each text; a set's text is read as the set. -/
import Derived.Test.YtgkmipfcadiobaaDoorSplits
set_option linter.unusedVariables false
namespace Go.Proofs.YtgkmipfcadiobaaDoor.Pl
open Go Go.RowKit
/-- The set of the cores that a test tells. -/
def ofB (p : Nat → Bool) : Nat → Nat
  | 0 => 0
  | n + 1 => ofB p n ||| (if p n = true then 2 ^ n else 0)
theorem ofB_test (p : Nat → Bool) (i : Nat) : ∀ n, (ofB p n).testBit i = (decide (i < n) && p i)
  | 0 => by simp [ofB]
  | n + 1 => by
    rw [ofB, Nat.testBit_or, ofB_test p i n]
    by_cases h : i = n
    · subst h
      cases hp : p i <;> simp
    · have h1 : decide (i < n + 1) = decide (i < n) := decide_eq_decide.2 (by omega)
      have h2 : (if p n = true then 2 ^ n else 0 : Nat).testBit i = false := by
        split
        · rw [Nat.testBit_two_pow]; exact decide_eq_false (fun e => h e.symm)
        · exact Nat.zero_testBit i
      rw [h1, h2, Bool.or_false]
def setOf (p : Nat → Bool) : Nat := ofB p 64
theorem setOf_test (p : Nat → Bool) (i : Nat) (h : i < 64) : (setOf p).testBit i = p i := by
  unfold setOf; rw [ofB_test]; simp [h]
theorem ofB_lt (p : Nat → Bool) : ∀ n, ofB p n < 2 ^ n
  | 0 => Nat.zero_lt_one
  | n + 1 => by
    have ih := ofB_lt p n
    have h2 : 2 ^ n < 2 ^ (n + 1) := Nat.pow_lt_pow_right (by decide) (by omega)
    rw [ofB]
    refine Nat.or_lt_two_pow (Nat.lt_trans ih h2) ?_
    split
    · exact h2
    · exact Nat.two_pow_pos _
theorem setOf_lt (p : Nat → Bool) : setOf p < U64 := ofB_lt p 64
def addR (x : Nat) (a b : Int) : Nat := x ||| setOf fun i => decide (a ≤ i ∧ i ≤ b)
theorem addR_lt {x : Nat} (a b : Int) (h : x < U64) : addR x a b < U64 := or_lt h (setOf_lt _)
theorem addR_test (x : Nat) (a b : Int) (i : Nat) (h : i < 64) : (addR x a b).testBit i = (x.testBit i || decide (a ≤ i ∧ i ≤ b)) := by
  unfold addR; rw [Nat.testBit_or, setOf_test _ _ h]
/-- A number below 100, in digits. -/
def dd (c : Nat) : List UInt8 := if c < 10 then [UInt8.ofNat (48 + c)] else [UInt8.ofNat (48 + c / 10), UInt8.ofNat (48 + c % 10)]
theorem dd_eq (c : Nat) (h : c < 100) : Lib.decDigits c = dd c := by
  unfold dd
  split
  · rename_i h1; exact Lib.decDigits_one h1
  · rename_i h1; exact Lib.decDigits_two h1 h
def readsAs (l : List UInt8) (a b : Nat) : Bool := decide (atoiV (endsL l).1 = (a : Int)) && decide (atoiV (endsL l).2 = (b : Int)) && spanOk l && !l.contains 44 && decide (l ≠ [45])
set_option maxRecDepth 100000 in
theorem one_reads : ∀ a < 64, readsAs (dd a) a a = true := by decide +kernel
set_option maxRecDepth 100000 in
theorem two_reads : ∀ a < 64, ∀ b < 64, readsAs (dd a ++ 45 :: dd b) a b = true := by decide +kernel
theorem seg_reads (x c : Nat) (h : hasB x (c : Nat) = true) : readsAs (segL x c) c (c + runLen x c - 1) = true := by
  have hf := runLen_fits x c h
  unfold segL
  split
  · rw [dd_eq c (by omega), dd_eq _ (by omega)]
    exact two_reads c (by omega) _ (by omega)
  · rw [dd_eq c (by omega), List.append_nil, show c + runLen x c - 1 = c by omega]
    exact one_reads c (by omega)
theorem reads_ends {l : List UInt8} {a b : Nat} (h : readsAs l a b = true) : atoiV (endsL l).1 = (a : Int) ∧ atoiV (endsL l).2 = (b : Int) ∧ spanOk l = true ∧ (44 : UInt8) ∉ l ∧ l ≠ [45] := by
  unfold readsAs at h
  simp only [Bool.and_eq_true, decide_eq_true_eq, Bool.not_eq_true', List.contains_eq_mem, decide_eq_false_iff_not] at h
  exact ⟨h.1.1.1.1, h.1.1.1.2, h.1.1.2, h.1.2, h.2⟩
/-- The runs read one after the other, as the program reads them. -/
def goP : List ByteArray → Nat → Option Nat
  | [], x => some x
  | p :: ps, x => if spanOk p.data.toList = true then goP ps (addR x (atoiV (endsL p.data.toList).1) (atoiV (endsL p.data.toList).2)) else none
def fin (t : ByteArray) : Option Nat → Int × Int
  | none => (0, 5)
  | some s => if textL s = t.data.toList then ((s : Int), 0) else (0, 5)
theorem goP_lt : ∀ (ps : List ByteArray) (x s : Nat), x < U64 → goP ps x = some s → s < U64
  | [], x, s, hx, h => by cases h; exact hx
  | p :: ps, x, s, hx, h => by
    unfold goP at h
    split at h
    · exact goP_lt ps _ s (addR_lt _ _ hx) h
    · cases h
/-- The first cores of the runs. -/
def starts (x : Nat) : List Nat := (cores x).filter fun c : Nat => !hasB x ((c : Int) - 1)
theorem goP_segs (x : Nat) : ∀ (cs : List Nat) (y : Nat), (∀ c ∈ cs, hasB x (c : Nat) = true) → ∃ s, goP (cs.map (segB x)) y = some s ∧ (∀ i, i < 64 → (s.testBit i = (y.testBit i || decide (∃ c ∈ cs, c ≤ i ∧ i < c + runLen x c))))
  | [], y, _ => ⟨y, rfl, fun i _ => by simp⟩
  | c :: cs, y, h => by
    have hc := h c List.mem_cons_self
    have hr := reads_ends (seg_reads x c hc)
    have hf := runLen_fits x c hc
    have e : (segB x c).data.toList = segL x c := by simp [segB]
    obtain ⟨s, h1, h2⟩ := goP_segs x cs (addR y c ((c + runLen x c - 1 : Nat) : Int)) (fun d hd => h d (List.mem_cons_of_mem _ hd))
    refine ⟨s, ?_, fun i hi => ?_⟩
    · rw [List.map_cons, goP, e, if_pos hr.2.2.1, hr.1, hr.2.1]
      exact h1
    · rw [h2 i hi, addR_test _ _ _ _ hi, Bool.or_assoc]
      congr 1
      rw [Bool.eq_iff_iff]
      simp only [Bool.or_eq_true, decide_eq_true_eq, List.mem_cons, exists_eq_or_imp]
      constructor
      · rintro (h | h)
        · left; omega
        · exact .inr h
      · rintro (h | h)
        · left; omega
        · exact .inr h
theorem starts_has (x c : Nat) (h : c ∈ starts x) : hasB x (c : Nat) = true ∧ c < 64 := by
  have := mem_cores.1 (List.mem_filter.1 h).1
  exact ⟨by rw [hasB_nat x c this.1]; exact this.2, this.1⟩
/-- Each core lies in a run. -/
theorem in_run (x : Nat) : ∀ (i : Nat), i < 64 → x.testBit i = true → ∃ c ∈ starts x, c ≤ i ∧ i < c + runLen x c
  | i, hi, h => by
    have hh : hasB x (i : Nat) = true := by rw [hasB_nat x i hi]; exact h
    by_cases hp : hasB x ((i : Int) - 1) = true
    · have hi0 : i ≠ 0 := fun e => by subst e; rw [hasB_out x _ (by left; decide)] at hp; cases hp
      have e : ((i : Int) - 1) = ((i - 1 : Nat) : Int) := by omega
      rw [e, hasB_nat x (i - 1) (by omega)] at hp
      obtain ⟨c, hc, h1, h2⟩ := in_run x (i - 1) (by omega) hp
      refine ⟨c, hc, by omega, ?_⟩
      have hend := runF_end x 64 c (by omega)
      apply Classical.byContradiction
      intro hn
      have : c + runF x 64 c = i := by unfold runLen at *; omega
      rw [this, hh] at hend
      cases hend
    · refine ⟨i, List.mem_filter.2 ⟨mem_cores.2 ⟨hi, h⟩, ?_⟩, Nat.le_refl _, ?_⟩
      · rw [Bool.eq_false_iff.2 hp]; rfl
      · have := runLen_fits x i hh; omega
theorem goP_text (x : Nat) (hx : x < U64) : goP (segs x (cores x)) 0 = some x := by
  obtain ⟨s, h1, h2⟩ := goP_segs x (starts x) 0 (fun c hc => (starts_has x c hc).1)
  have hs : s < U64 := goP_lt _ _ _ (by decide) h1
  have : s = x := by
    apply set_ext hs hx
    intro i hi
    rw [h2 i hi, Nat.zero_testBit, Bool.false_or, Bool.eq_iff_iff, decide_eq_true_iff]
    constructor
    · rintro ⟨c, hc, h3, h4⟩
      have := runF_all x 64 c (i - c) (by unfold runLen at *; omega)
      rw [show c + (i - c) = i by omega, hasB_nat x i hi] at this
      exact this
    · intro h; exact in_run x i hi h
  rw [this] at h1
  exact h1
end Go.Proofs.YtgkmipfcadiobaaDoor.Pl
namespace Go.Proofs.YtgkmipfcadiobaaDoor.GM
open Go Go.RowKit Go.Proofs.YtgkmipfcadiobaaDoor Pl Go.Proofs.YtgkmipfcadiobaaDoorW.PrintWords Go.Proofs.YtgkmipfcadiobaaDoorW.PrintMore Given
theorem text_f (x : Nat) (hx : x < U64) : mask_Set_Text.f (x : Int) = some (textB x) := by
  unfold mask_Set_Text.f
  rw [if_pos (by unfold U64 at hx; omega)]
  rfl
theorem textB_toList (x : Nat) : (textB x).toList = textL x := by rw [ByteArray.toList_eq]; simp [textB]
theorem l1_run (t : ByteArray) (parts : List ByteArray) (len i b : Int) (hb : b < 64) (k : Nat) (v : Int × Int) : ∀ (n x : Nat) (a : Int), x < U64 → 0 ≤ a → (b + 1 - a).toNat = n →
    mask_Parse.l0 k t (addR x a b : Nat) parts len (wrap64 (i + 1)) = some v → mask_Parse.l1 (k + n + 1) t (x : Nat) b a parts len i = some v
  | 0, x, a, hx, ha, hn, h => by
    have e : addR x a b = x := by
      apply set_ext (addR_lt a b hx) hx
      intro i hi
      rw [addR_test _ _ _ _ hi, decide_eq_false (by omega), Bool.or_false]
    rw [e] at h
    rw [Nat.add_zero, mask_Parse.l1, if_neg (by omega)]
    exact h
  | n + 1, x, a, hx, ha, hn, h => by
    have e : addR x a b = addR (x ||| bitN a) (a + 1) b := by
      apply set_ext (addR_lt a b hx) (addR_lt _ _ (or_lt hx (bitN_lt a)))
      intro i hi
      rw [addR_test _ _ _ _ hi, addR_test _ _ _ _ hi, Nat.testBit_or, bitN_test _ _ hi, Bool.or_assoc]
      congr 1
      rw [Bool.eq_iff_iff, Bool.or_eq_true, decide_eq_true_iff, decide_eq_true_iff, decide_eq_true_iff]
      omega
    rw [e] at h
    have ih := l1_run t parts len i b hb k v n (x ||| bitN a) (a + 1) (or_lt hx (bitN_lt a)) (by omega) (by omega) h
    rw [show k + (n + 1) + 1 = (k + n + 1) + 1 by omega, mask_Parse.l1, if_pos (by omega), with_f x hx]
    simp only [Option.bind_some]
    rw [show wrap64 (a + 1) = a + 1 by unfold wrap64; omega]
    exact ih
theorem l0_run (t : ByteArray) (parts : List ByteArray) (hl : parts.length < 1000000) (hs : ∀ p ∈ parts, p.size ≤ 1000000) : ∀ (ps pre : List ByteArray) (x : Nat), parts = pre ++ ps → x < U64 →
    ∃ k, mask_Parse.l0 k t (x : Nat) parts (parts.length : Int) (pre.length : Int) = some (fin t (goP ps x))
  | [], pre, x, hp, hx => ⟨1, by
    rw [List.append_nil] at hp
    rw [hp, mask_Parse.l0, if_neg (by omega), text_f x hx]
    simp only [Option.bind_some, textB_toList]
    rw [ByteArray.toList_eq]
    show _ = some (if textL x = t.data.toList then ((x : Int), 0) else (0, 5))
    split <;> rfl⟩
  | p :: ps, pre, x, hp, hx => by
    have hmem : p ∈ parts := by rw [hp]; simp
    have hpl : pre.length < parts.length := by rw [hp]; simp
    have hrd : rdOf ByteArray.empty parts (pre.length : Int) = p := by
      unfold rdOf
      rw [Int.toNat_natCast, hp]
      simp [List.getD]
    have hsp : mask_span.f p = some (atoiV (endsL p.data.toList).1, atoiV (endsL p.data.toList).2, spanOk p.data.toList) := by
      unfold mask_span.f; rw [if_pos (hs p hmem)]
    have hw : wrap64 ((pre.length : Int) + 1) = (((pre ++ [p]).length : Nat) : Int) := by
      rw [List.length_append, List.length_singleton]; unfold wrap64; omega
    by_cases hok : spanOk p.data.toList = true
    · obtain ⟨k, hk⟩ := l0_run t parts hl hs ps (pre ++ [p]) (addR x (atoiV (endsL p.data.toList).1) (atoiV (endsL p.data.toList).2)) (by rw [hp]; simp) (addR_lt _ _ hx)
      have hb : 0 ≤ atoiV (endsL p.data.toList).1 ∧ atoiV (endsL p.data.toList).2 < 64 := by
        unfold spanOk at hok
        simp only [Bool.and_eq_true, decide_eq_true_eq] at hok
        exact hok.2.2
      have h1 := l1_run t parts (parts.length : Int) (pre.length : Int) (atoiV (endsL p.data.toList).2) hb.2 k _ _ x (atoiV (endsL p.data.toList).1) hx hb.1 rfl (by rw [hw]; exact hk)
      refine ⟨(k + (atoiV (endsL p.data.toList).2 + 1 - atoiV (endsL p.data.toList).1).toNat + 1) + 1, ?_⟩
      rw [mask_Parse.l0, if_pos (by omega), if_pos (by omega), if_pos (by omega), hrd, hsp]
      simp only [Option.bind_some, hok, if_true]
      rw [goP, if_pos hok]
      exact h1
    · refine ⟨1, ?_⟩
      rw [mask_Parse.l0, if_pos (by omega), if_pos (by omega), if_pos (by omega), hrd, hsp]
      simp only [Option.bind_some]
      rw [if_neg hok, goP, if_neg hok]
      rfl
theorem split_f (t : ByteArray) (ht : t.size ≤ 100000) : strings_Split.f t ⟨#[44]⟩ = some (Lib.splitB ⟨#[44]⟩ 0 (Lib.countB t ⟨#[44]⟩) t) := by
  unfold strings_Split.f
  rw [if_pos ⟨by omega, by decide⟩]
theorem parts_small (t : ByteArray) (ht : t.size ≤ 100000) : (Lib.splitB ⟨#[44]⟩ 0 (Lib.countB t ⟨#[44]⟩) t).length < 1000000 ∧ ∀ p ∈ Lib.splitB ⟨#[44]⟩ 0 (Lib.countB t ⟨#[44]⟩) t, p.size ≤ 1000000 := by
  refine ⟨?_, fun p hp => ?_⟩
  · have h1 := Lib.splitB_length_le ⟨#[44]⟩ 0 (Lib.countB t ⟨#[44]⟩) t
    have h2 := Lib.countB_le ⟨#[44]⟩ (by decide) t.size t (Nat.le_refl _)
    omega
  · have := splitB_size _ _ _ _ hp
    omega
theorem text_zero : textL 0 = [45] := by decide +kernel
theorem parse_ne (t : ByteArray) (ht : t.size ≤ 100000) (h : t.data.toList ≠ [45]) : ∃ k, mask_Parse.f k t = some (fin t (goP (Lib.splitB ⟨#[44]⟩ 0 (Lib.countB t ⟨#[44]⟩) t) 0)) := by
  have hp := parts_small t ht
  obtain ⟨k, hk⟩ := l0_run t _ hp.1 hp.2 _ [] 0 rfl (by decide)
  refine ⟨k, ?_⟩
  unfold mask_Parse.f
  rw [ByteArray.toList_eq, if_neg h, split_f t ht]
  exact hk
theorem parse_dash (t : ByteArray) (h : t.data.toList = [45]) (k : Nat) : mask_Parse.f k t = some (0, 0) := by
  have h0 := text_f 0 (by decide)
  unfold mask_Parse.f
  rw [ByteArray.toList_eq, if_pos h]
  have : mask_Set_Text.f 0 = some (textB 0) := h0
  rw [this]
  simp only [Option.bind_some, textB_toList, text_zero, h, if_true]
/-- Each text is read: as a set whose text it is, or not at all. -/
theorem parse_ends (t : ByteArray) (ht : t.size ≤ 100000) : ∃ k v, mask_Parse.f k t = some v ∧ ((∃ s : Nat, s < U64 ∧ textL s = t.data.toList ∧ v = ((s : Int), 0)) ∨ v = (0, 5)) := by
  by_cases h : t.data.toList = [45]
  · exact ⟨0, _, parse_dash t h 0, .inl ⟨0, by decide, by rw [text_zero, h], rfl⟩⟩
  · obtain ⟨k, hk⟩ := parse_ne t ht h
    refine ⟨k, _, hk, ?_⟩
    cases hg : goP (Lib.splitB ⟨#[44]⟩ 0 (Lib.countB t ⟨#[44]⟩) t) 0 with
    | none => exact .inr rfl
    | some s =>
      unfold fin
      simp only
      split
      · rename_i he; exact .inl ⟨s, goP_lt _ _ _ (by decide) hg, he, rfl⟩
      · exact .inr rfl
theorem text_size (x : Nat) : (textL x).length ≤ 1000 := by
  unfold textL
  split
  · decide
  · have h := join_bound ((segs x (cores x)).map (·.data.toList)) [44] (fun y hy => by
      obtain ⟨b, hb, rfl⟩ := List.mem_map.1 hy
      exact segs_mem x b hb)
    have h2 := segs_cores_length x
    simp only [List.length_map, List.length_cons, List.length_nil] at h
    omega
theorem join_dash (ss : List (List UInt8)) (h : ∀ s ∈ ss, s ≠ [45] ∧ (44 : UInt8) ∉ s) : Lib.join ss [44] ≠ [45] := by
  cases ss with
  | nil => simp [Lib.join_nil]
  | cons x r =>
    cases r with
    | nil => rw [Lib.join_one]; exact (h x List.mem_cons_self).1
    | cons y r =>
      intro e
      have : (44 : UInt8) ∈ Lib.join (x :: y :: r) [44] := by rw [joined]; simp
      rw [e] at this
      simp at this
theorem segs_lists (x : Nat) : (segs x (cores x)).map (·.data.toList) = (starts x).map (segL x) := by
  unfold segs starts
  rw [List.map_map]
  apply List.map_congr_left
  intro c hc
  simp [segB]
theorem segs_back (x : Nat) : ((starts x).map (segL x)).map (fun l => (⟨l.toArray⟩ : ByteArray)) = segs x (cores x) := by
  unfold segs starts
  rw [List.map_map]
  apply List.map_congr_left
  intro c hc
  rfl
theorem starts_nil (x : Nat) (hx : x < U64) (h : starts x = []) : x = 0 := by
  apply set_ext hx (by decide)
  intro i hi
  rw [Nat.zero_testBit, Bool.eq_false_iff]
  intro hb
  obtain ⟨c, hc, _⟩ := in_run x i hi hb
  rw [h] at hc
  cases hc
theorem seg_good (x : Nat) : ∀ s ∈ (starts x).map (segL x), s ≠ [45] ∧ (44 : UInt8) ∉ s := by
  intro s hs
  obtain ⟨c, hc, rfl⟩ := List.mem_map.1 hs
  have := reads_ends (seg_reads x c (starts_has x c hc).1)
  exact ⟨this.2.2.2.2, this.2.2.2.1⟩
theorem textL_join (x : Nat) (hx : x < U64) (h : x ≠ 0) : textL x = Lib.join ((starts x).map (segL x)) [44] := by
  unfold textL
  rw [segs_lists, if_neg]
  intro e
  have := congrArg List.length e
  apply h
  apply starts_nil x hx
  have e2 := segs_back x
  rw [e] at e2
  simpa using e2
/-- A set's text is read as the set. -/
theorem parse_text (t : ByteArray) (s : Nat) (hs : s < U64) (ht : textL s = t.data.toList) : ∃ k, mask_Parse.f k t = some ((s : Int), 0) := by
  by_cases h0 : s = 0
  · subst h0
    exact ⟨0, parse_dash t (by rw [← ht, text_zero]) 0⟩
  · have hj := textL_join s hs h0
    have hd : t.data.toList ≠ [45] := by rw [← ht, hj]; exact join_dash _ (seg_good s)
    have hsz : t.size ≤ 100000 := by
      have := text_size s
      rw [ht] at this
      have e : t.size = t.data.toList.length := by simp
      omega
    obtain ⟨k, hk⟩ := parse_ne t hsz hd
    have hne : (starts s).map (segL s) ≠ [] := fun e => h0 (starts_nil s hs (List.map_eq_nil_iff.1 e))
    rw [splitB_join _ hne (fun l hl => (seg_good s l hl).2) t (by rw [← ht, hj]), segs_back, goP_text s hs] at hk
    refine ⟨k, ?_⟩
    rw [hk]
    unfold fin
    simp only
    rw [if_pos ht]
theorem parse_textB (s : Nat) (hs : s < U64) : ∃ k, mask_Parse.f k (textB s) = some ((s : Int), 0) := parse_text _ s hs (by simp [textB])
end Go.Proofs.YtgkmipfcadiobaaDoor.GM
