/- What the document's own functions (diapauseref03: Has, All, Of, Up, With, Nth, Same, Remap) compute, over the printed readings. -/
import Derived.Test.YtgkmipfcadiobaaDoorLawsA
import Derived.Test.YtgkmipfcadiobaaDoorGMx4
set_option linter.unusedVariables false
namespace Go.Proofs.YtgkmipfcadiobaaDoor.GM
open Go Go.RowKit Go.Proofs.YtgkmipfcadiobaaDoor Pl Go.Proofs.YtgkmipfcadiobaaDoorW.PrintWords Go.Proofs.YtgkmipfcadiobaaDoorW.PrintMore Given
theorem w64 {i : Nat} (h : i < 1000000000) : wrap64 ((i : Int) + 1) = ((i + 1 : Nat) : Int) := by unfold wrap64; omega
theorem has_loop (k : Nat) (c : Nat) (hc : c < 64) : ∀ (n i x : Nat), x < U64 → i + n = c → diapauseref03_Has.l0 (k + n + 1) (x : Int) (c : Int) (i : Int) = some (x.testBit n) := by
  intro n
  induction n with
  | zero =>
    intro i x hx h
    rw [diapauseref03_Has.l0, if_neg (by omega)]
    congr 1
    rw [Nat.testBit_zero, Bool.eq_iff_iff, beq_iff_eq, decide_eq_true_iff]
    have : Int.tmod (x : Int) 2 = ((x % 2 : Nat) : Int) := by rw [Int.tmod_eq_emod_of_nonneg (by omega)]; omega
    rw [this]; omega
  | succ n ih =>
    intro i x hx h
    have e : IntKind.u64.wrap (Int.tdiv (x : Int) 2) = ((x / 2 : Nat) : Int) := by
      rw [Int.tdiv_eq_ediv_of_nonneg (by omega), IntKind.wrap_u64]
      unfold U64 at hx
      omega
    rw [show k + (n + 1) + 1 = (k + n + 1) + 1 by omega, diapauseref03_Has.l0, if_pos (by omega), e, w64 (by omega), ih (i + 1) (x / 2) (by unfold U64 at *; omega) (by omega), Nat.testBit_succ]
theorem has_r (k : Nat) (hk : 66 ≤ k) (x : Nat) (hx : x < U64) (c : Int) : diapauseref03_Has.f k (x : Int) c = some (hasB x c) := by
  obtain ⟨j, rfl⟩ : ∃ j, k = j + 65 + 1 := ⟨k - 66, by omega⟩
  unfold diapauseref03_Has.f
  by_cases h : c < 0
  · rw [if_pos h, diapauseref03_Has.j0, if_pos rfl, hasB_out x c (.inl h)]
  · rw [if_neg h]
    obtain ⟨n, rfl⟩ := Int.eq_ofNat_of_zero_le (show 0 ≤ c by omega)
    by_cases h2 : (n : Int) > 63
    · rw [decide_eq_true h2, diapauseref03_Has.j0, if_pos rfl, hasB_out x _ (by omega)]
    · rw [decide_eq_false h2, diapauseref03_Has.j0, if_neg (by decide), hasB_nat x n (by omega)]
      have := has_loop (j + 64 - n) n (by omega) n 0 x hx (by omega)
      rw [show j + 64 - n + n + 1 = j + 65 by omega] at this
      exact this
def ofNs (l : List Nat) : List Int := l.map fun n : Nat => (n : Int)
theorem all_loop (k : Nat) (hk : 66 ≤ k) (x : Nat) (hx : x < U64) : ∀ (n c : Nat) (acc : List Int), c + n = 64 → acc.length ≤ c → diapauseref03_All.l0 (k + n + 1) (x : Int) acc (c : Int) = some (acc ++ ofNs ((List.range' c n).filter fun i => x.testBit i)) := by
  intro n
  induction n with
  | zero =>
    intro c acc h ha
    rw [diapauseref03_All.l0, if_neg (by omega)]
    simp [ofNs]
  | succ n ih =>
    intro c acc h ha
    rw [show k + (n + 1) + 1 = (k + n + 1) + 1 by omega, diapauseref03_All.l0, if_pos (by omega), has_r _ (by omega) x hx, hasB_nat x c (by omega), bs, w64 (by omega), List.range'_succ]
    cases hb : x.testBit c
    · rw [if_neg (by decide), ih (c + 1) acc (by omega) (by omega), List.filter_cons_of_neg (by simp [hb])]
    · rw [if_pos rfl, if_pos (by omega), ih (c + 1) (acc ++ [(c : Int)]) (by omega) (by simp; omega), List.filter_cons_of_pos (by simp [hb])]
      simp [ofNs]
theorem all_r (k : Nat) (hk : 140 ≤ k) (x : Nat) (hx : x < U64) : diapauseref03_All.f k (x : Int) = some (ofNs (cores x)) := by
  unfold diapauseref03_All.f
  have := all_loop (k - 65) (by omega) x hx 64 0 [] rfl (by simp)
  rw [show k - 65 + 64 + 1 = k by omega, List.nil_append] at this
  unfold cores
  rw [List.range_eq_range']
  exact this
theorem of_inner (l : List Int) (hl : l.length < 1000000000) (c : Int) (k : Nat) (v : Int) : ∀ (n i s : Nat), i + n = l.length → s < U64 →
    diapauseref03_Of.l0 k l ((if c ∈ l.drop i then s - s % 2 + 1 else s : Nat) : Int) (wrap64 (c - 1)) = some v → diapauseref03_Of.l1 (k + n + 1) l (s : Int) c (i : Int) = some v := by
  intro n
  induction n with
  | zero =>
    intro i s h hs hv
    rw [List.drop_eq_nil_of_le (by omega)] at hv
    rw [diapauseref03_Of.l1, if_neg (by omega)]
    simpa using hv
  | succ n ih =>
    intro i s h hs hv
    have hi : i < l.length := by omega
    rw [List.drop_eq_getElem_cons hi] at hv
    have hrd : rd l (i : Int) = l[i] := by unfold rd; rw [Int.toNat_natCast]; simp [List.getD, hi]
    rw [show k + (n + 1) + 1 = (k + n + 1) + 1 by omega, diapauseref03_Of.l1, if_pos (by omega), if_pos (by omega), hrd, w64 (by omega)]
    by_cases hc : l[i] = c
    · rw [if_pos hc]
      have e : IntKind.u64.wrap (IntKind.u64.wrap ((s : Int) - Int.tmod (s : Int) 2) + 1) = ((s - s % 2 + 1 : Nat) : Int) := by
        have : Int.tmod (s : Int) 2 = ((s % 2 : Nat) : Int) := by rw [Int.tmod_eq_emod_of_nonneg (by omega)]; omega
        rw [this, IntKind.wrap_u64, IntKind.wrap_u64]
        unfold U64 at hs
        omega
      rw [e]
      apply ih (i + 1) _ (by omega) (by unfold U64 at *; omega)
      rw [if_pos (by rw [hc]; exact List.mem_cons_self)] at hv
      have e2 : (if c ∈ l.drop (i + 1) then (s - s % 2 + 1) - (s - s % 2 + 1) % 2 + 1 else s - s % 2 + 1) = s - s % 2 + 1 := by split <;> omega
      rw [e2]
      exact hv
    · rw [if_neg hc]
      apply ih (i + 1) s (by omega) hs
      have e2 : (c ∈ l[i] :: l.drop (i + 1)) = (c ∈ l.drop (i + 1)) := by
        rw [List.mem_cons]
        exact propext ⟨fun h => h.resolve_left (fun e => hc e.symm), .inr⟩
      simp only [e2] at hv
      exact hv
def inL (l : List Int) (i : Nat) : Bool := decide ((i : Int) ∈ l)
theorem of_outer (l : List Int) (hl : l.length < 1000000000) (k : Nat) : ∀ (m s : Nat), m ≤ 64 → s < 2 ^ (64 - m) → (∀ j, s.testBit j = (decide (j < 64 - m) && inL l (m + j))) →
    ∃ K, diapauseref03_Of.l0 (k + K) l (s : Int) ((m : Int) - 1) = some ((setOf (inL l) : Nat) : Int) := by
  intro m
  induction m with
  | zero =>
    intro s hm hs ht
    refine ⟨1, ?_⟩
    rw [diapauseref03_Of.l0, if_neg (by omega)]
    congr 2
    apply set_ext hs (setOf_lt _)
    intro i hi
    rw [ht, setOf_test _ _ hi, Nat.zero_add, decide_eq_true (by omega), Bool.true_and]
  | succ m ih =>
    intro s hm hs ht
    have hp : 2 ^ (64 - m) = 2 * 2 ^ (64 - (m + 1)) := by rw [show 64 - m = (64 - (m + 1)) + 1 by omega, Nat.pow_succ]; omega
    have hp2 : 2 ^ (64 - m) ≤ U64 := by
      show 2 ^ (64 - m) ≤ 2 ^ 64
      exact Nat.pow_le_pow_right (by decide) (Nat.sub_le 64 m)
    obtain ⟨K, hK⟩ := ih (if ((m : Int)) ∈ l then 2 * s - 2 * s % 2 + 1 else 2 * s) (by omega) (by split <;> omega) (fun j => by
      cases j with
      | zero =>
        rw [Nat.testBit_zero, decide_eq_true (show 0 < 64 - m by omega), Bool.true_and, Nat.add_zero]
        unfold inL
        apply decide_eq_decide.2
        split
        · rename_i h; exact ⟨fun _ => h, fun _ => by omega⟩
        · rename_i h; exact ⟨fun _ => by omega, fun e => absurd e h⟩
      | succ j =>
        rw [Nat.testBit_succ]
        have : (if ((m : Int)) ∈ l then 2 * s - 2 * s % 2 + 1 else 2 * s) / 2 = s := by split <;> omega
        rw [this, ht, show m + 1 + j = m + (j + 1) by omega]
        congr 1
        apply decide_eq_decide.2
        omega)
    refine ⟨K + l.length + 1 + 1, ?_⟩
    have hw : IntKind.u64.wrap (2 * (s : Int)) = ((2 * s : Nat) : Int) := by
      rw [IntKind.wrap_u64]
      unfold U64 at hp2
      omega
    rw [show k + (K + l.length + 1 + 1) = ((k + K) + l.length + 1) + 1 by omega, diapauseref03_Of.l0, if_pos (by omega), hw]
    refine of_inner l hl _ (k + K) _ l.length 0 (2 * s) (by omega) (by omega) ?_
    rw [show ((m + 1 : Nat) : Int) - 1 = (m : Int) by omega, show wrap64 ((m : Int) - 1) = (m : Int) - 1 by unfold wrap64; omega, List.drop_zero]
    exact hK
theorem of_r (l : List Int) (hl : l.length < 1000000000) : Ev (fun k => diapauseref03_Of.f k l) ((setOf (inL l) : Nat) : Int) := by
  obtain ⟨K, hK⟩ := of_outer l hl 0 64 0 (by omega) (by decide) (fun j => by rw [Nat.zero_testBit, decide_eq_false (by omega)]; rfl)
  exact Ev.of (k := 0 + K) (diapauseref03_Of.mono l) hK
theorem of_r' (l : List Int) (hl : l.length < 1000000000) : ∃ K, ∀ k, K ≤ k → diapauseref03_Of.f k l = some ((setOf (inL l) : Nat) : Int) := of_r l hl
/-! Up, With, Nth, Same -/
theorem up_loop (n : Int) (k : Nat) (v : Int) (hv : diapauseref03_Of.f k (ofNs (List.range (upN n))) = some v) : ∀ (m c : Nat), c + m = upN n → diapauseref03_Up.l0 (k + m + 1) n (ofNs (List.range c)) (c : Int) = some v := by
  intro m
  have hu : upN n ≤ 64 := upN_le n
  have hd : (upN n : Int) = max 0 (min n 64) := by unfold upN; omega
  induction m with
  | zero =>
    intro c h
    obtain rfl : c = upN n := by omega
    rw [Nat.add_zero, diapauseref03_Up.l0]
    by_cases h1 : (upN n : Int) < n
    · rw [if_pos h1, if_neg (by omega), hv]; rfl
    · rw [if_neg h1, hv]; rfl
  | succ m ih =>
    intro c h
    rw [show k + (m + 1) + 1 = (k + m + 1) + 1 by omega, diapauseref03_Up.l0, if_pos (by omega), if_pos (by omega), if_pos (by simp [ofNs]; omega), w64 (by omega)]
    have := ih (c + 1) (by omega)
    rw [List.range_succ] at this
    simpa [ofNs] using this
theorem inL_ofNs (l : List Nat) (i : Nat) : inL (ofNs l) i = decide (i ∈ l) := by
  unfold inL ofNs
  apply decide_eq_decide.2
  constructor
  · intro h
    obtain ⟨a, ha, e⟩ := List.mem_map.1 h
    obtain rfl : a = i := by omega
    exact ha
  · intro h
    exact List.mem_map.2 ⟨i, h, rfl⟩
theorem up_r (n : Int) : ∃ K, ∀ k, K ≤ k → diapauseref03_Up.f k n = some ((upS n : Nat) : Int) := by
  have hu : upN n ≤ 64 := upN_le n
  obtain ⟨K, hK⟩ := of_r' (ofNs (List.range (upN n))) (by simp [ofNs]; omega)
  have e : setOf (inL (ofNs (List.range (upN n)))) = upS n := by
    apply set_ext (setOf_lt _) (upS_lt n)
    intro i hi
    rw [setOf_test _ _ hi, upS_test n i hi, inL_ofNs]
    apply decide_eq_decide.2
    rw [List.mem_range]
    unfold upN
    omega
  rw [e] at hK
  refine ⟨K + upN n + 1, fun k hk => ?_⟩
  have := up_loop n (k - upN n - 1) _ (hK _ (by omega)) (upN n) 0 (by omega)
  rw [show k - upN n - 1 + upN n + 1 = k by omega] at this
  exact this
theorem with_loop (c : Int) (is : Bool) (k : Nat) (v : Int) (all : List Int) (hall : all.length ≤ 64) (hv : diapauseref03_Of.f k (all.filter (fun a => decide (a ≠ c)) ++ if is = true then [c] else []) = some v) :
    ∀ (suf pre : List Int), all = pre ++ suf → diapauseref03_With.l0 (k + suf.length + 1) c is (pre.filter fun a => decide (a ≠ c)) all (pre.length : Int) = some v := by
  intro suf
  induction suf with
  | nil =>
    intro pre h
    rw [List.append_nil] at h
    have hf := List.length_filter_le (fun a => decide (a ≠ c)) pre
    rw [List.length_nil, Nat.add_zero, diapauseref03_With.l0, if_neg (by rw [h]; omega)]
    cases is
    · rw [if_neg (by decide)]
      rw [if_neg (by decide), List.append_nil, h] at hv
      rw [hv]; rfl
    · rw [if_pos rfl, if_pos (by rw [h] at hall; omega)]
      rw [if_pos rfl, h] at hv
      rw [hv]; rfl
  | cons a suf ih =>
    intro pre h
    have hlen : all.length = pre.length + (suf.length + 1) := by rw [h]; simp
    have hf := List.length_filter_le (fun a => decide (a ≠ c)) pre
    have hrd : rd all (pre.length : Int) = a := by unfold rd; rw [Int.toNat_natCast, h]; simp [List.getD]
    have := ih (pre ++ [a]) (by rw [h]; simp)
    rw [List.length_append, List.length_singleton, List.filter_append] at this
    rw [List.length_cons, show k + (suf.length + 1) + 1 = (k + suf.length + 1) + 1 by omega, diapauseref03_With.l0, if_pos (by omega), if_pos (by omega), hrd, w64 (by omega)]
    by_cases hc : a = c
    · rw [if_pos hc]
      rw [List.filter_cons_of_neg (by simp [hc])] at this
      simpa using this
    · rw [if_neg hc, if_pos (by omega)]
      rw [List.filter_cons_of_pos (by simp [hc])] at this
      simpa using this
theorem ofNs_length (l : List Nat) : (ofNs l).length = l.length := by simp [ofNs]
theorem with_r (x : Nat) (hx : x < U64) (c : Int) (is : Bool) : ∃ K, ∀ k, K ≤ k → diapauseref03_With.f k (x : Int) c is = some (((if is = true then x ||| bitN c else andN x (bitN c) : Nat)) : Int) := by
  have hl := cores_length x
  have hf := List.length_filter_le (fun a => decide (a ≠ c)) (ofNs (cores x))
  rw [ofNs_length] at hf
  obtain ⟨K, hK⟩ := of_r' ((ofNs (cores x)).filter (fun a => decide (a ≠ c)) ++ if is = true then [c] else []) (by rw [List.length_append]; split <;> simp only [List.length_cons, List.length_nil] <;> omega)
  have e : setOf (inL ((ofNs (cores x)).filter (fun a => decide (a ≠ c)) ++ if is = true then [c] else [])) = if is = true then x ||| bitN c else andN x (bitN c) := by
    have hin : ∀ i : Nat, i < 64 → (((i : Int) ∈ ofNs (cores x)) ↔ x.testBit i = true) := fun i hi => by
      have := inL_ofNs (cores x) i
      unfold inL at this
      have h2 := decide_eq_decide.1 this
      rw [h2, mem_cores]
      exact ⟨fun h => h.2, fun h => ⟨hi, h⟩⟩
    cases is
    · rw [if_neg (by decide), if_neg (by decide), List.append_nil]
      apply set_ext (setOf_lt _) (andN_lt _ hx)
      intro i hi
      rw [setOf_test _ _ hi, andN_test, bitN_test _ _ hi]
      unfold inL
      rw [Bool.eq_iff_iff, decide_eq_true_iff, List.mem_filter, hin i hi, Bool.and_eq_true, Bool.not_eq_true', decide_eq_true_iff, decide_eq_false_iff_not]
      exact ⟨fun h => ⟨h.1, fun e => h.2 e.symm⟩, fun h => ⟨h.1, fun e => h.2 e.symm⟩⟩
    · rw [if_pos rfl, if_pos rfl]
      apply set_ext (setOf_lt _) (or_lt hx (bitN_lt _))
      intro i hi
      rw [setOf_test _ _ hi, Nat.testBit_or, bitN_test _ _ hi]
      unfold inL
      rw [Bool.eq_iff_iff, decide_eq_true_iff, List.mem_append, List.mem_filter, hin i hi, Bool.or_eq_true, decide_eq_true_iff, decide_eq_true_iff, List.mem_singleton]
      constructor
      · rintro (h | h)
        · exact .inl h.1
        · exact .inr h.symm
      · rintro (h | h)
        · by_cases e : (i : Int) = c
          · exact .inr e
          · exact .inl ⟨h, e⟩
        · exact .inr h.symm
  rw [e] at hK
  refine ⟨K + 200 + (cores x).length, fun k hk => ?_⟩
  unfold diapauseref03_With.f
  rw [all_r k (by omega) x hx, bs]
  have := with_loop c is (k - (cores x).length - 1) _ (ofNs (cores x)) (by rw [ofNs_length]; omega) (hK _ (by omega)) (ofNs (cores x)) [] rfl
  rw [ofNs_length, show k - (cores x).length - 1 + (cores x).length + 1 = k by omega] at this
  exact this
theorem nth_r (k : Nat) (hk : 140 ≤ k) (x : Nat) (hx : x < U64) (i : Int) : diapauseref03_Nth.f k (x : Int) i = some (nthOf x i) := by
  unfold diapauseref03_Nth.f
  rw [all_r k hk x hx, bs, ofNs_length]
  by_cases h : i < 0
  · rw [if_pos h, nthOf_past x i (.inl h)]
  · rw [if_neg h]
    by_cases h2 : i ≥ ((cores x).length : Int)
    · rw [if_pos h2, nthOf_past x i (.inr h2)]
    · rw [if_neg h2, if_pos (by omega), if_pos (by omega)]
      unfold nthOf rd ofNs
      rw [if_pos (by omega)]
      obtain ⟨j, rfl⟩ := Int.eq_ofNat_of_zero_le (show 0 ≤ i by omega)
      rw [Int.toNat_natCast]
      have : j < (cores x).length := by omega
      simp [List.getD, this]
theorem same_loop (l : List Int) (hl : l.length < 1000000000) (k : Nat) : ∀ (n i : Nat), i + n = l.length → diapauseref03_Same.l0 (k + n + 1) l l (i : Int) = some true := by
  intro n
  induction n with
  | zero => intro i h; rw [diapauseref03_Same.l0, if_neg (by omega)]
  | succ n ih =>
    intro i h
    rw [show k + (n + 1) + 1 = (k + n + 1) + 1 by omega, diapauseref03_Same.l0, if_pos (by omega), if_pos (by omega), if_pos (by omega), if_pos rfl, w64 (by omega)]
    exact ih (i + 1) (by omega)
theorem same_r (l : List Int) (hl : l.length < 1000000000) (k : Nat) (hk : l.length + 1 ≤ k) : diapauseref03_Same.f k l l = some true := by
  unfold diapauseref03_Same.f
  rw [if_pos rfl]
  have := same_loop l hl (k - l.length - 1) l.length 0 (by omega)
  rw [show k - l.length - 1 + l.length + 1 = k by omega] at this
  exact this
end Go.Proofs.YtgkmipfcadiobaaDoor.GM
