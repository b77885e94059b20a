/- Plain laws of sets of cores over the printed readings: MaskUps, MaskRanks, MaskPairs, MaskMoves, MaskBack. -/
import Derived.Test.YtgkmipfcadiobaaDoorParseP
import Derived.Test.YtgkmipfcadiobaaDoorGMx3
set_option linter.unusedVariables false
namespace Go.Proofs.YtgkmipfcadiobaaDoor.GM
open Go Go.RowKit Go.Proofs.YtgkmipfcadiobaaDoor Pl Go.Proofs.YtgkmipfcadiobaaDoorW.PrintWords Go.Proofs.YtgkmipfcadiobaaDoorW.PrintMore Given
/-- No 'rfl' lemma: the kernel is not to compare what the two sides compute. -/
theorem bs {α β : Type} (a : α) (f : α → Option β) : (some a).bind f = f a := Eq.trans (Option.bind_some a f) (Eq.refl (f a))
theorem bnd_u64 {n : Int} (h : (Lit.int .u64 n).wf = true) : ∃ x : Nat, n = x ∧ x < U64 := by
  simp [Lit.wf, IntKind.min, IntKind.max, IntKind.signed, IntKind.bits] at h
  exact ⟨n.toNat, by omega, by unfold U64; omega⟩
theorem bnd_i64 {n : Int} (h : (Lit.int .i64 n).wf = true) : -9223372036854775808 ≤ n ∧ n ≤ 9223372036854775807 := by
  simp [Lit.wf, IntKind.min, IntKind.max, IntKind.signed, IntKind.bits] at h
  omega
theorem parse_ev {t : ByteArray} {v : Int × Int} (h : ∃ k, mask_Parse.f k t = some v) : ∃ K, ∀ k, K ≤ k → mask_Parse.f k t = some v := by
  obtain ⟨k, h⟩ := h
  exact Ev.of (mask_Parse.mono t) h
def exS : Nat := 9223372036854775847
theorem exT : textL exS = [48, 45, 50, 44, 53, 44, 54, 51] := by
  rw [textL_join exS (by decide) (by decide), show starts exS = [0, 5, 63] by decide +kernel]
  simp only [List.map_cons, List.map_nil]
  unfold segL
  rw [show runLen exS 0 = 3 by decide +kernel, show runLen exS 5 = 1 by decide +kernel, show runLen exS 63 = 1 by decide +kernel]
  rw [dd_eq 0 (by decide), dd_eq 5 (by decide), dd_eq 63 (by decide), dd_eq (0 + 3 - 1) (by decide)]
  decide +kernel
theorem awake_ev : Ev diapauselaw03_awake.f true := by
  obtain ⟨K, hK⟩ := parse_ev (parse_text (⟨#[48, 45, 50, 44, 53, 44, 54, 51]⟩ : ByteArray) exS (by decide) exT)
  refine ⟨K, fun k hk => ?_⟩
  unfold diapauselaw03_awake.f
  rw [up_f]
  simp only [bs]
  rw [show upS 3 = 7 by decide +kernel, with_f 7 (by decide)]
  simp only [bs]
  rw [show 7 ||| bitN 5 = 39 by decide +kernel, with_f 39 (by decide)]
  simp only [bs]
  rw [show 39 ||| bitN 63 = exS by decide +kernel, hK k hk, text_f exS (by decide)]
  simp only [bs]
  rw [textB_toList, exT, if_pos rfl]
  simp only [if_true]
  rw [len_f exS (by decide)]
  rw [show (cores exS).length = 5 by decide +kernel]
  rfl
theorem upS_len (n : Int) : (cores (upS n)).length = upN n := by
  have : ∀ m, m ≤ 64 → (cores (2 ^ m - 1)).length = m := by decide +kernel
  exact this _ (upN_le n)
theorem maskUps_pure : diapauselaw03_MaskUps.Pure := by
  intro a b ha hb
  obtain ⟨K, hK⟩ := awake_ev
  refine ⟨K, ?_⟩
  unfold diapauselaw03_MaskUps.f
  rw [hK K (Nat.le_refl _), up_f, up_f, up_f, up_f]
  simp only [bs, if_true]
  rw [bits_and_u64_nat _ _ (upS_lt a) (upS_lt b), bits_or_u64_nat _ _ (upS_lt a) (upS_lt b)]
  have e1 : upS a &&& upS b = upS (mn a b) := by
    apply set_ext (and_lt _ (upS_lt a)) (upS_lt _)
    intro i hi
    rw [Nat.testBit_and, upS_test _ _ hi, upS_test _ _ hi, upS_test _ _ hi, Bool.eq_iff_iff, Bool.and_eq_true, decide_eq_true_iff, decide_eq_true_iff, decide_eq_true_iff]
    unfold mn
    split <;> omega
  have e2 : upS a ||| upS b = upS (mx a b) := by
    apply set_ext (or_lt (upS_lt a) (upS_lt b)) (upS_lt _)
    intro i hi
    rw [Nat.testBit_or, upS_test _ _ hi, upS_test _ _ hi, upS_test _ _ hi, Bool.eq_iff_iff, Bool.or_eq_true, decide_eq_true_iff, decide_eq_true_iff, decide_eq_true_iff]
    unfold mx
    split <;> omega
  rw [e1, if_pos rfl, e2, if_pos rfl, len_f _ (upS_lt a), upS_len]
  simp only [bs]
  rw [mxn]
  simp
/-! MaskRanks -/
theorem nth_f (x : Nat) (hx : x < U64) (k : Int) : mask_Set_Nth.f (x : Int) k = some (nthOf x k) := by
  unfold mask_Set_Nth.f
  rw [if_pos (by unfold U64 at hx; omega)]
  rfl
theorem nthOf_at (x : Nat) (pre suf : List Nat) (c : Nat) (h : cores x = pre ++ c :: suf) : nthOf x (pre.length : Int) = (c : Int) := by
  unfold nthOf
  rw [h, if_pos (by simp; omega), Int.toNat_natCast]
  simp [List.getD]
theorem nthOf_past (x : Nat) (k : Int) (h : k < 0 ∨ ((cores x).length : Int) ≤ k) : nthOf x k = -1 := by
  unfold nthOf
  rw [if_neg (by omega)]
theorem cores_sorted (x : Nat) : (cores x).Pairwise (· < ·) := List.Pairwise.filter _ List.pairwise_lt_range
theorem ranks_loop (k : Nat) (x : Nat) (hx : x < U64) (n : Int) (hn : n = (cores x).length) : ∀ (suf pre : List Nat) (last : Int) (built : Nat), cores x = pre ++ suf → last < 64 → (∀ c ∈ suf, last < (c : Int)) → built < U64 → (∀ i, i < 64 → built.testBit i = decide (i ∈ pre)) →
    diapauselaw03_MaskRanks.l0 (k + suf.length + 1) true (x : Int) last n (built : Int) (pre.length : Int) = some true := by
  intro suf
  induction suf with
  | nil =>
    intro pre last built hp hl hs hb ht
    rw [List.append_nil] at hp
    have e : built = x := by
      apply set_ext hb hx
      intro i hi
      rw [ht i hi, ← hp, Bool.eq_iff_iff, decide_eq_true_iff, mem_cores]
      exact ⟨fun h => h.2, fun h => ⟨hi, h⟩⟩
    have e2 : n = (pre.length : Int) := by rw [hn, hp]
    rw [e, diapauselaw03_MaskRanks.l0, if_neg (by omega), if_pos rfl, if_pos rfl, nth_f x hx, nthOf_past x n (by omega)]
    simp only [bs, if_true]
    rw [nth_f x hx, nthOf_past x (-1) (by omega)]
    simp only [bs, if_true]
    unfold mask_Set_First.f
    rw [nth_f x hx]
    simp only [bs]
    by_cases h0 : n = 0
    · rw [nthOf_past x 0 (by omega), h0]; rfl
    · have : ∃ c r, cores x = [] ++ c :: r := by
        cases hc : cores x with
        | nil => rw [hc] at hn; exact absurd hn h0
        | cons c r => exact ⟨c, r, rfl⟩
      obtain ⟨c, r, hc⟩ := this
      have := nthOf_at x [] r c hc
      rw [List.length_nil] at this
      rw [show ((0 : Nat) : Int) = 0 from rfl] at this
      rw [this]
      have g1 : ((c : Int) == -1) = false := by rw [beq_eq_false_iff_ne]; omega
      have g2 : (n == 0) = false := by rw [beq_eq_false_iff_ne]; exact h0
      rw [g1, g2]; rfl
  | cons c suf ih =>
    intro pre last built hp hl hs hb ht
    have hc : c ∈ cores x := by rw [hp]; simp
    have hm := mem_cores.1 hc
    have hlen := cores_length x
    have hpl : (pre.length : Int) < n := by rw [hn, hp]; simp; omega
    have hsort := cores_sorted x
    rw [hp, List.pairwise_append] at hsort
    have hlt := hs c List.mem_cons_self
    have hw : wrap64 ((pre.length : Int) + 1) = ((pre ++ [c]).length : Int) := by
      rw [List.length_append, List.length_singleton]; unfold wrap64; omega
    rw [show k + (c :: suf).length + 1 = (k + suf.length + 1) + 1 from rfl, diapauselaw03_MaskRanks.l0, if_pos hpl, nth_f x hx, nthOf_at x pre suf c hp]
    simp only [bs]
    rw [if_neg (by omega), has_f x hx, hasB_nat x c hm.1, hm.2]
    simp only [bs, if_true]
    rw [with_f built hb]
    simp only [bs]
    rw [hw]
    refine ih (pre ++ [c]) (c : Int) (built ||| bitN c) (by rw [hp]; simp) (by omega) ?_ (or_lt hb (bitN_lt _)) ?_
    · intro d hd
      have := (List.pairwise_cons.1 hsort.2.1).1 d hd
      omega
    · intro i hi
      rw [Nat.testBit_or, ht i hi, bitN_test _ _ hi, Bool.eq_iff_iff, Bool.or_eq_true, decide_eq_true_iff, decide_eq_true_iff, decide_eq_true_iff, List.mem_append, List.mem_singleton]
      constructor
      · rintro (h | h)
        · exact .inl h
        · right; omega
      · rintro (h | h)
        · exact .inl h
        · right; omega
theorem maskRanks_pure : diapauselaw03_MaskRanks.Pure := by
  intro a ha
  obtain ⟨x, rfl, hx⟩ := bnd_u64 ha
  obtain ⟨K, hK⟩ := awake_ev
  have hl := cores_length x
  have h0 := ranks_loop K x hx ((cores x).length : Int) rfl (cores x) [] (-1) 0 rfl (by decide) (fun c _ => by omega) (by decide) (fun i _ => by simp)
  refine ⟨K + (cores x).length + 2, ?_⟩
  unfold diapauselaw03_MaskRanks.f
  rw [hK _ (by omega), len_f x hx]
  simp only [bs]
  rw [if_neg (by omega), decide_eq_false (by omega), show K + (cores x).length + 2 = (K + (cores x).length + 1) + 1 from rfl, diapauselaw03_MaskRanks.j0, if_neg (by decide)]
  exact h0
/-! MaskPairs -/
theorem hasB_or (x : Nat) (a c : Int) : hasB (x ||| bitN a) c = (hasB x c || (decide (0 ≤ a ∧ a < 64) && decide (a = c))) := by
  by_cases h : 0 ≤ c ∧ c < 64
  · obtain ⟨j, rfl⟩ := Int.eq_ofNat_of_zero_le h.1
    rw [hasB_nat _ j (by omega), hasB_nat _ j (by omega), Nat.testBit_or, bitN_test _ _ (by omega)]
    congr 1
    rw [Bool.eq_iff_iff, Bool.and_eq_true]
    simp only [decide_eq_true_iff]
    omega
  · rw [hasB_out _ c (by omega), hasB_out _ c (by omega), Bool.false_or]
    symm
    rw [Bool.and_eq_false_iff, decide_eq_false_iff_not, decide_eq_false_iff_not]
    omega
theorem hasB_andN (x : Nat) (a c : Int) : hasB (andN x (bitN a)) c = (hasB x c && !decide (a = c)) := by
  by_cases h : 0 ≤ c ∧ c < 64
  · obtain ⟨j, rfl⟩ := Int.eq_ofNat_of_zero_le h.1
    rw [hasB_nat _ j (by omega), hasB_nat _ j (by omega), andN_test, bitN_test _ _ (by omega)]
  · rw [hasB_out _ c (by omega), hasB_out _ c (by omega), Bool.false_and]
theorem count_one_more (p q : Nat → Bool) (c : Nat) (hp : p c = true) (hq : q c = false) (h : ∀ i, i ≠ c → p i = q i) : ∀ n, ((List.range n).filter p).length = ((List.range n).filter q).length + (if c < n then 1 else 0)
  | 0 => by simp
  | n + 1 => by
    have ih := count_one_more p q c hp hq h n
    rw [List.range_succ, List.filter_append, List.filter_append, List.length_append, List.length_append, ih]
    by_cases hc : n = c
    · subst hc
      simp [hp, hq]
    · have e : [n].filter p = [n].filter q := List.filter_congr (fun a ha => by rw [List.mem_singleton.1 ha]; exact h n hc)
      rw [e]
      by_cases h2 : c < n
      · rw [if_pos h2, if_pos (by omega)]; omega
      · rw [if_neg h2, if_neg (by omega)]; omega
theorem len_pair (x : Nat) (a : Int) : (cores (x ||| bitN a)).length = (cores (andN x (bitN a))).length + (if 0 ≤ a ∧ a < 64 then 1 else 0) := by
  by_cases h : 0 ≤ a ∧ a < 64
  · obtain ⟨j, rfl⟩ := Int.eq_ofNat_of_zero_le h.1
    have hj : j < 64 := by omega
    have := count_one_more (fun i => (x ||| bitN (j : Int)).testBit i) (fun i => (andN x (bitN (j : Int))).testBit i) j
      (by rw [Nat.testBit_or, bitN_test _ _ hj]; simp) (by rw [andN_test, bitN_test _ _ hj]; simp)
      (fun i hi => by
        rw [Nat.testBit_or, andN_test]
        have : (bitN (j : Int)).testBit i = false := by
          unfold bitN
          rw [if_pos h, Int.toNat_natCast, Nat.testBit_two_pow]
          exact decide_eq_false (fun e => hi e.symm)
        rw [this]; simp) 64
    rw [if_pos hj] at this
    rw [if_pos h]
    exact this
  · have e : bitN a = 0 := by unfold bitN; rw [if_neg h]
    rw [if_neg h, e]
    have : andN x 0 = x := by unfold andN; simp
    rw [this, Nat.or_zero]; rfl
theorem maskPairs_pure : diapauselaw03_MaskPairs.Pure := by
  intro s a b hs ha hb
  obtain ⟨x, rfl, hx⟩ := bnd_u64 hs
  obtain ⟨K, hK⟩ := awake_ev
  refine ⟨K + 3, ?_⟩
  have hw := or_lt hx (bitN_lt a)
  have ho := andN_lt (bitN a) hx
  have hb' := or_lt hx (bitN_lt b)
  have hab := or_lt hw (bitN_lt b)
  have hba := or_lt hb' (bitN_lt a)
  have e1 : (x ||| bitN a) ||| bitN a = x ||| bitN a := by
    apply Nat.eq_of_testBit_eq; intro i; simp only [Nat.testBit_or]; cases x.testBit i <;> cases (bitN a).testBit i <;> rfl
  have e2 : andN (andN x (bitN a)) (bitN a) = andN x (bitN a) := by
    apply Nat.eq_of_testBit_eq; intro i; simp only [andN_test]; cases x.testBit i <;> cases (bitN a).testBit i <;> rfl
  have e3 : andN x (bitN a) ||| bitN a = x ||| bitN a := by
    apply Nat.eq_of_testBit_eq; intro i; simp only [Nat.testBit_or, andN_test]; cases x.testBit i <;> cases (bitN a).testBit i <;> rfl
  have e4 : andN (x ||| bitN a) (bitN a) = andN x (bitN a) := by
    apply Nat.eq_of_testBit_eq; intro i; simp only [Nat.testBit_or, andN_test]; cases x.testBit i <;> cases (bitN a).testBit i <;> rfl
  have e5 : (x ||| bitN a) ||| bitN b = (x ||| bitN b) ||| bitN a := by
    apply Nat.eq_of_testBit_eq; intro i; simp only [Nat.testBit_or]; cases x.testBit i <;> cases (bitN a).testBit i <;> cases (bitN b).testBit i <;> rfl
  have h1 : hasB (x ||| bitN a) a = decide (0 ≤ a ∧ a < 64) := by
    rw [hasB_or]
    by_cases h : 0 ≤ a ∧ a < 64
    · rw [decide_eq_true h]; simp
    · rw [decide_eq_false h, hasB_out x a (by omega)]; rfl
  have h2 : hasB (andN x (bitN a)) a = false := by rw [hasB_andN]; simp
  have hl := len_pair x a
  have l1 := cores_length (x ||| bitN a)
  have l2 := cores_length (andN x (bitN a))
  have last : diapauselaw03_MaskPairs.j2 (K + 1) a b true (x : Int) ((x ||| bitN a : Nat) : Int) ((andN x (bitN a) : Nat) : Int) (decide (0 ≤ a ∧ a < 64)) false = some true := by
    rw [diapauselaw03_MaskPairs.j2, if_neg (by decide), if_pos rfl, with_f x hx]
    simp only [bs]
    rw [with_f _ hw, with_f x hx]
    simp only [bs]
    rw [with_f _ hb']
    simp only [bs]
    rw [e5]
    simp only [if_true]
    rw [len_f _ hw, len_f _ ho]
    simp only [bs]
    have hwr : wrap64 (((cores (x ||| bitN a)).length : Int) - ((cores (andN x (bitN a))).length : Int)) = if 0 ≤ a ∧ a < 64 then 1 else 0 := by
      unfold wrap64
      split
      · rename_i h; rw [if_pos h] at hl; omega
      · rename_i h; rw [if_neg h] at hl; omega
    rw [hwr]
    by_cases h : 0 ≤ a ∧ a < 64
    · rw [if_pos h, if_pos (by omega), decide_eq_true h]; rfl
    · rw [if_neg h, if_pos (by omega), decide_eq_false h]; rfl
  have mid : diapauselaw03_MaskPairs.j1 (K + 2) a b true (x : Int) ((x ||| bitN a : Nat) : Int) ((andN x (bitN a) : Nat) : Int) (decide (0 ≤ a ∧ a < 64)) false = some true := by
    rw [diapauselaw03_MaskPairs.j1, if_neg (by decide)]
    by_cases h : a = b
    · rw [if_pos h]; exact last
    · rw [if_neg h, has_f _ hw, has_f _ hx, hasB_or]
      simp only [bs]
      rw [decide_eq_false h, Bool.and_false, Bool.or_false, if_neg (by simp), has_f _ ho, hasB_andN, decide_eq_false h]
      simp only [bs]
      rw [show (hasB x b && !false) = hasB x b by simp, show (hasB x b != hasB x b) = false by simp]
      exact last
  have first : diapauselaw03_MaskPairs.j0 (K + 3) a b true (x : Int) ((x ||| bitN a : Nat) : Int) ((andN x (bitN a) : Nat) : Int) (decide (0 ≤ a ∧ a < 64)) = some true := by
    rw [diapauselaw03_MaskPairs.j0, has_f _ hw, h1]
    simp only [bs]
    rw [if_neg (by simp), has_f _ ho, h2]
    simp only [bs]
    rw [if_neg (by decide), with_f _ hw, e1]
    simp only [bs, if_true]
    rw [without_f _ ho, e2]
    simp only [bs, if_true]
    rw [with_f _ ho, e3]
    simp only [bs, if_true]
    rw [without_f _ hw, e4]
    simp only [bs]
    rw [bne_self_eq_false]
    exact mid
  unfold diapauselaw03_MaskPairs.f
  rw [hK _ (by omega), with_f x hx, without_f x hx]
  simp only [bs]
  by_cases h : a ≥ 0
  · rw [if_pos h]
    have : decide (a < 64) = decide (0 ≤ a ∧ a < 64) := decide_eq_decide.2 (by omega)
    rw [this]; exact first
  · rw [if_neg h]
    have : false = decide (0 ≤ a ∧ a < 64) := by symm; exact decide_eq_false (by omega)
    rw [this]; exact first
/-! MaskBack -/
theorem maskBack_pure : diapauselaw03_MaskBack.Pure := by
  intro s t hs ht
  obtain ⟨x, rfl, hx⟩ := bnd_u64 hs
  obtain ⟨K, hK⟩ := awake_ev
  by_cases hsz : (t.size : Int) > 200
  · refine ⟨K, ?_⟩
    unfold diapauselaw03_MaskBack.f
    rw [hK _ (by omega)]
    simp only [bs]
    rw [if_pos hsz]
  · obtain ⟨K1, hK1⟩ := parse_ev (parse_textB x hx)
    obtain ⟨k, v, hp, hv⟩ := parse_ends t (by omega)
    obtain ⟨K2, hK2⟩ := parse_ev ⟨k, hp⟩
    refine ⟨K + K1 + K2, ?_⟩
    unfold diapauselaw03_MaskBack.f
    rw [hK _ (by omega)]
    simp only [bs]
    rw [if_neg hsz, text_f x hx]
    simp only [bs]
    rw [hK1 _ (by omega), hK2 _ (by omega)]
    simp only [bs, if_true]
    rcases hv with ⟨y, hy, hty, rfl⟩ | rfl
    · simp only [if_true]
      rw [text_f y hy]
      simp only [bs]
      rw [textB_toList, ByteArray.toList_eq, if_pos hty]
    · rfl
/-! MaskMoves -/
theorem remap_f (s o : Nat) (hs : s < U64) (ho : o < U64) (op : Bool) : mask_Remap.f (s : Int) (o : Int) op = if s &&& o = 0 then (if op = true ∧ o ≠ 0 then some ((o : Int), 0) else some (0, 13)) else some (((s &&& o : Nat) : Int), 0) := by
  unfold mask_Remap.f
  rw [bits_and_u64_nat s o hs ho]
  by_cases h : s &&& o = 0
  · rw [if_pos (by rw [h]; rfl), if_pos h]
    cases op
    · rw [if_neg (by decide), if_neg (by simp)]
    · rw [if_pos rfl]
      by_cases h2 : o = 0
      · rw [if_pos (by rw [h2]; rfl), if_neg (by simp [h2])]
      · rw [if_neg (by omega), if_pos ⟨rfl, h2⟩]
  · rw [if_neg (by omega), if_neg h]
theorem moves_loop (k : Nat) (s o y : Nat) (hs : s < U64) (ho : o < U64) (hy : y < U64) (op : Bool) (e : Int) (v : Bool)
    (h1 : ∀ i, i < 64 → y.testBit i = true → o.testBit i = true) (h2 : ∀ i, i < 64 → s.testBit i = true → o.testBit i = true → y.testBit i = true)
    (hend : ∀ i : Nat, diapauselaw03_MaskMoves.l0 (k + 1) (s : Int) (o : Int) op true (y : Int) e (decide (s &&& o ≠ 0)) 64 = some v) : ∀ (n i : Nat) (m : Bool), i + n = 64 → m = decide (∃ j, j < i ∧ s.testBit j = true ∧ o.testBit j = true) →
    diapauselaw03_MaskMoves.l0 (k + n + 1) (s : Int) (o : Int) op true (y : Int) e m (i : Int) = some v
  | 0, i, m, hi, hm => by
    obtain rfl : i = 64 := by omega
    have : m = decide (s &&& o ≠ 0) := by
      rw [hm]
      apply decide_eq_decide.2
      constructor
      · rintro ⟨j, hj, g1, g2⟩ e0
        have : (s &&& o).testBit j = true := by rw [Nat.testBit_and, g1, g2]; rfl
        rw [e0, Nat.zero_testBit] at this
        cases this
      · intro hne
        apply Classical.byContradiction
        intro hno
        apply hne
        apply set_ext (and_lt o hs) (by decide)
        intro i hi
        rw [Nat.testBit_and, Nat.zero_testBit, Bool.and_eq_false_iff]
        cases g1 : s.testBit i
        · exact .inl rfl
        · right
          cases g2 : o.testBit i
          · rfl
          · exact absurd ⟨i, hi, g1, g2⟩ hno
    rw [this]
    exact hend 0
  | n + 1, i, m, hi, hm => by
    have hi64 : i < 64 := by omega
    have hw : wrap64 ((i : Int) + 1) = ((i + 1 : Nat) : Int) := by unfold wrap64; omega
    have ih := fun m' h => moves_loop k s o y hs ho hy op e v h1 h2 hend n (i + 1) m' (by omega) h
    have hstep : (decide (∃ j, j < i + 1 ∧ s.testBit j = true ∧ o.testBit j = true)) = (m || (s.testBit i && o.testBit i)) := by
      rw [hm, Bool.eq_iff_iff, Bool.or_eq_true, Bool.and_eq_true, decide_eq_true_iff, decide_eq_true_iff]
      constructor
      · rintro ⟨j, hj, g⟩
        by_cases hji : j = i
        · subst hji; exact .inr g
        · exact .inl ⟨j, by omega, g⟩
      · rintro (⟨j, hj, g⟩ | g)
        · exact ⟨j, by omega, g⟩
        · exact ⟨i, by omega, g⟩
    have ih' := ih _ rfl
    rw [hstep] at ih'
    rw [show k + (n + 1) + 1 = (k + n + 1) + 1 by omega, diapauselaw03_MaskMoves.l0, if_pos (by omega), has_f y hy, has_f s hs, has_f o ho, hasB_nat y i hi64, hasB_nat s i hi64, hasB_nat o i hi64, hw]
    simp only [bs]
    have g1 := h1 i hi64
    have g2 := h2 i hi64
    cases b1 : y.testBit i <;> cases b2 : s.testBit i <;> cases b3 : o.testBit i <;> cases m <;> simp [b1, b2, b3] at g1 g2 ih' ⊢ <;> exact ih'
theorem maskMoves_pure : diapauselaw03_MaskMoves.Pure := by
  intro s o op hs ho
  obtain ⟨x, rfl, hx⟩ := bnd_u64 hs
  obtain ⟨y, rfl, hy⟩ := bnd_u64 ho
  obtain ⟨K, hK⟩ := awake_ev
  refine ⟨K + 64 + 1, ?_⟩
  unfold diapauselaw03_MaskMoves.f
  rw [hK _ (by omega), remap_f x y hx hy]
  simp only [bs]
  by_cases h : x &&& y = 0
  · rw [if_pos h]
    have h2 : ∀ i, i < 64 → x.testBit i = true → y.testBit i = true → False := fun i _ g1 g2 => by
      have : (x &&& y).testBit i = true := by rw [Nat.testBit_and, g1, g2]; rfl
      rw [h, Nat.zero_testBit] at this
      cases this
    by_cases hop : op = true ∧ y ≠ 0
    · rw [if_pos hop]
      simp only [bs]
      refine moves_loop K x y y hx hy hy op 0 true (fun i _ g => g) (fun i hi g1 g2 => (h2 i hi g1 g2).elim) (fun _ => ?_) 64 0 false (by omega) (by symm; rw [decide_eq_false_iff_not]; rintro ⟨j, hj, _⟩; omega)
      rw [diapauselaw03_MaskMoves.l0, if_neg (by decide), h, hop.1]
      rw [if_neg (by simp), if_pos rfl, if_pos rfl, decide_eq_true (show (y : Int) > 0 by omega), if_pos (by rfl)]
      have : ((y : Int) == 0) = false := by rw [beq_eq_false_iff_ne]; omega
      rw [this]; rfl
    · rw [if_neg hop]
      simp only [bs]
      refine moves_loop K x y 0 hx hy (by decide) op 13 true (fun i _ g => by rw [Nat.zero_testBit] at g; cases g) (fun i hi g1 g2 => (h2 i hi g1 g2).elim) (fun _ => ?_) 64 0 false (by omega) (by symm; rw [decide_eq_false_iff_not]; rintro ⟨j, hj, _⟩; omega)
      rw [diapauselaw03_MaskMoves.l0, if_neg (by decide), h, if_neg (by simp), if_pos rfl]
      cases op
      · rfl
      · have : y = 0 := Classical.byContradiction fun e => hop ⟨rfl, e⟩
        rw [if_pos rfl, this]; rfl
  · rw [if_neg h]
    simp only [bs]
    refine moves_loop K x y (x &&& y) hx hy (and_lt y hx) op 0 true (fun i _ g => by rw [Nat.testBit_and, Bool.and_eq_true] at g; exact g.2) (fun i hi g1 g2 => by rw [Nat.testBit_and, g1, g2]; rfl) (fun _ => ?_) 64 0 false (by omega) (by symm; rw [decide_eq_false_iff_not]; rintro ⟨j, hj, _⟩; omega)
    rw [diapauselaw03_MaskMoves.l0, if_neg (by decide), decide_eq_true h, if_pos rfl, if_pos rfl, if_pos rfl, bits_and_u64_nat x y hx hy]
    simp
end Go.Proofs.YtgkmipfcadiobaaDoor.GM
