/- What the document's own Parse (diapauseref03) computes, over the printed reading; the plain law of MaskReads. -/
import Derived.Test.YtgkmipfcadiobaaDoorRefB
set_option linter.unusedVariables false
namespace Go.Proofs.YtgkmipfcadiobaaDoor.GM
open Go Go.RowKit Go.Proofs.YtgkmipfcadiobaaDoor Pl Go.Proofs.YtgkmipfcadiobaaDoorW.PrintWords Go.Proofs.YtgkmipfcadiobaaDoorW.PrintMore Given
def rng (f n : Nat) : List Int := ofNs (List.range' f (min (n + 1) 64 - f))
/-- One byte read: the cores so far, the number so far, the first number of a pair (-1: none). -/
def rstep (s : List Int × Nat × Int) (c : Nat) : List Int × Nat × Int :=
  if c = 44 then (s.1 ++ rng (if s.2.2 < 0 then s.2.1 else s.2.2.toNat) s.2.1, 0, -1)
  else if c = 45 then (s.1, 0, (s.2.1 : Int))
  else if 48 ≤ c ∧ c ≤ 57 ∧ s.2.1 < 100 then (s.1, 10 * s.2.1 + (c - 48), s.2.2)
  else s
theorem rng_len (f n : Nat) : (rng f n).length ≤ 64 := by unfold rng; rw [ofNs_length, List.length_range']; omega
structure Ok (s : List Int × Nat × Int) (i : Nat) : Prop where
  num : s.2.1 < 1000
  from_ : s.2.2 = -1 ∨ (0 ≤ s.2.2 ∧ s.2.2 < 1000)
  len : s.1.length ≤ 64 * i
theorem rstep_ok {s : List Int × Nat × Int} {i : Nat} (h : Ok s i) (c : Nat) : Ok (rstep s c) (i + 1) := by
  obtain ⟨h1, h2, h3⟩ := h
  unfold rstep
  split
  · refine ⟨by simp, .inl rfl, ?_⟩
    have := rng_len (if s.2.2 < 0 then s.2.1 else s.2.2.toNat) s.2.1
    simp only [List.length_append]
    omega
  · split
    · exact ⟨by simp, .inr ⟨by simp only; omega, by simp only; omega⟩, by simp only; omega⟩
    · split
      · rename_i h
        exact ⟨by simp only; omega, h2, by simp only; omega⟩
      · exact ⟨h1, h2, by omega⟩
theorem rl1 (t : ByteArray) (n : Nat) (hn : n < 1000) (i : Nat) (hi : i < 1000000) (k : Nat) (v : Int × Int) : ∀ (m c : Nat) (L : List Int), m = min (n + 1) 64 - c → c < 2000 → L.length + m < 1000000000 →
    diapauseref03_Parse.l0 k t (L ++ ofNs (List.range' c m)) 0 (-1) ((i + 1 : Nat) : Int) = some v → diapauseref03_Parse.l1 (k + m + 1) t L (n : Int) (i : Int) (c : Int) = some v := by
  intro m
  induction m with
  | zero =>
    intro c L hm hc hL h
    have h' : diapauseref03_Parse.l0 k t L 0 (-1) ((i + 1 : Nat) : Int) = some v := by simpa [ofNs] using h
    rw [Nat.add_zero, diapauseref03_Parse.l1, w64 (i := i) (by omega)]
    by_cases h1 : (c : Int) ≤ (n : Int)
    · rw [if_pos h1, if_neg (by omega)]; exact h'
    · rw [if_neg h1]; exact h'
  | succ m ih =>
    intro c L hm hc hL h
    rw [show k + (m + 1) + 1 = (k + m + 1) + 1 by omega, diapauseref03_Parse.l1, if_pos (by omega), if_pos (by omega), if_pos (by omega), w64 (by omega)]
    apply ih (c + 1) (L ++ [(c : Int)]) (by omega) (by omega) (by rw [List.length_append, List.length_singleton]; omega)
    rw [List.range'_succ] at h
    simpa [ofNs] using h
def byteAt (t : ByteArray) (i : Nat) : Nat := ((t.data.toList ++ [44]).getD i 0).toNat
theorem bt_at (t : ByteArray) (i : Nat) (hi : i < t.size) : bt t (i : Int) = (byteAt t i : Int) := by
  unfold bt byteAt
  have h : (i : Int).toNat < t.size := by simpa using hi
  rw [dif_pos h]
  have e : (t.data.toList ++ [44]).getD i 0 = t[i]'hi := by
    have hl : i < t.data.toList.length := by simpa using hi
    simp only [List.getD, List.getElem?_append_left hl, List.getElem?_eq_getElem hl, Option.getD_some]
    simp
    rfl
  rw [e]
  congr 1
theorem byteAt_end (t : ByteArray) : byteAt t t.size = 44 := by
  unfold byteAt
  have e : t.size = t.data.toList.length := by simp
  rw [e]
  simp [List.getD]
theorem riter (t : ByteArray) (i : Nat) (hi : i ≤ t.size) (hi2 : i < 1000000) (s : List Int × Nat × Int) (hs : Ok s i) (k : Nat) (v : Int × Int)
    (h : diapauseref03_Parse.l0 k t (rstep s (byteAt t i)).1 ((rstep s (byteAt t i)).2.1 : Int) (rstep s (byteAt t i)).2.2 ((i + 1 : Nat) : Int) = some v) : ∃ k', diapauseref03_Parse.l0 k' t s.1 (s.2.1 : Int) s.2.2 (i : Int) = some v := by
  obtain ⟨l, n, fr⟩ := s
  obtain ⟨h1, h2, h3⟩ := hs
  simp only at h1 h2 h3
  have enter : ∀ k' r, diapauseref03_Parse.j1 k' t l (n : Int) fr (i : Int) (byteAt t i : Int) = r → diapauseref03_Parse.l0 (k' + 1) t l (n : Int) fr (i : Int) = r := fun k' r hr => by
    rw [diapauseref03_Parse.l0, if_pos (by omega)]
    by_cases hlt : i < t.size
    · rw [if_pos (by omega), if_pos (by omega), bt_at t i hlt]; exact hr
    · have e : i = t.size := by omega
      rw [if_neg (by omega)]
      have : byteAt t i = 44 := by rw [e]; exact byteAt_end t
      rw [this] at hr
      exact hr
  generalize byteAt t i = c at *
  unfold rstep at h
  simp only at h
  have hd : ∀ k' r, ¬ (48 ≤ c ∧ c ≤ 57 ∧ n < 100) → diapauseref03_Parse.j3 k' t l (n : Int) fr (i : Int) (c : Int) = r → diapauseref03_Parse.j1 (k' + 2) t l (n : Int) fr (i : Int) (c : Int) = r := fun k' r hno hr => by
    rw [diapauseref03_Parse.j1]
    by_cases g1 : (c : Int) ≥ 48
    · rw [if_pos g1]
      by_cases g2 : (c : Int) ≤ 57
      · rw [if_pos g2, decide_eq_false (by omega), diapauseref03_Parse.j2, if_neg (by decide)]; exact hr
      · rw [if_neg g2, diapauseref03_Parse.j2, if_neg (by decide)]; exact hr
    · rw [if_neg g1, diapauseref03_Parse.j2, if_neg (by decide)]; exact hr
  by_cases c44 : c = 44
  · subst c44
    rw [if_pos rfl] at h
    simp only at h
    have hf : ∃ f : Nat, f < 1000 ∧ (if fr < 0 then n else fr.toNat) = f ∧ (if fr < 0 then (n : Int) else fr) = (f : Int) := by
      by_cases hneg : fr < 0
      · exact ⟨n, h1, by rw [if_pos hneg], by rw [if_pos hneg]⟩
      · exact ⟨fr.toNat, by omega, by rw [if_neg hneg], by rw [if_neg hneg]; omega⟩
    obtain ⟨f, hf1, hf2, hf3⟩ := hf
    rw [hf2] at h
    have hl1 := rl1 t n h1 i hi2 k v (min (n + 1) 64 - f) f l rfl (by omega) (by omega) h
    refine ⟨_, enter _ _ (hd _ _ (by omega) (?_ : diapauseref03_Parse.j3 (k + (min (n + 1) 64 - f) + 1 + 3) t l (n : Int) fr (i : Int) ((44 : Nat) : Int) = some v))⟩
    rw [diapauseref03_Parse.j3, if_neg (by decide), diapauseref03_Parse.j4, if_pos (by decide)]
    by_cases hneg : fr < 0
    · rw [if_pos hneg] at hf3 ⊢
      rw [diapauseref03_Parse.j5, hf3]
      rw [hf3] at hl1
      exact hl1
    · rw [if_neg hneg] at hf3 ⊢
      rw [diapauseref03_Parse.j5, hf3]
      exact hl1
  · rw [if_neg c44] at h
    by_cases c45 : c = 45
    · subst c45
      rw [if_pos rfl] at h
      simp only at h
      refine ⟨_, enter _ _ (hd _ _ (by omega) (?_ : diapauseref03_Parse.j3 (k + 2) t l (n : Int) fr (i : Int) ((45 : Nat) : Int) = some v))⟩
      rw [diapauseref03_Parse.j3, if_pos (by decide), diapauseref03_Parse.j4, if_neg (by decide), w64 (by omega)]
      exact h
    · rw [if_neg c45] at h
      by_cases hdig : 48 ≤ c ∧ c ≤ 57 ∧ n < 100
      · rw [if_pos hdig] at h
        simp only at h
        refine ⟨_, enter (k + 4) _ ?_⟩
        have e : wrap64 (wrap64 (10 * (n : Int)) + (((c : Int) - 48) % 256)) = ((10 * n + (c - 48) : Nat) : Int) := by unfold wrap64; omega
        rw [diapauseref03_Parse.j1, if_pos (by omega), if_pos (by omega), decide_eq_true (by omega), diapauseref03_Parse.j2, if_pos rfl, e, diapauseref03_Parse.j3, if_neg (by omega), diapauseref03_Parse.j4, if_neg (by omega), w64 (by omega)]
        exact h
      · rw [if_neg hdig] at h
        simp only at h
        refine ⟨_, enter _ _ (hd _ _ hdig (?_ : diapauseref03_Parse.j3 (k + 2) t l (n : Int) fr (i : Int) (c : Int) = some v))⟩
        rw [diapauseref03_Parse.j3, if_neg (by omega), diapauseref03_Parse.j4, if_neg (by omega), w64 (by omega)]
        exact h
def rfold (s : List Int × Nat × Int) (l : List UInt8) : List Int × Nat × Int := l.foldl (fun s c => rstep s c.toNat) s
theorem rloop (t : ByteArray) (ht : t.size ≤ 200) (v : Int × Int) : ∀ (rest : List UInt8) (i : Nat) (s : List Int × Nat × Int), (t.data.toList ++ [44]).drop i = rest → i ≤ t.size + 1 → Ok s i →
    (∃ k, diapauseref03_Parse.j7 k t (if t.data.toList = [45] then [] else (rfold s rest).1) = some v) → ∃ k, diapauseref03_Parse.l0 k t s.1 (s.2.1 : Int) s.2.2 (i : Int) = some v := by
  intro rest
  have hsz : (t.data.toList ++ [44]).length = t.size + 1 := by simp
  induction rest with
  | nil =>
    intro i s hd hi hs ⟨k, hk⟩
    have : t.size + 1 ≤ i := by rw [← hsz]; exact List.drop_eq_nil_iff.1 hd
    refine ⟨k + 1, ?_⟩
    rw [diapauseref03_Parse.l0, if_neg (by omega), ByteArray.toList_eq]
    by_cases h45 : t.data.toList = [45]
    · rw [if_pos h45] at hk ⊢; exact hk
    · rw [if_neg h45] at hk ⊢; exact hk
  | cons c rest ih =>
    intro i s hd hi hs hk
    have hlt : i < t.size + 1 := by
      rw [← hsz]
      apply Classical.byContradiction
      intro hn
      rw [List.drop_eq_nil_of_le (by omega)] at hd
      cases hd
    have hc : byteAt t i = c.toNat := by
      unfold byteAt
      rw [List.drop_eq_getElem_cons (by rw [hsz]; exact hlt)] at hd
      have := (List.cons.inj hd).1
      rw [← this]
      simp [List.getD, hsz, hlt]
    have hd2 : (t.data.toList ++ [44]).drop (i + 1) = rest := by
      rw [← List.drop_drop, hd]; rfl
    obtain ⟨k, hk2⟩ := ih (i + 1) (rstep s c.toNat) hd2 (by omega) (rstep_ok hs _) hk
    exact riter t i (by omega) (by omega) s hs k v (by rw [hc]; exact hk2)
theorem j7_r (t : ByteArray) (l : List Int) (hl : l.length < 1000000000) : ∃ k, diapauseref03_Parse.j7 k t l = some (fin t (some (setOf (inL l)))) := by
  obtain ⟨K1, h1⟩ := of_r' l hl
  obtain ⟨K2, h2⟩ := textR_r (setOf (inL l)) (setOf_lt _)
  refine ⟨K1 + K2 + 1, ?_⟩
  rw [diapauseref03_Parse.j7, h1 _ (by omega), bs, h2 _ (by omega), bs, textB_toList, ByteArray.toList_eq]
  show _ = some (if textL (setOf (inL l)) = t.data.toList then (((setOf (inL l) : Nat) : Int), 0) else (0, 5))
  split <;> rfl
theorem rfold_len (s : List Int × Nat × Int) : ∀ (l : List UInt8) (s : List Int × Nat × Int) (i : Nat), Ok s i → Ok (rfold s l) (i + l.length)
  | [], s, i, h => h
  | c :: l, s, i, h => by
    have := rfold_len s l (rstep s c.toNat) (i + 1) (rstep_ok h _)
    rw [show i + (c :: l).length = i + 1 + l.length by simp; omega]
    exact this
def s0 : List Int × Nat × Int := ([], 0, -1)
theorem s0_ok : Ok s0 0 := ⟨by decide, .inl rfl, by decide⟩
def readR (t : ByteArray) : List Int := if t.data.toList = [45] then [] else (rfold s0 (t.data.toList ++ [44])).1
theorem parseR_r (t : ByteArray) (ht : t.size ≤ 200) : ∃ K, ∀ k, K ≤ k → diapauseref03_Parse.f k t = some (fin t (some (setOf (inL (readR t))))) := by
  have hlen : (readR t).length < 1000000000 := by
    unfold readR
    split
    · decide
    · have := (rfold_len s0 (t.data.toList ++ [44]) s0 0 s0_ok).len
      simp only [List.length_append, List.length_singleton] at this
      have e : t.data.toList.length = t.size := by simp
      omega
  obtain ⟨k, hk⟩ := j7_r t (readR t) hlen
  obtain ⟨k2, hk2⟩ := rloop t ht _ (t.data.toList ++ [44]) 0 s0 rfl (by omega) s0_ok ⟨k, hk⟩
  exact Ev.of (k := k2) (diapauseref03_Parse.mono t) hk2
/-! A set's text is read as the set. -/
theorem rstep_dig (l : List Int) (n : Nat) (f : Int) (d : Nat) (hd : d < 10) (hn : n < 100) : rstep (l, n, f) (48 + d) = (l, 10 * n + d, f) := by
  unfold rstep
  rw [if_neg (by omega), if_neg (by omega), if_pos ⟨by omega, by omega, hn⟩]
  simp only [Nat.add_sub_cancel_left]
theorem fold_dd (a : Nat) (ha : a < 100) (l : List Int) (f : Int) : rfold (l, 0, f) (dd a) = (l, a, f) := by
  have h1 : ∀ b < 10, (UInt8.ofNat (48 + b)).toNat = 48 + b := by decide
  unfold dd rfold
  split
  · rename_i h
    rw [List.foldl_cons, List.foldl_nil, h1 a h, rstep_dig _ _ _ _ h (by omega)]
    simp
  · rename_i h
    rw [List.foldl_cons, List.foldl_cons, List.foldl_nil, h1 (a / 10) (by omega), h1 (a % 10) (by omega), rstep_dig l 0 f (a / 10) (by omega) (by omega), rstep_dig _ _ _ _ (by omega) (by omega)]
    simp only [Prod.mk.injEq, true_and, and_true]
    omega
theorem rfold_app (s : List Int × Nat × Int) (a b : List UInt8) : rfold s (a ++ b) = rfold (rfold s a) b := List.foldl_append
theorem fold_seg (x c : Nat) (h : hasB x (c : Nat) = true) (l : List Int) : rfold (l, 0, -1) (segL x c ++ [44]) = (l ++ rng c (c + runLen x c - 1), 0, -1) := by
  have hf := runLen_fits x c h
  have c44 : ∀ s, rfold s [44] = rstep s 44 := fun s => rfl
  have c45 : ∀ s r, rfold s (45 :: r) = rfold (rstep s 45) r := fun s r => rfl
  unfold segL
  rw [dd_eq c (by omega), List.append_assoc, rfold_app, fold_dd c (by omega)]
  split
  · rw [List.cons_append, c45, dd_eq _ (by omega)]
    have : rstep (l, c, -1) 45 = (l, 0, (c : Int)) := rfl
    rw [this, rfold_app, fold_dd _ (by omega), c44]
    unfold rstep
    rw [if_pos rfl]
    simp only
    rw [if_neg (by omega), Int.toNat_natCast]
  · rw [List.nil_append, c44]
    unfold rstep
    rw [if_pos rfl]
    simp only
    rw [if_pos (by decide), show c + runLen x c - 1 = c by omega]
theorem join_flat (c : UInt8) : ∀ (ss : List (List UInt8)), ss ≠ [] → Lib.join ss [c] ++ [c] = (ss.map (· ++ [c])).flatten
  | [], h => absurd rfl h
  | [x], _ => by rw [Lib.join_one]; simp
  | x :: y :: r, _ => by
    have ih := join_flat c (y :: r) (by simp)
    rw [joined, List.map_cons, List.flatten_cons, ← ih]
    simp
theorem fold_segs (x : Nat) : ∀ (cs : List Nat) (l : List Int), (∀ c ∈ cs, hasB x (c : Nat) = true) → rfold (l, 0, -1) ((cs.map (segL x)).map (· ++ [44])).flatten = (l ++ (cs.map fun c => rng c (c + runLen x c - 1)).flatten, 0, -1)
  | [], l, _ => by simp [rfold]
  | c :: cs, l, h => by
    rw [List.map_cons, List.map_cons, List.flatten_cons, rfold_app, fold_seg x c (h c List.mem_cons_self), fold_segs x cs _ (fun d hd => h d (List.mem_cons_of_mem _ hd))]
    simp
theorem mem_rng (f n i : Nat) : (i : Int) ∈ rng f n ↔ f ≤ i ∧ i ≤ n ∧ i < 64 := by
  have := inL_ofNs (List.range' f (min (n + 1) 64 - f)) i
  unfold inL at this
  have h2 := decide_eq_decide.1 this
  unfold rng
  rw [h2, List.mem_range'_1]
  omega
theorem readR_text (t : ByteArray) (s : Nat) (hs : s < U64) (ht : textL s = t.data.toList) : setOf (inL (readR t)) = s := by
  unfold readR
  by_cases h0 : s = 0
  · subst h0
    rw [if_pos (by rw [← ht, text_zero])]
    apply set_ext (setOf_lt _) (by decide)
    intro i hi
    rw [setOf_test _ _ hi, Nat.zero_testBit]
    rfl
  · have hj := textL_join s hs h0
    have hne : (starts s).map (segL s) ≠ [] := fun e => h0 (starts_nil s hs (List.map_eq_nil_iff.1 e))
    rw [if_neg (by rw [← ht, hj]; exact join_dash _ (seg_good s)), ← ht, hj, join_flat 44 _ hne]
    unfold s0
    rw [fold_segs s (starts s) [] (fun c hc => (starts_has s c hc).1), List.nil_append]
    apply set_ext (setOf_lt _) hs
    intro i hi
    rw [setOf_test _ _ hi]
    unfold inL
    rw [Bool.eq_iff_iff, decide_eq_true_iff, List.mem_flatten]
    constructor
    · rintro ⟨r, hr, hm⟩
      obtain ⟨c, hc, rfl⟩ := List.mem_map.1 hr
      have h1 := (mem_rng _ _ _).1 hm
      have hf := runLen_fits s c (starts_has s c hc).1
      have := runF_all s 64 c (i - c) (by unfold runLen at *; omega)
      rw [show c + (i - c) = i by omega, hasB_nat s i hi] at this
      exact this
    · intro h
      obtain ⟨c, hc, h1, h2⟩ := in_run s i hi h
      exact ⟨_, List.mem_map.2 ⟨c, hc, rfl⟩, (mem_rng _ _ _).2 ⟨h1, by omega, hi⟩⟩
theorem both_parse (t : ByteArray) (ht : t.size ≤ 200) : ∃ K v, (∀ k, K ≤ k → mask_Parse.f k t = some v) ∧ ∀ k, K ≤ k → diapauseref03_Parse.f k t = some v := by
  obtain ⟨k, v, hp, hv⟩ := parse_ends t (by omega)
  obtain ⟨K1, h1⟩ := parse_ev ⟨k, hp⟩
  obtain ⟨K2, h2⟩ := parseR_r t ht
  by_cases hex : ∃ s : Nat, s < U64 ∧ textL s = t.data.toList
  · obtain ⟨s, hs, hts⟩ := hex
    obtain ⟨K3, h3⟩ := parse_ev (parse_text t s hs hts)
    rw [readR_text t s hs hts] at h2
    refine ⟨K2 + K3, ((s : Int), 0), fun k hk => h3 k (by omega), fun k hk => ?_⟩
    rw [h2 k (by omega)]
    show some (if textL s = t.data.toList then ((s : Int), 0) else (0, 5)) = _
    rw [if_pos hts]
  · refine ⟨K1 + K2, (0, 5), fun k hk => ?_, fun k hk => ?_⟩
    · rw [h1 k (by omega)]
      rcases hv with ⟨s, hs, hts, rfl⟩ | rfl
      · exact absurd ⟨s, hs, hts⟩ hex
      · rfl
    · rw [h2 k (by omega)]
      show some (if textL (setOf (inL (readR t))) = t.data.toList then (((setOf (inL (readR t)) : Nat) : Int), 0) else (0, 5)) = _
      rw [if_neg (fun e => hex ⟨_, setOf_lt _, e⟩)]
theorem maskReads_pure : diapauselaw03_MaskReads.Pure := by
  intro s t o op hs ht ho
  obtain ⟨x, rfl, hx⟩ := bnd_u64 hs
  obtain ⟨y, rfl, hy⟩ := bnd_u64 ho
  obtain ⟨K0, h0⟩ := awake_ev
  by_cases hsz : (t.size : Int) > 200
  · refine ⟨K0, ?_⟩
    unfold diapauselaw03_MaskReads.f
    rw [h0 _ (by omega), bs, if_pos hsz]
  · obtain ⟨K1, v, h1, h2⟩ := both_parse t (by omega)
    obtain ⟨K3, h3⟩ := remap_r x y hx hy op
    obtain ⟨K4, h4⟩ := textR_r x hx
    obtain ⟨w, hw⟩ : ∃ w, mask_Remap.f (x : Int) (y : Int) op = some w := by
      rw [remap_f x y hx hy]
      split
      · split <;> exact ⟨_, rfl⟩
      · exact ⟨_, rfl⟩
    refine ⟨K0 + K1 + K3 + K4, ?_⟩
    unfold diapauselaw03_MaskReads.f
    rw [h0 _ (by omega), bs, if_neg hsz, h1 _ (by omega), bs, h2 _ (by omega), bs, h3 _ (by omega), hw, bs, bs, if_pos rfl, text_f x hx, bs, h4 _ (by omega), bs, if_pos rfl, if_pos rfl, if_pos rfl, if_pos rfl, beq_self_eq_true]
end Go.Proofs.YtgkmipfcadiobaaDoor.GM
