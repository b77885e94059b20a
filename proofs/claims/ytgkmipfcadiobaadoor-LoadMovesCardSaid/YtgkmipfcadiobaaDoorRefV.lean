/- LoadMoves' plain law: the document's own Balance takes the cores and the seats as the stable sorts do. -/
import Derived.Test.YtgkmipfcadiobaaDoorSelP
import Derived.Test.YtgkmipfcadiobaaDoorRefS
import Derived.Test.YtgkmipfcadiobaaDoorGVx4
set_option linter.unusedVariables false
namespace Go.Proofs.YtgkmipfcadiobaaDoor.GV
open Go Go.RowKit Go.Sort Go.Shelf Go.Proofs.YtgkmipfcadiobaaDoor Pl Go.Proofs.YtgkmipfcadiobaaDoorW.PrintWords Go.Proofs.YtgkmipfcadiobaaDoorW.PrintMore GivenT GivenL GA GL GS
theorem rdOf_nat (U : List Bool) (i : Nat) : rdOf false U (i : Int) = U.getD i false := by unfold rdOf; simp
theorem swo_of {α : Type} (f : α → Int) : SWO (fun a b : α => decide (f a < f b)) := by
  constructor
  · intro x; simp
  · intro x y z h1 h2; simp only [decide_eq_true_eq] at *; omega
  · intro x y z h1 h2; simp only [decide_eq_false_iff_not] at *; omega
theorem swo_of' {α : Type} (f : α → Int) : SWO (fun a b : α => decide (f b < f a)) := by
  constructor
  · intro x; simp
  · intro x y z h1 h2; simp only [decide_eq_true_eq] at *; omega
  · intro x y z h1 h2; simp only [decide_eq_false_iff_not] at *; omega
abbrev ltC (loads : List Int) (a b : Nat) : Bool := decide (loads.getD b 0 < loads.getD a 0)
abbrev ltS (l : List S38) (a b : Nat) : Bool := decide ((l.getD a z38).f0 < (l.getD b z38).f0)
theorem ltC_swo (loads : List Int) : SWO (ltC loads) := swo_of' (fun a : Nat => loads.getD a 0)
theorem ltS_swo (l : List S38) : SWO (ltS l) := swo_of (fun a : Nat => (l.getD a z38).f0)
def CS (loads : List Int) (x : Nat) : List Nat := stL (ltC loads) (cores x)
def SS (l : List S38) : List Nat := stL (ltS l) (List.range l.length)
def MS (l : List S38) (c : Int) : List Nat := (SS l).filter fun i => (l.getD i z38).f1 == c
theorem cmp_dec (a b : Int) : decide (Lib.compareInt a b < 0) = decide (a < b) := by
  unfold Lib.compareInt
  rcases Int.lt_trichotomy a b with h | h | h
  · simp [h]
  · subst h; simp
  · have : ¬ a < b := by omega
    simp [this, h]
theorem findSome_filter {α β : Type} (p : α → Bool) (f : α → Option β) (h : ∀ a, p a = false → f a = none) : ∀ xs : List α, (xs.filter p).findSome? f = xs.findSome? f
  | [] => rfl
  | a :: xs => by
    cases hp : p a with
    | true => rw [List.filter_cons_of_pos hp, List.findSome?_cons, List.findSome?_cons, findSome_filter p f h xs]
    | false => rw [List.filter_cons_of_neg (by simp [hp]), List.findSome?_cons, h a hp, findSome_filter p f h xs]
theorem balO_idx (l : List S38) (x : Nat) : balO l x = (CS (loadsL l 64) x).findSome? fun c : Nat => (MS l (c : Int)).findSome? fun i => tryS (loadsL l 64) x (c : Int) (l.getD i z38) := by
  have e1 : CS (loadsL l 64) x = (stL (ltOf (cfC (loadsL l 64))) (coresF x)).map (fun c => c.val) := by
    have hl : ltOf (cfC (loadsL l 64)) = fun a b : Fin 64 => ltC (loadsL l 64) a.val b.val := by
      funext a b
      exact cmp_dec _ _
    rw [hl, stL_map (fun c : Fin 64 => c.val) (ltC_swo (loadsL l 64))]
    unfold CS
    congr 1
    have h : List.range 64 = (List.finRange 64).map (fun c => c.val) := by decide +kernel
    unfold cores coresF
    rw [h, List.filter_map]
    rfl
  have e2 : stL (ltOf cfS) l = (SS l).map (fun i => l.getD i z38) := by
    have hl : (fun a b : Nat => ltOf cfS (l.getD a z38) (l.getD b z38)) = ltS l := by
      funext a b
      exact cmp_dec _ _
    unfold SS
    rw [← hl, stL_map (fun i : Nat => l.getD i z38) cfS_swo]
    congr 1
    apply List.ext_getElem
    · simp
    · intro j h1 h2
      simp [h1, List.getD]
  unfold balO
  rw [e1, List.findSome?_map, e2]
  congr 1
  funext c
  simp only [Function.comp]
  rw [List.findSome?_map]
  unfold MS
  rw [findSome_filter]
  · rfl
  · intro a ha
    unfold tryS
    rw [if_neg (by simpa using ha)]
theorem mem_CS (loads : List Int) (x c : Nat) : c ∈ CS loads x ↔ c < 64 ∧ x.testBit c = true := by
  unfold CS
  rw [(stL_perm (ltC_swo loads) (cores x)).mem_iff, mem_cores]
theorem mem_MS (l : List S38) (c : Int) (i : Nat) : i ∈ MS l c ↔ i < l.length ∧ (l.getD i z38).f1 = c := by
  unfold MS SS
  rw [List.mem_filter, (stL_perm (ltS_swo l) (List.range l.length)).mem_iff, List.mem_range]
  simp
theorem CS_bef (loads : List Int) (x : Nat) : (CS loads x).Pairwise (Bef (ltC loads)) := stL_bef (ltC_swo loads) _ (by unfold cores; exact List.pairwise_lt_range.filter _)
theorem MS_bef (l : List S38) (c : Int) : (MS l c).Pairwise (Bef (ltS l)) := (stL_bef (ltS_swo l) _ List.pairwise_lt_range).filter _
/-- What a search finds in a list so sorted. -/
theorem seek_list {lt : Nat → Nat → Bool} (H : SWO lt) (ok : Nat → Bool) (n : Nat) (M : List Nat) (hM : M.Pairwise (Bef lt)) (m : Nat) (hok : ∀ k, k < n → (ok k = true ↔ k ∈ M ∧ k ∉ M.take m)) (hn : ∀ k ∈ M, k < n) :
    (∃ h : m < M.length, (List.range n).foldl (seek ok lt) (-1) = (M[m] : Nat)) ∨ (M.length ≤ m ∧ (List.range n).foldl (seek ok lt) (-1) = -1) := by
  rcases Nat.lt_or_ge m M.length with h | h
  · left
    refine ⟨h, ?_⟩
    have hf := first_next H M hM m h
    rcases seek_spec ok H n with ⟨_, h2⟩ | ⟨c, h1, h2, h3⟩
    · have := h2 M[m] (hn _ (List.getElem_mem h))
      rw [(hok _ (hn _ (List.getElem_mem h))).2 hf.1] at this; cases this
    · rw [h1]
      have h4 : First (fun k => k ∈ M ∧ k ∉ M.take m) lt c := ⟨(hok c h2).1 h3.1.2, fun k hk => h3.2 k ⟨hn k hk.1, (hok k (hn k hk.1)).2 hk⟩⟩
      rw [h4.uniq hf]
  · right
    refine ⟨h, ?_⟩
    rcases seek_spec ok H n with ⟨h1, _⟩ | ⟨c, h1, h2, h3⟩
    · exact h1
    · have := (hok c h2).1 h3.1.2
      rw [List.take_of_length_le h] at this
      exact absurd this.1 this.2
theorem seek_no {ok : Nat → Bool} {lt : Nat → Nat → Bool} {best : Int} {i : Nat} (h : ok i = false) : seek ok lt best i = best := by unfold seek; rw [if_neg (by rw [h]; decide)]
theorem seek_neg {ok : Nat → Bool} {lt : Nat → Nat → Bool} {best : Int} {i : Nat} (h : ok i = true) (hb : best < 0) : seek ok lt best i = (i : Int) := by unfold seek; rw [if_pos h, if_pos hb]
theorem seek_lt {ok : Nat → Bool} {lt : Nat → Nat → Bool} {b i : Nat} (h : ok i = true) (hl : lt i b = true) : seek ok lt (b : Int) i = (i : Int) := by unfold seek; rw [if_pos h, if_neg (by omega), Int.toNat_natCast, if_pos hl]
theorem seek_ge {ok : Nat → Bool} {lt : Nat → Nat → Bool} {b i : Nat} (h : ok i = true) (hl : lt i b = false) : seek ok lt (b : Int) i = (b : Int) := by unfold seek; rw [if_pos h, if_neg (by omega), Int.toNat_natCast, if_neg (by rw [hl]; decide)]
/-- Marks set at the places of a list. -/
def Flags (U : List Bool) (n : Nat) (T : List Nat) : Prop := U.length = n ∧ ∀ i, i < n → (U.getD i false = true ↔ i ∈ T)
theorem Flags.none (n : Nat) : Flags (List.replicate n false) n [] := ⟨by simp, fun i hi => by simp [List.getD, hi]⟩
theorem Flags.next {U : List Bool} {n : Nat} {M : List Nat} {m : Nat} (h : Flags U n (M.take m)) (hm : m < M.length) (hn : M[m] < n) : Flags (U.set M[m] true) n (M.take (m + 1)) := by
  refine ⟨by rw [List.length_set]; exact h.1, fun i hi => ?_⟩
  rw [take_succ_of M m hm, List.mem_append, List.mem_singleton, ← h.2 i hi]
  by_cases e : i = M[m]
  · subst e
    have : (U.set M[m] true).getD M[m] false = true := by simp [List.getD, h.1, hi]
    rw [this]; simp
  · have : (U.set M[m] true).getD i false = U.getD i false := by simp [List.getD, List.getElem?_set_ne (Ne.symm e)]
    rw [this]
    simp [e]
theorem lowest_loop (l : List S38) (hl : l.length ≤ 40) (c : Int) (U : List Bool) (hU : U.length = l.length) (k : Nat) : ∀ (m i : Nat) (best : Int), i + m = l.length → (best < 0 ∨ best < (l.length : Int)) →
    diapauseref15_lowest.l0 (k + m + 1) l c U best (i : Int) = some ((List.range' i m).foldl (seek (fun i => (l.getD i z38).f1 == c && !(U.getD i false)) (ltS l)) best)
  | 0, i, best, e, hb => by
    rw [diapauseref15_lowest.l0, if_neg (by omega)]
    rfl
  | m + 1, i, best, e, hb => by
    have hi : i < l.length := by omega
    have ih := fun b hb => lowest_loop l hl c U hU k m (i + 1) b (by omega) hb
    have eg : l.getD i z38 = l[i] := by simp [hi, List.getD]
    rw [show k + (m + 1) + 1 = (k + m + 1) + 1 by omega, diapauseref15_lowest.l0, if_pos (by omega), if_pos (by omega), rd_T38_nat l i hi, w64 (by omega), List.range'_succ, List.foldl_cons]
    by_cases h1 : l[i].f1 = c
    · rw [if_pos h1, if_pos (by omega), rdOf_nat]
      cases hu : U.getD i false with
      | true =>
        rw [if_pos rfl]
        rw [seek_no (by rw [hu]; simp)]; exact ih best hb
      | false =>
        have hok : ((l.getD i z38).f1 == c && !(U.getD i false)) = true := by rw [hu, eg, h1]; simp
        rw [if_neg (by decide)]
        by_cases h2 : best < 0
        · rw [if_pos h2, seek_neg hok h2]; exact ih _ (by omega)
        · obtain ⟨b, rfl⟩ := Int.eq_ofNat_of_zero_le (show 0 ≤ best by omega)
          have hbl : b < l.length := by omega
          have eb : l.getD b z38 = l[b] := by simp [hbl, List.getD]
          rw [if_neg h2, if_pos (by omega), if_pos (by omega), rd_T38_nat l b hbl]
          by_cases h3 : l[i].f0 < l[b].f0
          · rw [if_pos h3, seek_lt hok (by unfold ltS; rw [eg, eb]; exact decide_eq_true h3)]; exact ih _ (by omega)
          · rw [if_neg h3, seek_ge hok (by unfold ltS; rw [eg, eb]; exact decide_eq_false h3)]; exact ih _ hb
    · rw [if_neg h1, seek_no (by rw [eg]; simp [h1])]; exact ih best hb
theorem lowest_r (l : List S38) (hl : l.length ≤ 40) (c : Int) (U : List Bool) (m : Nat) (hU : Flags U l.length ((MS l c).take m)) (k : Nat) (hk : 50 < k) :
    (∃ h : m < (MS l c).length, diapauseref15_lowest.f k l c U = some (((MS l c)[m] : Nat) : Int)) ∨ ((MS l c).length ≤ m ∧ diapauseref15_lowest.f k l c U = some (-1)) := by
  have h0 : diapauseref15_lowest.f k l c U = some ((List.range l.length).foldl (seek (fun i => (l.getD i z38).f1 == c && !(U.getD i false)) (ltS l)) (-1)) := by
    unfold diapauseref15_lowest.f
    have := lowest_loop l hl c U hU.1 (k - l.length - 1) l.length 0 (-1) (by omega) (by omega)
    rw [show k - l.length - 1 + l.length + 1 = k by omega, ← List.range_eq_range'] at this
    exact this
  rw [h0]
  rcases seek_list (ltS_swo l) (fun i => (l.getD i z38).f1 == c && !(U.getD i false)) l.length (MS l c) (MS_bef l c) m (fun k hk => by
    rw [mem_MS, ← hU.2 k hk]
    simp only [Bool.and_eq_true, beq_iff_eq, Bool.not_eq_true', Bool.not_eq_true]
    constructor
    · rintro ⟨a, b⟩; exact ⟨⟨hk, a⟩, b⟩
    · rintro ⟨⟨_, a⟩, b⟩; exact ⟨a, b⟩) (fun k hk => ((mem_MS l c k).1 hk).1) with ⟨h, e⟩ | ⟨h, e⟩
  · exact .inl ⟨h, by rw [e]⟩
  · exact .inr ⟨h, by rw [e]⟩
/- The core that the document's own Balance takes next. -/
def okC (x : Nat) (D : List Bool) (i : Nat) : Bool := hasN x i && !(D.getD i false)
theorem from_loop (l : List S38) (x : Nat) (hx : x < 18446744073709551616) (loads : List Int) (hloads : loads.length = 64) (D : List Bool) (hD : D.length = 64) (k : Nat) (hk : 70 < k) : ∀ (m i : Nat) (best : Int), i + m = 64 → (best < 0 ∨ best < 64) →
    diapauseref15_Balance.l1 (k + m + 1) l (x : Int) loads D best (i : Int) = diapauseref15_Balance.l1 (k + 1) l (x : Int) loads D ((List.range' i m).foldl (seek (okC x D) (ltC loads)) best) ((64 : Nat) : Int)
  | 0, i, best, e, hb => by
    obtain rfl : i = 64 := by omega
    rfl
  | m + 1, i, best, e, hb => by
    have ih := fun b hb => from_loop l x hx loads hloads D hD k hk m (i + 1) b (by omega) hb
    rw [show k + (m + 1) + 1 = (k + m + 1) + 1 by omega, diapauseref15_Balance.l1, if_pos (by omega), has_r _ (by omega) x hx, bs, hasN_L, w64 (by omega), List.range'_succ, List.foldl_cons]
    cases hh : hasN x i with
    | false => rw [if_neg (by decide), seek_no (by unfold okC; rw [hh]; rfl)]; exact ih best hb
    | true =>
      rw [if_pos rfl, if_pos (by omega), if_pos (by omega), rdOf_nat]
      cases hu : D.getD i false with
      | true => rw [if_pos rfl, seek_no (by unfold okC; rw [hu]; simp)]; exact ih best hb
      | false =>
        have hok : okC x D i = true := by unfold okC; rw [hh, hu]; rfl
        rw [if_neg (by decide)]
        by_cases h2 : best < 0
        · rw [if_pos h2, seek_neg hok h2]; exact ih _ (by omega)
        · obtain ⟨b, rfl⟩ := Int.eq_ofNat_of_zero_le (show 0 ≤ best by omega)
          rw [if_neg h2, if_pos (by omega), if_pos (by omega), if_pos (by omega), rd_nat, rd_nat]
          by_cases h3 : loads.getD i 0 > loads.getD b 0
          · rw [if_pos h3, seek_lt hok (by unfold ltC; exact decide_eq_true h3)]; exact ih _ (by omega)
          · rw [if_neg h3, seek_ge hok (by unfold ltC; exact decide_eq_false h3)]; exact ih _ hb
theorem from_r (l : List S38) (x : Nat) (hx : x < 18446744073709551616) (loads : List Int) (hloads : loads.length = 64) (D : List Bool) (m : Nat) (hD : Flags D 64 ((CS loads x).take m)) (k : Nat) (hk : 70 < k) :
    (∃ h : m < (CS loads x).length, diapauseref15_Balance.l1 (k + 65) l (x : Int) loads D (-1) 0 = diapauseref15_Balance.l1 (k + 1) l (x : Int) loads D (((CS loads x)[m] : Nat) : Int) ((64 : Nat) : Int)) ∨
    ((CS loads x).length ≤ m ∧ diapauseref15_Balance.l1 (k + 65) l (x : Int) loads D (-1) 0 = diapauseref15_Balance.l1 (k + 1) l (x : Int) loads D (-1) ((64 : Nat) : Int)) := by
  have h0 := from_loop l x hx loads hloads D hD.1 k hk 64 0 (-1) (by omega) (by omega)
  rw [← List.range_eq_range'] at h0
  have h0' : diapauseref15_Balance.l1 (k + 65) l (x : Int) loads D (-1) 0 = diapauseref15_Balance.l1 (k + 1) l (x : Int) loads D ((List.range 64).foldl (seek (okC x D) (ltC loads)) (-1)) ((64 : Nat) : Int) := h0
  rw [h0']
  rcases seek_list (ltC_swo loads) (okC x D) 64 (CS loads x) (CS_bef loads x) m (fun k hk => by
    rw [mem_CS, ← hD.2 k hk]
    unfold okC hasN
    simp only [Bool.and_eq_true, decide_eq_true_eq, Bool.not_eq_true', Bool.not_eq_true]) (fun k hk => ((mem_CS loads x k).1 hk).1) with ⟨h, e⟩ | ⟨h, e⟩
  · exact .inl ⟨h, by rw [e]⟩
  · exact .inr ⟨h, by rw [e]⟩
/-! The core that a seat would go to. -/
theorem to_loop (l : List S38) (hl : l.length ≤ 40) (x : Nat) (hx : x < 18446744073709551616) (loads : List Int) (hloads : loads.length = 64) (D U : List Bool) (c : Int) (j : Nat) (hj : j < l.length) (f : Nat) (hf : f < 18446744073709551616) (hf2 : l[j].f2 = (f : Int)) (k : Nat) (hk : 70 < k) :
    ∀ (m i : Nat) (best : Int), i + m = 64 → (best < 0 ∨ best < 64) →
    diapauseref15_Balance.l3 (k + m + 1) l (x : Int) loads D c U (j : Int) best (i : Int) = diapauseref15_Balance.l3 (k + 1) l (x : Int) loads D c U (j : Int) ((((List.range' i m).filter (hasN (f &&& x))).map fun c : Nat => (c : Int)).foldl (stepR loads) best) ((64 : Nat) : Int)
  | 0, i, best, e, hb => by
    obtain rfl : i = 64 := by omega
    rfl
  | m + 1, i, best, e, hb => by
    have ih := fun b hb => to_loop l hl x hx loads hloads D U c j hj f hf hf2 k hk m (i + 1) b (by omega) hb
    have hand : hasN (f &&& x) i = (hasN f i && hasN x i) := by unfold hasN; rw [Nat.testBit_and]; cases decide (i < 64) <;> simp
    rw [show k + (m + 1) + 1 = (k + m + 1) + 1 by omega, diapauseref15_Balance.l3, if_pos (by omega), if_pos (by omega), if_pos (by omega), rd_T38_nat l j hj, hf2, has_r _ (by omega) f hf, bs, hasN_L, w64 (by omega), List.range'_succ]
    cases hh : hasN f i with
    | false =>
      rw [if_neg (by decide), List.filter_cons_of_neg (by rw [hand, hh]; simp)]
      exact ih best hb
    | true =>
      rw [if_pos rfl, has_r _ (by omega) x hx, bs, hasN_L]
      cases h2 : hasN x i with
      | false =>
        rw [if_neg (by decide), List.filter_cons_of_neg (by rw [hand, h2]; simp)]
        exact ih best hb
      | true =>
        rw [if_pos rfl, List.filter_cons_of_pos (by rw [hand, hh, h2]; rfl), List.map_cons, List.foldl_cons]
        unfold stepR
        by_cases h4 : best < 0
        · rw [if_pos h4, if_pos h4]; exact ih _ (by omega)
        · rw [if_neg h4, if_neg h4, if_pos (by omega), if_pos (by omega), if_pos (by omega), if_pos (by omega)]
          by_cases h5 : rd loads (i : Int) < rd loads best
          · rw [if_pos h5, if_pos h5]; exact ih _ (by omega)
          · rw [if_neg h5, if_neg h5]; exact ih _ hb
theorem to_r (l : List S38) (hl : l.length ≤ 40) (x : Nat) (hx : x < 18446744073709551616) (loads : List Int) (hloads : loads.length = 64) (D U : List Bool) (c : Int) (j : Nat) (hj : j < l.length) (f : Nat) (hf : f < 18446744073709551616) (hf2 : l[j].f2 = (f : Int)) (k : Nat) (hk : 70 < k) :
    diapauseref15_Balance.l3 (k + 65) l (x : Int) loads D c U (j : Int) (-1) 0 = diapauseref15_Balance.l3 (k + 1) l (x : Int) loads D c U (j : Int) (chooseI (f &&& x) loads) ((64 : Nat) : Int) := by
  have h0 := to_loop l hl x hx loads hloads D U c j hj f hf hf2 k hk 64 0 (-1) (by omega) (by omega)
  rw [chooseI_R, hloads]
  exact h0
/-- From one core on: the seats on it, one after another. -/
theorem seats_ev (l : List S38) (hl : l.length ≤ 40) (hU2 : ∀ s ∈ l, 0 ≤ s.f2 ∧ s.f2 < 18446744073709551616) (x : Nat) (hx : x < 18446744073709551616) (loads : List Int) (hloads : loads.length = 64) (hlb : ∀ c : Nat, 0 ≤ loads.getD c 0 ∧ loads.getD c 0 ≤ 1000000) (D : List Bool) (c : Nat) (hc : c < 64) (res : Int × Int × Bool)
    (hnext : Ev (fun k => diapauseref15_Balance.l0 k l (x : Int) loads D) res) : ∀ (n m : Nat) (U : List Bool), m + n = (MS l (c : Int)).length → Flags U l.length ((MS l (c : Int)).take m) →
    Ev (fun k => diapauseref15_Balance.l2 k l (x : Int) loads D (c : Int) U) (match ((MS l (c : Int)).drop m).findSome? (fun i => tryS loads x (c : Int) (l.getD i z38)) with | some r => (r.1, r.2, true) | none => res)
  | 0, m, U, e, hf => by
    rw [List.drop_of_length_le (by omega)]
    obtain ⟨K, hK⟩ := hnext
    refine ⟨K + 100, fun k hk => ?_⟩
    obtain ⟨k', rfl⟩ : ∃ k', k = k' + 1 := ⟨k - 1, by omega⟩
    simp only [List.findSome?_nil]
    rw [diapauseref15_Balance.l2]
    rcases lowest_r l hl (c : Int) U m hf k' (by omega) with ⟨h, _⟩ | ⟨_, h⟩
    · omega
    · rw [h, bs, if_pos (by omega)]
      exact hK k' (by omega)
  | n + 1, m, U, e, hf => by
    have hm : m < (MS l (c : Int)).length := by omega
    have hmem := (mem_MS l (c : Int) _).1 (List.getElem_mem hm)
    obtain ⟨j, hj⟩ : ∃ j, j = (MS l (c : Int))[m] := ⟨_, rfl⟩
    rw [← hj] at hmem
    have eg : l.getD j z38 = l[j] := by simp [hmem.1, List.getD]
    have hu2 := hU2 _ (List.getElem_mem hmem.1)
    obtain ⟨f, hf2⟩ := Int.eq_ofNat_of_zero_le hu2.1
    have hff : f < 18446744073709551616 := by omega
    have hfn := hf.next hm (by rw [← hj]; exact hmem.1)
    rw [← hj] at hfn
    obtain ⟨K, hK⟩ := seats_ev l hl hU2 x hx loads hloads hlb D c hc res hnext n (m + 1) _ (by omega) hfn
    rw [List.drop_eq_getElem_cons hm, List.findSome?_cons, ← hj, eg]
    have hcr := choose_range (f &&& x) loads
    rw [hloads] at hcr
    have htry : tryS loads x (c : Int) l[j] = if 0 ≤ chooseI (f &&& x) loads ∧ rd loads (chooseI (f &&& x) loads) + 1 < rd loads (c : Int) then some (l[j].f0, chooseI (f &&& x) loads) else none := by
      unfold tryS
      rw [if_pos (by rw [← eg]; exact hmem.2), hf2, Int.toNat_natCast]
    rw [htry]
    have hbase : ∀ k, K + 100 ≤ k → diapauseref15_Balance.l2 (k + 66) l (x : Int) loads D (c : Int) U = diapauseref15_Balance.l3 (k + 1) l (x : Int) loads D (c : Int) (U.set j true) (j : Int) (chooseI (f &&& x) loads) ((64 : Nat) : Int) := by
      intro k hk
      rw [show k + 66 = (k + 65) + 1 by omega, diapauseref15_Balance.l2]
      rcases lowest_r l hl (c : Int) U m hf (k + 65) (by omega) with ⟨h, e1⟩ | ⟨h, _⟩
      · rw [e1, bs, ← hj, if_neg (by omega), if_pos (by omega), if_pos (by have := hf.1; omega), Int.toNat_natCast]
        exact to_r l hl x hx loads hloads D _ (c : Int) j hmem.1 f hff hf2 k (by omega)
      · omega
    refine ⟨K + 200, fun k hk => ?_⟩
    obtain ⟨k', rfl⟩ : ∃ k', k = k' + 66 := ⟨k - 66, by omega⟩
    simp only
    rw [hbase k' (by omega), diapauseref15_Balance.l3, if_neg (by omega)]
    generalize chooseI (f &&& x) loads = t at hcr ⊢
    by_cases ht : 0 ≤ t
    · obtain ⟨tN, rfl⟩ := Int.eq_ofNat_of_zero_le ht
      have hb1 := hlb tN
      rw [if_pos ht, if_pos ht, if_pos (by omega), if_pos (by omega), if_pos (by omega), rd_nat, rd_nat, wrap64_id (by omega) (by omega)]
      by_cases hv : loads.getD tN 0 + 1 < loads.getD c 0
      · rw [if_pos hv, if_pos (by omega), if_pos (by omega), rd_T38_nat l j hmem.1, if_pos ⟨ht, hv⟩]
      · rw [if_neg hv, if_neg (fun h => hv h.2)]
        exact hK k' (by omega)
    · rw [if_neg ht, if_neg (fun h => ht h.1)]
      exact hK k' (by omega)
theorem cores_ev (l : List S38) (hl : l.length ≤ 40) (hU2 : ∀ s ∈ l, 0 ≤ s.f2 ∧ s.f2 < 18446744073709551616) (x : Nat) (hx : x < 18446744073709551616) (loads : List Int) (hloads : loads.length = 64) (hlb : ∀ c : Nat, 0 ≤ loads.getD c 0 ∧ loads.getD c 0 ≤ 1000000) :
    ∀ (n m : Nat) (D : List Bool), m + n = (CS loads x).length → Flags D 64 ((CS loads x).take m) →
    Ev (fun k => diapauseref15_Balance.l0 k l (x : Int) loads D) (balT (((CS loads x).drop m).findSome? fun c : Nat => (MS l (c : Int)).findSome? fun i => tryS loads x (c : Int) (l.getD i z38)))
  | 0, m, D, e, hD => by
    rw [List.drop_of_length_le (by omega)]
    refine ⟨1000, fun k hk => ?_⟩
    obtain ⟨k', rfl⟩ : ∃ k', k = (k' + 65) + 1 := ⟨k - 66, by omega⟩
    simp only [List.findSome?_nil]
    rw [diapauseref15_Balance.l0]
    rcases from_r l x hx loads hloads D m hD k' (by omega) with ⟨h, _⟩ | ⟨_, h⟩
    · omega
    · rw [h, diapauseref15_Balance.l1, if_neg (by omega), if_pos (by omega)]
      rfl
  | n + 1, m, D, e, hD => by
    have hm : m < (CS loads x).length := by omega
    have hmem := (mem_CS loads x _).1 (List.getElem_mem hm)
    obtain ⟨c, hc⟩ : ∃ c, c = (CS loads x)[m] := ⟨_, rfl⟩
    rw [← hc] at hmem
    have hDn := hD.next hm (by rw [← hc]; exact hmem.1)
    rw [← hc] at hDn
    have ih := cores_ev l hl hU2 x hx loads hloads hlb n (m + 1) _ (by omega) hDn
    obtain ⟨K, hK⟩ := seats_ev l hl hU2 x hx loads hloads hlb _ c hmem.1 _ ih (MS l (c : Int)).length 0 (List.replicate l.length false) (by omega) (by rw [List.take_zero]; exact Flags.none _)
    rw [List.drop_eq_getElem_cons hm, List.findSome?_cons, ← hc]
    rw [List.drop_zero] at hK
    refine ⟨K + 1000, fun k hk => ?_⟩
    obtain ⟨k', rfl⟩ : ∃ k', k = (k' + 65) + 1 := ⟨k - 66, by omega⟩
    simp only
    rw [diapauseref15_Balance.l0]
    rcases from_r l x hx loads hloads D m hD k' (by omega) with ⟨_, h⟩ | ⟨h, _⟩
    · rw [h, ← hc, diapauseref15_Balance.l1, if_neg (by omega), if_neg (by omega), if_pos (by omega), if_pos (by have := hD.1; omega), if_pos (by omega), if_pos (by omega), Int.toNat_natCast, Int.toNat_natCast]
      have := hK k' (by omega)
      simp only at this
      rw [this]
      cases hx2 : (MS l (c : Int)).findSome? (fun i => tryS loads x (c : Int) (l.getD i z38)) with
      | none => rfl
      | some r => rfl
    · omega
theorem refbal_ev (l : List S38) (hl : l.length ≤ 40) (hU2 : ∀ s ∈ l, 0 ≤ s.f2 ∧ s.f2 < 18446744073709551616) (x : Nat) (hx : x < 18446744073709551616) : Ev (fun k => diapauseref15_Balance.f k l (x : Int)) (balT (balO l x)) := by
  have hlb : ∀ c : Nat, 0 ≤ (loadsL l 64).getD c 0 ∧ (loadsL l 64).getD c 0 ≤ 1000000 := by
    intro c
    by_cases h : c < 64
    · rw [loadsL_get _ _ _ h]; have := loadN_le l c; omega
    · rw [List.getD_eq_getElem?_getD, List.getElem?_eq_none (by rw [loadsL_length]; omega)]; simp
  obtain ⟨K, hK⟩ := cores_ev l hl hU2 x hx (loadsL l 64) (loadsL_length _ _) hlb (CS (loadsL l 64) x).length 0 (List.replicate 64 false) (by omega) (by rw [List.take_zero]; exact Flags.none _)
  rw [List.drop_zero] at hK
  refine ⟨K + 1000, fun k hk => ?_⟩
  simp only
  unfold diapauseref15_Balance.f
  have h64 : (mx 0 (mn 64 64)).toNat = 64 := by decide
  rw [loads_r l (by omega) 64 k (by omega), bs, h64, if_pos (by omega), balO_idx]
  exact hK k (by omega)
/- The document's own Settle, and the law. -/
theorem set_after (x : Nat) (id t : Int) (m2 : List S38) (hl : m2.length ≤ 40) (kk : Nat) (hne : ∀ j, (h : j < m2.length) → j ≠ kk → m2[j].f0 ≠ id) (cnt : Int) (k : Nat) : ∀ (n i : Nat), kk < i → i + n = m2.length →
    diapauseref15_Settle.l1 (k + n + 1) (x : Int) m2 cnt id t (i : Int) = diapauseref15_Settle.l0 k (x : Int) m2 (wrap64 (cnt + 1))
  | 0, i, hi, e => by
    rw [Nat.add_zero, diapauseref15_Settle.l1, if_neg (by omega)]
  | n + 1, i, hi, e => by
    rw [show k + (n + 1) + 1 = (k + n + 1) + 1 by omega, diapauseref15_Settle.l1, if_pos (by omega), if_pos (by omega), rd_T38_nat m2 i (by omega), if_neg (hne i (by omega) (by omega)), w64 (by omega)]
    exact set_after x id t m2 hl kk hne cnt k n (i + 1) (by omega) (by omega)
theorem set_upto (x : Nat) (l : List S38) (hl : l.length ≤ 40) (kk : Nat) (hkk : kk < l.length) (t : Int) (ha : apart l) (cnt : Int) (k : Nat) : ∀ (n i : Nat), i + n = kk →
    diapauseref15_Settle.l1 (k + (l.length - i) + 1) (x : Int) l cnt l[kk].f0 t (i : Int) = diapauseref15_Settle.l0 k (x : Int) (l.set kk ⟨l[kk].f0, t, l[kk].f2⟩) (wrap64 (cnt + 1))
  | 0, i, e => by
    obtain rfl : i = kk := by omega
    rw [show k + (l.length - i) + 1 = (k + (l.length - i - 1) + 1) + 1 by omega, diapauseref15_Settle.l1, if_pos (by omega), if_pos (by omega), rd_T38_nat l i hkk, if_pos rfl, Int.toNat_natCast, w64 (by omega)]
    refine set_after x l[i].f0 t _ (by simpa using hl) i (fun j hj hji => ?_) cnt k (l.length - i - 1) (i + 1) (by omega) (by simp; omega)
    rw [List.getElem_set_ne (Ne.symm hji)]
    intro e
    exact hji (apart_inj ha (by simpa using hj) hkk e)
  | n + 1, i, e => by
    have hne : (l[i]'(by omega)).f0 ≠ l[kk].f0 := by
      intro e2
      have := apart_inj ha (show i < l.length by omega) hkk e2
      omega
    rw [show k + (l.length - i) + 1 = (k + (l.length - (i + 1)) + 1) + 1 by omega, diapauseref15_Settle.l1, if_pos (by omega), if_pos (by omega), rd_T38_nat l i (by omega), if_neg hne, w64 (by omega)]
    exact set_upto x l hl kk hkk t ha cnt k n (i + 1) (by omega)
theorem refset_ev (x : Nat) (hx : x < 18446744073709551616) : ∀ (f : Nat) (cur : List S38) (n : Nat), apart cur → sq cur ≤ 2 * f + 1 → cur.length ≤ 40 → (∀ s ∈ cur, 0 ≤ s.f2 ∧ s.f2 < 18446744073709551616) → n + f ≤ 1000000 →
    Ev (fun k => diapauseref15_Settle.l0 k (x : Int) cur (n : Int)) ((settleF x f cur n).1, (((settleF x f cur n).2 : Nat) : Int))
  | 0, cur, n, ha, hq, hl, hU, hn => by
    have hb : balO cur x = none := by
      cases hb : balO cur x with
      | none => rfl
      | some r =>
        obtain ⟨id, t⟩ := r
        obtain ⟨_, _, _, _, _, _, _, _, _, _, _, _, _, _, _, hsq⟩ := move_made ha hb
        omega
    obtain ⟨K, hK⟩ := refbal_ev cur hl hU x hx
    refine ⟨K + 10, fun k hk => ?_⟩
    obtain ⟨k', rfl⟩ : ∃ k', k = k' + 1 := ⟨k - 1, by omega⟩
    have h1 := hK k' (by omega)
    simp only at h1 ⊢
    rw [diapauseref15_Settle.l0, h1, bs, hb]
    rfl
  | f + 1, cur, n, ha, hq, hl, hU, hn => by
    obtain ⟨K, hK⟩ := refbal_ev cur hl hU x hx
    rw [settleF]
    cases hb : balO cur x with
    | none =>
      refine ⟨K + 10, fun k hk => ?_⟩
      obtain ⟨k', rfl⟩ : ∃ k', k = k' + 1 := ⟨k - 1, by omega⟩
      have h1 := hK k' (by omega)
      simp only at h1 ⊢
      rw [diapauseref15_Settle.l0, h1, bs, hb]
      rfl
    | some r =>
      obtain ⟨id, t⟩ := r
      obtain ⟨kk, hkk, c, tN, m1, m2, m3, m4, m5, m6, m7, m8, m9, m10, m11, m12⟩ := move_made ha hb
      obtain ⟨K2, hK2⟩ := refset_ev x hx f (setCore cur id t) (n + 1) m11 (by omega) (by rw [setCore_length]; exact hl) (setCore_f2 cur id t (fun z => 0 ≤ z ∧ z < 18446744073709551616) hU) (by omega)
      refine ⟨K + K2 + 100, fun k hk => ?_⟩
      obtain ⟨k', rfl⟩ : ∃ k', k = (k' + cur.length + 1) + 1 := ⟨k - cur.length - 2, by omega⟩
      have h1 := hK (k' + cur.length + 1) (by omega)
      have h2 := hK2 k' (by omega)
      simp only at h1 h2 ⊢
      rw [diapauseref15_Settle.l0, h1, bs, hb]
      simp only [balT, if_true]
      have h3 := set_upto x cur hl kk hkk t ha (n : Int) k' kk 0 (by omega)
      rw [m1, Nat.sub_zero] at h3
      have h4 : diapauseref15_Settle.l1 (k' + cur.length + 1) (x : Int) cur (n : Int) id t 0 = diapauseref15_Settle.l0 k' (x : Int) (setCore cur id t) (wrap64 ((n : Int) + 1)) := by
        rw [m10, ← m1] at *
        exact h3
      rw [h4, w64 (by omega)]
      exact h2
theorem same_self (l : List S38) (hl : l.length ≤ 1000) (k : Nat) (hk : 0 < k) : ∀ (n i : Nat), i + n = l.length → diapauseref15_Same.l0 (k + n) l l (i : Int) = some true
  | 0, i, e => by
    obtain ⟨j, rfl⟩ : ∃ j, k = j + 1 := ⟨k - 1, by omega⟩
    rw [Nat.add_zero, diapauseref15_Same.l0, if_neg (by omega)]
  | n + 1, i, e => by
    rw [← Nat.add_assoc, diapauseref15_Same.l0, if_pos (by omega), if_pos (by omega), if_pos (by omega), if_neg (by simp), w64 (by omega)]
    exact same_self l hl k hk n (i + 1) (by omega)
theorem loadMoves_pure (l0 : List S38) (a1 : Int) (hlen : l0.length ≤ 9223372036854775807) (h0 : ∀ s ∈ l0, okSeat s) (h1 : (Lit.int .u64 a1).wf = true) : ∃ k, diapauselaw15_LoadMoves.f k l0 a1 = some true := by
  obtain ⟨x, rfl, hx⟩ := bnd_u64 h1
  have hU : ∀ s ∈ l0, 0 ≤ s.f2 ∧ s.f2 < 18446744073709551616 := fun s hs => seat_ok (h0 s hs)
  by_cases c1 : (l0.length : Int) > 40
  · refine ⟨1, ?_⟩
    unfold diapauselaw15_LoadMoves.f
    rw [awake_f, bs, if_pos c1]
  · have hl : l0.length ≤ 40 := by omega
    obtain ⟨K1, hK1⟩ := refbal_ev l0 hl hU x hx
    rcases apart_r l0 hlen with ⟨ha, K2, hK2⟩ | ⟨ha, K2, hK2⟩
    · have hset : load_Settle.f l0 (x : Int) = some ((settleF x (l0.length * (l0.length + 64)) l0 0).1, (((settleF x (l0.length * (l0.length + 64)) l0 0).2 : Nat) : Int)) := by
        unfold load_Settle.f
        rw [if_pos ⟨⟨by omega, by omega⟩, by omega, hU⟩, Int.toNat_natCast]
      have hsp := settle_spec x (l0.length * (l0.length + 64)) l0 0 ha (settle_all x l0 ha)
      have hfu : l0.length * (l0.length + 64) ≤ 40 * 104 := Nat.mul_le_mul hl (by omega)
      obtain ⟨K3, hK3⟩ := refset_ev x hx (l0.length * (l0.length + 64)) l0 0 ha (settle_all x l0 ha) hl hU (by omega)
      refine ⟨K1 + K2 + K3 + 200 + 1, ?_⟩
      have e1 := hK1 (K1 + K2 + K3 + 200 + 1) (by omega)
      have e2 := hK2 (K1 + K2 + K3 + 200) (by omega)
      have e3 := hK3 (K1 + K2 + K3 + 200) (by omega)
      simp only at e1 e2 e3
      unfold diapauselaw15_LoadMoves.f
      rw [awake_f, bs, if_neg c1, bal_f l0 x hx hl hU, bs, e1, bs, if_pos rfl, if_pos rfl, bne_self_eq_false, diapauselaw15_LoadMoves.j0, if_neg (by decide), e2, bs, if_pos rfl, hset, bs]
      have e4 : diapauseref15_Settle.f (K1 + K2 + K3 + 200) l0 (x : Int) = some ((settleF x (l0.length * (l0.length + 64)) l0 0).1, (((settleF x (l0.length * (l0.length + 64)) l0 0).2 : Nat) : Int)) := by
        unfold diapauseref15_Settle.f
        rw [bs, if_pos (by simp; omega), List.nil_append]
        exact e3
      rw [e4, bs, if_pos rfl, if_pos rfl]
      generalize settleF x (l0.length * (l0.length + 64)) l0 0 = res at hsp ⊢
      have e5 : diapauseref15_Same.f (K1 + K2 + K3 + 200) res.1 res.1 = some true := by
        unfold diapauseref15_Same.f
        rw [if_pos rfl]
        have := same_self res.1 (by omega) (K1 + K2 + K3 + 200 - res.1.length) (by omega) res.1.length 0 (by omega)
        rw [show K1 + K2 + K3 + 200 - res.1.length + res.1.length = K1 + K2 + K3 + 200 by omega] at this
        exact this
      rw [e5, bs]
    · refine ⟨K1 + K2 + 200 + 1, ?_⟩
      have e1 := hK1 (K1 + K2 + 200 + 1) (by omega)
      have e2 := hK2 (K1 + K2 + 200) (by omega)
      simp only at e1 e2
      unfold diapauselaw15_LoadMoves.f
      rw [awake_f, bs, if_neg c1, bal_f l0 x hx hl hU, bs, e1, bs, if_pos rfl, if_pos rfl, bne_self_eq_false, diapauselaw15_LoadMoves.j0, if_neg (by decide), e2, bs, if_neg (by decide)]
end Go.Proofs.YtgkmipfcadiobaaDoor.GV
