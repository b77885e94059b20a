/- What the document's own functions (Has, Load, Loads, Choose, Same) compute, as printed; the example is as the chapter says. -/
import Derived.Test.YtgkmipfcadiobaaDoorLG
import Derived.Test.YtgkmipfcadiobaaDoorGLx3
set_option linter.unusedVariables false
namespace Go.Proofs.YtgkmipfcadiobaaDoor.GL
open Go Go.RowKit Go.Proofs.YtgkmipfcadiobaaDoor Pl Go.Proofs.YtgkmipfcadiobaaDoorW.PrintWords Go.Proofs.YtgkmipfcadiobaaDoorW.PrintMore GivenT GivenL GA
theorem bs {α β : Type} (a : α) (f : α → Option β) : (some a).bind f = f a := Eq.trans (Option.bind_some a f) (Eq.refl (f a))
theorem w64 {i : Nat} (h : i < 1000000000) : wrap64 ((i : Int) + 1) = ((i + 1 : Nat) : Int) := by unfold wrap64; omega
theorem bnd_u64 {n : Int} (h : (Lit.int .u64 n).wf = true) : ∃ x : Nat, n = x ∧ x < 18446744073709551616 := by
  simp [Lit.wf, IntKind.min, IntKind.max, IntKind.signed, IntKind.bits] at h
  exact ⟨n.toNat, by omega, by omega⟩
theorem awake_f : diapauselaw15_awake.f = some true := by
  unfold diapauselaw15_awake.f
  rw [bs]
  have hok : okS ex3 3 := ⟨⟨by omega, by omega⟩, by decide, by decide⟩
  have h1 : load_Balance.f ex3 3 = some (1, 1, true) := by
    unfold load_Balance.f
    rw [if_pos hok, show (3 : Int).toNat = 3 from rfl, bal_ex]; rfl
  have h2 : load_Settle.f ex3 3 = some (ex3b, 1) := by
    unfold load_Settle.f
    rw [if_pos hok, show (3 : Int).toNat = 3 from rfl, show ex3.length * (ex3.length + 64) = 201 from rfl, set_ex]; rfl
  show (load_Balance.f ex3 3).bind _ = _
  rw [h1, bs]
  show (load_Settle.f ex3 3).bind _ = _
  rw [h2, bs]
  rfl
/-- Is a number a core of a set? -/
def hasL (x : Nat) (c : Int) : Bool := decide (0 ≤ c ∧ c < 64) && x.testBit c.toNat
theorem hasL_nat (x c : Nat) (h : c < 64) : hasL x (c : Nat) = x.testBit c := by
  unfold hasL
  have : decide (0 ≤ (c : Int) ∧ (c : Int) < 64) = true := by simp; omega
  rw [this]; simp
theorem hasL_out (x : Nat) (c : Int) (h : c < 0 ∨ 64 ≤ c) : hasL x c = false := by
  unfold hasL
  have : decide (0 ≤ c ∧ c < 64) = false := by simp; omega
  rw [this]; rfl
theorem has_loop (k : Nat) (c : Nat) (hc : c < 64) : ∀ (n i x : Nat), x < 18446744073709551616 → i + n = c → diapauseref03_Has.l0 (k + n + 1) (x : Int) (c : Int) (i : Int) = some (x.testBit n) := by
  intro n
  induction n with
  | zero =>
    intro i x hx h
    rw [diapauseref03_Has.l0, if_neg (by omega)]
    congr 1
    rw [Nat.testBit_zero, Bool.eq_iff_iff, beq_iff_eq, decide_eq_true_iff]
    have : Int.tmod (x : Int) 2 = ((x % 2 : Nat) : Int) := by rw [Int.tmod_eq_emod_of_nonneg (by omega)]; omega
    rw [this]; omega
  | succ n ih =>
    intro i x hx h
    have e : IntKind.u64.wrap (Int.tdiv (x : Int) 2) = ((x / 2 : Nat) : Int) := by
      rw [Int.tdiv_eq_ediv_of_nonneg (by omega), IntKind.wrap_u64]
      omega
    rw [show k + (n + 1) + 1 = (k + n + 1) + 1 by omega, diapauseref03_Has.l0, if_pos (by omega), e, w64 (by omega), ih (i + 1) (x / 2) (by omega) (by omega), Nat.testBit_succ]
theorem has_r (k : Nat) (hk : 66 ≤ k) (x : Nat) (hx : x < 18446744073709551616) (c : Int) : diapauseref03_Has.f k (x : Int) c = some (hasL x c) := by
  obtain ⟨j, rfl⟩ : ∃ j, k = j + 65 + 1 := ⟨k - 66, by omega⟩
  unfold diapauseref03_Has.f
  by_cases h : c < 0
  · rw [if_pos h, diapauseref03_Has.j0, if_pos rfl, hasL_out x c (.inl h)]
  · rw [if_neg h]
    obtain ⟨n, rfl⟩ := Int.eq_ofNat_of_zero_le (show 0 ≤ c by omega)
    by_cases h2 : (n : Int) > 63
    · rw [decide_eq_true h2, diapauseref03_Has.j0, if_pos rfl, hasL_out x _ (by omega)]
    · rw [decide_eq_false h2, diapauseref03_Has.j0, if_neg (by decide), hasL_nat x n (by omega)]
      have := has_loop (j + 64 - n) n (by omega) n 0 x hx (by omega)
      rw [show j + 64 - n + n + 1 = j + 65 by omega] at this
      exact this
/-- How many seats are on a core. -/
def loadI (l : List S38) (c : Int) : Nat := (l.filter fun s => s.f1 == c).length
theorem loadI_nat (l : List S38) (c : Nat) : loadI l (c : Int) = loadN l c := rfl
theorem load_loop (l : List S38) (hl : l.length ≤ 1000000) (c : Int) : ∀ (k i : Nat), i ≤ l.length → l.length < k + i → diapauseref15_Load.l0 k l c ((loadI (l.take i) c : Nat) : Int) (i : Int) = some ((loadI l c : Nat) : Int)
  | 0, i, h1, h2 => by omega
  | k + 1, i, h1, h2 => by
    rw [diapauseref15_Load.l0]
    by_cases hi : i < l.length
    · have ih := load_loop l hl c k (i + 1) hi (by omega)
      have hs : loadI (l.take (i + 1)) c = loadI (l.take i) c + (if l[i].f1 = c then 1 else 0) := by
        unfold loadI
        rw [take_succ_of l i hi, List.filter_append, List.length_append]
        by_cases h : l[i].f1 = c <;> simp [h]
      have hb : loadI (l.take i) c ≤ i := by
        have := List.length_filter_le (fun s : S38 => s.f1 == c) (l.take i)
        unfold loadI
        simp at this ⊢; omega
      rw [if_pos (by omega), if_pos (by omega), rd_T38_nat l i hi, w64 (i := i) (by omega)]
      by_cases h : l[i].f1 = c
      · rw [if_pos h, w64 (by omega)]
        rw [hs, if_pos h] at ih
        exact ih
      · rw [if_neg h]
        rw [hs, if_neg h, Nat.add_zero] at ih
        exact ih
    · rw [if_neg (by omega), List.take_of_length_le (by omega)]
theorem load_r (l : List S38) (hl : l.length ≤ 1000000) (c : Int) (k : Nat) (hk : l.length < k) : diapauseref15_Load.f k l c = some ((loadI l c : Nat) : Int) := by
  unfold diapauseref15_Load.f
  have := load_loop l hl c k 0 (by omega) (by omega)
  rw [List.take_zero] at this
  exact this
theorem loads_loop (l : List S38) (hl : l.length ≤ 1000000) (a : Int) (n : Nat) (hn : n = (mx 0 (mn a 64)).toNat) (k : Nat) (hk : l.length < k) : ∀ (m i : Nat), i + m = n → diapauseref15_Loads.l0 (k + m + 1) l a (loadsL l i) (i : Int) = some (loadsL l n)
  | 0, i, h => by
    have : i = n := by omega
    subst this
    rw [diapauseref15_Loads.l0]
    by_cases c1 : (i : Int) < a
    · rw [if_pos c1, if_neg (by unfold mx mn at hn; (repeat' split at hn) <;> omega)]
    · rw [if_neg c1]
  | m + 1, i, h => by
    have hb : (n : Int) ≤ 64 ∧ (i : Int) < a := by unfold mx mn at hn; (repeat' split at hn) <;> omega
    rw [show k + (m + 1) + 1 = (k + m + 1) + 1 by omega, diapauseref15_Loads.l0, if_pos hb.2, if_pos (by omega), load_r l hl (i : Int) _ (by omega), bs, if_pos (by rw [loadsL_length]; omega), w64 (by omega), loadI_nat]
    have e : loadsL l i ++ [((loadN l i : Nat) : Int)] = loadsL l (i + 1) := by unfold loadsL; rw [List.range_succ, List.map_append]; rfl
    rw [e]
    exact loads_loop l hl a n hn k hk m (i + 1) (by omega)
theorem loads_r (l : List S38) (hl : l.length ≤ 1000000) (a : Int) (k : Nat) (hk : l.length + 100 < k) : diapauseref15_Loads.f k l a = some (loadsL l (mx 0 (mn a 64)).toNat) := by
  unfold diapauseref15_Loads.f
  have hb : (mx 0 (mn a 64)).toNat ≤ 64 := by unfold mx mn; (repeat' split) <;> omega
  have := loads_loop l hl a _ rfl (k - (mx 0 (mn a 64)).toNat - 1) (by omega) (mx 0 (mn a 64)).toNat 0 (by omega)
  rw [show k - (mx 0 (mn a 64)).toNat - 1 + (mx 0 (mn a 64)).toNat + 1 = k by omega] at this
  exact this
theorem same_loop (l : List Int) (hl : l.length ≤ 1000000) : ∀ (k i : Nat), i ≤ l.length → l.length < k + i → diapauseref03_Same.l0 k l l (i : Int) = some true
  | 0, i, h1, h2 => by omega
  | k + 1, i, h1, h2 => by
    rw [diapauseref03_Same.l0]
    by_cases hi : i < l.length
    · rw [if_pos (by omega), if_pos (by omega), if_pos (by omega), if_pos rfl, w64 (by omega)]
      exact same_loop l hl k (i + 1) hi (by omega)
    · rw [if_neg (by omega)]
theorem same_r (l : List Int) (hl : l.length ≤ 1000000) (k : Nat) (hk : l.length < k) : diapauseref03_Same.f k l l = some true := by
  unfold diapauseref03_Same.f
  rw [if_pos rfl]
  exact same_loop l hl k 0 (by omega) (by omega)
/-! The core that is chosen. -/
def stepR (loads : List Int) (best c : Int) : Int := if best < 0 then c else if rd loads c < rd loads best then c else best
def hasN (x i : Nat) : Bool := decide (i < 64) && x.testBit i
theorem hasN_L (x i : Nat) : hasL x (i : Int) = hasN x i := by
  unfold hasN
  by_cases h : i < 64
  · rw [hasL_nat x i h]; simp [h]
  · rw [hasL_out x i (by omega)]; simp [h]
theorem range_filter (p : Nat → Bool) (b : Nat) : ∀ a : Nat, (List.range a).filter (fun i => decide (i < b) && p i) = (List.range (min a b)).filter p
  | 0 => by simp
  | a + 1 => by
    rw [List.range_succ, List.filter_append, range_filter p b a]
    by_cases h : a < b
    · rw [show min (a + 1) b = min a b + 1 by omega, List.range_succ, List.filter_append, show min a b = a by omega]
      congr 1
      cases hp : p a <;> simp [h, hp]
    · rw [show min (a + 1) b = min a b by omega]
      simp [h]
theorem step_filter (l : List Int) : ∀ (cs : List Nat) (best : Int), (cs.map fun c : Nat => (c : Int)).foldl (stepI l) best = ((cs.filter fun c => decide (c < l.length)).map fun c : Nat => (c : Int)).foldl (stepR l) best
  | [], best => rfl
  | c :: cs, best => by
    rw [List.map_cons, List.foldl_cons, step_filter l cs]
    by_cases h : c < l.length
    · rw [List.filter_cons_of_pos (by simpa using h), List.map_cons, List.foldl_cons]
      congr 1
      unfold stepI stepR
      rw [if_pos (by omega)]
    · rw [List.filter_cons_of_neg (by simpa using h)]
      congr 1
      unfold stepI
      rw [if_neg (by omega)]
theorem chooseI_R (x : Nat) (l : List Int) : chooseI x l = (((List.range' 0 l.length).filter (hasN x)).map fun c : Nat => (c : Int)).foldl (stepR l) (-1) := by
  unfold chooseI
  rw [step_filter]
  congr 2
  unfold cores
  rw [List.filter_filter, range_filter, ← List.range_eq_range']
  have := range_filter (fun i => x.testBit i) 64 l.length
  unfold hasN
  rw [this, Nat.min_comm]
end Go.Proofs.YtgkmipfcadiobaaDoor.GL
