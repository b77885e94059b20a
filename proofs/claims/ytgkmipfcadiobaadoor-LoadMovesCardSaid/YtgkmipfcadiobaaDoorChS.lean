/- What load.Choose chooses: the first core of the set with the least load. -/
import Derived.Test.YtgkmipfcadiobaaDoorRefL
set_option linter.unusedVariables false
namespace Go.Proofs.YtgkmipfcadiobaaDoor.GL
open Go Go.RowKit Go.Proofs.YtgkmipfcadiobaaDoor Pl Go.Proofs.YtgkmipfcadiobaaDoorW.PrintWords Go.Proofs.YtgkmipfcadiobaaDoorW.PrintMore GivenT GivenL GA
/-- What is chosen: none, if none of the set has a load; else the first of those with the least one. -/
theorem chooseN_spec (x : Nat) (l : List Int) : ∀ n : Nat,
    ((((List.range n).filter (hasN x)).map fun c : Nat => (c : Int)).foldl (stepR l) (-1) = -1 ∧ ∀ k, k < n → hasN x k = false) ∨
    ∃ c : Nat, (((List.range n).filter (hasN x)).map fun c : Nat => (c : Int)).foldl (stepR l) (-1) = (c : Int) ∧ c < n ∧ hasN x c = true ∧ ∀ k, k < n → hasN x k = true → rd l (c : Int) ≤ rd l (k : Int) ∧ (rd l (k : Int) = rd l (c : Int) → c ≤ k)
  | 0 => .inl ⟨rfl, fun k h => by omega⟩
  | n + 1 => by
    rw [List.range_succ, List.filter_append, List.map_append, List.foldl_append]
    have ih := chooseN_spec x l n
    cases hh : hasN x n with
    | false =>
      have e : ([n].filter (hasN x)) = [] := by simp [hh]
      rw [e]
      rcases ih with ⟨h1, h2⟩ | ⟨c, h1, h2, h3, h4⟩
      · exact .inl ⟨h1, fun k hk => by rcases Nat.lt_succ_iff_lt_or_eq.1 hk with h | h; exact h2 k h; rw [h]; exact hh⟩
      · exact .inr ⟨c, h1, by omega, h3, fun k hk hk2 => by
          rcases Nat.lt_succ_iff_lt_or_eq.1 hk with h | h
          · exact h4 k h hk2
          · rw [h, hh] at hk2; cases hk2⟩
    | true =>
      have e : ([n].filter (hasN x)) = [n] := by simp [hh]
      rw [e]
      simp only [List.map_cons, List.map_nil, List.foldl_cons, List.foldl_nil]
      rcases ih with ⟨h1, h2⟩ | ⟨c, h1, h2, h3, h4⟩
      · rw [h1]
        refine .inr ⟨n, by unfold stepR; rw [if_pos (by omega)], by omega, hh, fun k hk hk2 => ?_⟩
        rcases Nat.lt_succ_iff_lt_or_eq.1 hk with h | h
        · rw [h2 k h] at hk2; cases hk2
        · subst h; exact ⟨Int.le_refl _, fun _ => Nat.le_refl _⟩
      · rw [h1]
        unfold stepR
        rw [if_neg (by omega)]
        by_cases hlt : rd l (n : Int) < rd l (c : Int)
        · rw [if_pos hlt]
          refine .inr ⟨n, rfl, by omega, hh, fun k hk hk2 => ?_⟩
          rcases Nat.lt_succ_iff_lt_or_eq.1 hk with h | h
          · have := (h4 k h hk2).1
            exact ⟨by omega, fun e => by omega⟩
          · subst h; exact ⟨Int.le_refl _, fun _ => Nat.le_refl _⟩
        · rw [if_neg hlt]
          refine .inr ⟨c, rfl, by omega, h3, fun k hk hk2 => ?_⟩
          rcases Nat.lt_succ_iff_lt_or_eq.1 hk with h | h
          · exact h4 k h hk2
          · subst h; exact ⟨by omega, fun _ => by omega⟩
theorem chooseI_spec (x : Nat) (l : List Int) : (chooseI x l = -1 ∧ ∀ k, k < l.length → hasN x k = false) ∨
    ∃ c : Nat, chooseI x l = (c : Int) ∧ c < l.length ∧ hasN x c = true ∧ ∀ k, k < l.length → hasN x k = true → rd l (c : Int) ≤ rd l (k : Int) ∧ (rd l (k : Int) = rd l (c : Int) → c ≤ k) := by
  rw [chooseI_R, ← List.range_eq_range']
  exact chooseN_spec x l l.length
end Go.Proofs.YtgkmipfcadiobaaDoor.GL
