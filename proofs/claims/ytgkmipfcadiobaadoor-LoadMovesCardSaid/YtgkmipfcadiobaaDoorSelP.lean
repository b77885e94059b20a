/- Selection by 'first least not yet taken' and the stable sort. -/
import Derived.Test.YtgkmipfcadiobaaDoorChS
set_option linter.unusedVariables false
namespace Go.Proofs.YtgkmipfcadiobaaDoor.GL
open Go Go.RowKit Go.Sort Go.Proofs.YtgkmipfcadiobaaDoor Pl Go.Proofs.YtgkmipfcadiobaaDoorW.PrintWords Go.Proofs.YtgkmipfcadiobaaDoorW.PrintMore GivenT GivenL GA
theorem mem_insF {α : Type} (lt : α → α → Bool) (x z : α) : ∀ ys : List α, z ∈ insF lt x ys ↔ z = x ∨ z ∈ ys
  | [] => by simp [insF]
  | y :: ys => by
    rw [insF]
    split
    · rw [List.mem_cons, mem_insF lt x z ys, List.mem_cons]
      constructor
      · rintro (h | h | h)
        · exact .inr (.inl h)
        · exact .inl h
        · exact .inr (.inr h)
      · rintro (h | h | h)
        · exact .inr (.inl h)
        · exact .inl h
        · exact .inr (.inr h)
    · simp
abbrev Bef (lt : Nat → Nat → Bool) (a b : Nat) : Prop := lt b a = false ∧ (lt a b = false → a < b)
theorem insF_bef {lt : Nat → Nat → Bool} (H : SWO lt) (x : Nat) : ∀ ys : List Nat, ys.Pairwise (Bef lt) → (∀ y ∈ ys, x < y) → (insF lt x ys).Pairwise (Bef lt)
  | [], _, _ => List.pairwise_singleton _ _
  | y :: ys, h, hx => by
    rw [List.pairwise_cons] at h
    rw [insF]
    cases hl : lt y x with
    | true =>
      rw [if_pos rfl, List.pairwise_cons]
      refine ⟨fun z hz => ?_, insF_bef H x ys h.2 (fun z hz => hx z (List.mem_cons_of_mem _ hz))⟩
      rcases (mem_insF lt x z ys).1 hz with rfl | hz
      · exact ⟨swo_asymm H hl, fun e => by rw [hl] at e; cases e⟩
      · exact h.1 z hz
    | false =>
      rw [if_neg (by decide), List.pairwise_cons]
      refine ⟨fun z hz => ?_, List.pairwise_cons.2 h⟩
      refine ⟨?_, fun _ => hx z hz⟩
      rcases List.mem_cons.1 hz with rfl | hz
      · exact hl
      · exact H.ntrans _ _ _ (h.1 z hz).1 hl
theorem stL_bef {lt : Nat → Nat → Bool} (H : SWO lt) : ∀ xs : List Nat, xs.Pairwise (· < ·) → (stL lt xs).Pairwise (Bef lt)
  | [], _ => .nil
  | x :: xs, h => by
    rw [List.pairwise_cons] at h
    rw [stL_cons H, mrg_one]
    exact insF_bef H x _ (stL_bef H xs h.2) (fun y hy => h.1 y ((stL_perm H xs).mem_iff.1 hy))
theorem insF_map {α β : Type} (f : α → β) (lt : β → β → Bool) (x : α) : ∀ ys : List α, (insF (fun a b => lt (f a) (f b)) x ys).map f = insF lt (f x) (ys.map f)
  | [] => rfl
  | y :: ys => by
    rw [insF, List.map_cons, insF]
    split
    · rw [List.map_cons, insF_map f lt x ys]
    · rfl
theorem swo_map {α β : Type} (f : α → β) {lt : β → β → Bool} (H : SWO lt) : SWO (fun a b => lt (f a) (f b)) :=
  ⟨fun x => H.irrefl _, fun x y z => H.trans _ _ _, fun x y z => H.ntrans _ _ _⟩
theorem stL_map {α β : Type} (f : α → β) {lt : β → β → Bool} (H : SWO lt) : ∀ xs : List α, (stL (fun a b => lt (f a) (f b)) xs).map f = stL lt (xs.map f)
  | [] => rfl
  | x :: xs => by rw [stL_cons (swo_map f H), mrg_one, insF_map, stL_map f H xs, List.map_cons, stL_cons H, mrg_one]
/-- The first of the least ones. -/
def First (ok : Nat → Prop) (lt : Nat → Nat → Bool) (c : Nat) : Prop := ok c ∧ ∀ k, ok k → lt k c = false ∧ (lt c k = false → c ≤ k)
theorem First.uniq {ok : Nat → Prop} {lt : Nat → Nat → Bool} {c d : Nat} (h1 : First ok lt c) (h2 : First ok lt d) : c = d := by
  have a := h1.2 d h2.1
  have b := h2.2 c h1.1
  have := a.2 b.1
  have := b.2 a.1
  omega
theorem bef_ne {lt : Nat → Nat → Bool} (H : SWO lt) {a b : Nat} (h : Bef lt a b) : a ≠ b := by
  rintro rfl
  have := h.2 (H.irrefl a)
  omega
/-- In a list so sorted the next one is the first least of those that are not yet taken. -/
theorem first_next {lt : Nat → Nat → Bool} (H : SWO lt) (M : List Nat) (h : M.Pairwise (Bef lt)) (m : Nat) (hm : m < M.length) : First (fun k => k ∈ M ∧ k ∉ M.take m) lt M[m] := by
  refine ⟨⟨List.getElem_mem hm, fun hc => ?_⟩, fun k hk => ?_⟩
  · obtain ⟨j, hj, e⟩ := List.mem_iff_getElem.1 hc
    have hj2 : j < m := by simp at hj; omega
    rw [List.getElem_take] at e
    exact bef_ne H (List.pairwise_iff_getElem.1 h j m (by omega) hm hj2) e
  · obtain ⟨j, hj, rfl⟩ := List.mem_iff_getElem.1 hk.1
    rcases Nat.lt_trichotomy j m with h1 | h1 | h1
    · exact absurd (List.mem_iff_getElem.2 ⟨j, by simp; omega, by rw [List.getElem_take]⟩) hk.2
    · subst h1; exact ⟨H.irrefl _, fun _ => Nat.le_refl _⟩
    · have := List.pairwise_iff_getElem.1 h m j hm hj h1
      exact ⟨this.1, fun e => by have := this.2 e; omega⟩
/-- Go's own search: 'for i .. if ok(i) && (best < 0 || less(i, best)) { best = i }'. -/
def seek (ok : Nat → Bool) (lt : Nat → Nat → Bool) (best : Int) (i : Nat) : Int := if ok i = true then (if best < 0 then (i : Int) else if lt i best.toNat = true then (i : Int) else best) else best
theorem seek_spec (ok : Nat → Bool) {lt : Nat → Nat → Bool} (H : SWO lt) : ∀ n : Nat,
    ((List.range n).foldl (seek ok lt) (-1) = -1 ∧ ∀ k, k < n → ok k = false) ∨ ∃ c : Nat, (List.range n).foldl (seek ok lt) (-1) = (c : Int) ∧ c < n ∧ First (fun k => k < n ∧ ok k = true) lt c
  | 0 => .inl ⟨rfl, fun k h => by omega⟩
  | n + 1 => by
    rw [List.range_succ, List.foldl_append, List.foldl_cons, List.foldl_nil]
    have ih := seek_spec ok H n
    generalize (List.range n).foldl (seek ok lt) (-1) = b at ih ⊢
    cases ho : ok n with
    | false =>
      unfold seek
      rw [ho, if_neg (by decide)]
      rcases ih with ⟨h1, h2⟩ | ⟨c, h1, h2, h3⟩
      · exact .inl ⟨h1, fun k hk => by rcases Nat.lt_succ_iff_lt_or_eq.1 hk with h | h; exact h2 k h; rw [h]; exact ho⟩
      · refine .inr ⟨c, h1, by omega, ⟨by omega, h3.1.2⟩, fun k hk => ?_⟩
        have hk2 : k ≠ n := by rintro rfl; rw [ho] at hk; exact absurd hk.2 (by decide)
        exact h3.2 k ⟨by omega, hk.2⟩
    | true =>
      unfold seek
      rw [ho, if_pos rfl]
      rcases ih with ⟨h1, h2⟩ | ⟨c, h1, h2, h3⟩
      · rw [h1, if_pos (by omega)]
        refine .inr ⟨n, rfl, by omega, ⟨by omega, ho⟩, fun k hk => ?_⟩
        rcases Nat.lt_succ_iff_lt_or_eq.1 hk.1 with h | h
        · have := h2 k h; rw [hk.2] at this; cases this
        · subst h; exact ⟨H.irrefl _, fun _ => Nat.le_refl _⟩
      · rw [h1, if_neg (by omega), Int.toNat_natCast]
        cases hl : lt n c with
        | true =>
          rw [if_pos rfl]
          refine .inr ⟨n, rfl, by omega, ⟨by omega, ho⟩, fun k hk => ?_⟩
          rcases Nat.lt_succ_iff_lt_or_eq.1 hk.1 with h | h
          · have hc := h3.2 k ⟨h, hk.2⟩
            have hkn : lt n k = true := by
              cases e : lt n k with
              | true => rfl
              | false => have := H.ntrans _ _ _ e hc.1; rw [hl] at this; cases this
            exact ⟨swo_asymm H hkn, fun e => by rw [hkn] at e; cases e⟩
          · subst h; exact ⟨H.irrefl _, fun _ => Nat.le_refl _⟩
        | false =>
          rw [if_neg (by decide)]
          refine .inr ⟨c, rfl, by omega, ⟨by omega, h3.1.2⟩, fun k hk => ?_⟩
          rcases Nat.lt_succ_iff_lt_or_eq.1 hk.1 with h | h
          · exact h3.2 k ⟨h, hk.2⟩
          · subst h; exact ⟨hl, fun _ => by omega⟩
end Go.Proofs.YtgkmipfcadiobaaDoor.GL
