/- LoadLess' and LoadSettles' plain laws: the document's own functions. -/
import Derived.Test.YtgkmipfcadiobaaDoorSetP
import Derived.Test.YtgkmipfcadiobaaDoorGSx3
set_option linter.unusedVariables false
namespace Go.Proofs.YtgkmipfcadiobaaDoor.GS
open Go Go.RowKit Go.Proofs.YtgkmipfcadiobaaDoor Pl Go.Proofs.YtgkmipfcadiobaaDoorW.PrintWords Go.Proofs.YtgkmipfcadiobaaDoorW.PrintMore GivenT GivenL GA GL
theorem wN {i n : Nat} (h : i < n) (hn : n ≤ 9223372036854775807) : wrap64 ((i : Int) + 1) = ((i + 1 : Nat) : Int) := by rw [wrap64_id (by omega) (by omega)]; omega
theorem apart_in (l : List S38) (hn : l.length ≤ 9223372036854775807) (i : Nat) (hi : i < l.length) (r : Bool) (h : Ev (fun k => diapauseref15_Apart.l0 k l ((i + 1 : Nat) : Int)) r) : ∀ (m j : Nat), j + m = i →
    (∀ a, (ha : j ≤ a) → (hb : a < i) → (l[a]'(by omega)).f0 ≠ l[i].f0) → Ev (fun k => diapauseref15_Apart.l1 k l (i : Int) (j : Int)) r
  | 0, j, e, hd => by
    refine Ev.step (f := fun k => diapauseref15_Apart.l0 k l ((i + 1 : Nat) : Int)) (fun k => ?_) h
    rw [diapauseref15_Apart.l1, if_neg (by omega), wN hi hn]
  | m + 1, j, e, hd => by
    have ih := apart_in l hn i hi r h m (j + 1) (by omega) (fun a ha hb => hd a (by omega) hb)
    refine Ev.step (f := fun k => diapauseref15_Apart.l1 k l (i : Int) ((j + 1 : Nat) : Int)) (fun k => ?_) ih
    rw [diapauseref15_Apart.l1, if_pos (by omega), if_pos (by omega), if_pos (by omega), if_pos (by omega), if_pos (by omega), rd_T38_nat l j (by omega), rd_T38_nat l i hi, if_neg (hd j (Nat.le_refl _) (by omega)), wN (show j < l.length by omega) hn]
theorem apart_hit (l : List S38) (hn : l.length ≤ 9223372036854775807) (i : Nat) (hi : i < l.length) : ∀ (m j : Nat), j + m = i →
    (∃ a, ∃ (ha : j ≤ a) (hb : a < i), (l[a]'(by omega)).f0 = l[i].f0) → Ev (fun k => diapauseref15_Apart.l1 k l (i : Int) (j : Int)) false
  | 0, j, e, hd => by obtain ⟨a, ha, hb, _⟩ := hd; omega
  | m + 1, j, e, hd => by
    by_cases c : (l[j]'(by omega)).f0 = l[i].f0
    · refine Ev.step (f := fun _ => some false) (fun k => ?_) (Ev.now false)
      rw [diapauseref15_Apart.l1, if_pos (by omega), if_pos (by omega), if_pos (by omega), if_pos (by omega), if_pos (by omega), rd_T38_nat l j (by omega), rd_T38_nat l i hi, if_pos c]
    · have ih := apart_hit l hn i hi m (j + 1) (by omega) (by
        obtain ⟨a, ha, hb, h⟩ := hd
        refine ⟨a, ?_, hb, h⟩
        rcases Nat.lt_or_eq_of_le ha with h1 | h1
        · exact h1
        · subst h1; exact absurd h c)
      refine Ev.step (f := fun k => diapauseref15_Apart.l1 k l (i : Int) ((j + 1 : Nat) : Int)) (fun k => ?_) ih
      rw [diapauseref15_Apart.l1, if_pos (by omega), if_pos (by omega), if_pos (by omega), if_pos (by omega), if_pos (by omega), rd_T38_nat l j (by omega), rd_T38_nat l i hi, if_neg c, wN (show j < l.length by omega) hn]
theorem apart_yes (l : List S38) (hn : l.length ≤ 9223372036854775807) (ha : apart l) : ∀ (m i : Nat), i + m = l.length → Ev (fun k => diapauseref15_Apart.l0 k l (i : Int)) true
  | 0, i, e => by
    refine Ev.step (f := fun _ => some true) (fun k => ?_) (Ev.now true)
    rw [diapauseref15_Apart.l0, if_neg (by omega)]
  | m + 1, i, e => by
    have ih := apart_yes l hn ha m (i + 1) (by omega)
    have h1 := apart_in l hn i (by omega) true ih i 0 (by omega) (fun a _ hb => List.pairwise_iff_getElem.1 ha a i (by omega) (by omega) hb)
    refine Ev.step (f := fun k => diapauseref15_Apart.l1 k l (i : Int) ((0 : Nat) : Int)) (fun k => ?_) h1
    rw [diapauseref15_Apart.l0, if_pos (by omega)]
    rfl
theorem apart_no (l : List S38) (hn : l.length ≤ 9223372036854775807) (ha : ¬ apart l) : ∀ (m i : Nat), i + m = l.length → (∀ b, (hb : b < i) → (hl : b < l.length) → ∀ a, (h : a < b) → (l[a]'(by omega)).f0 ≠ l[b].f0) → Ev (fun k => diapauseref15_Apart.l0 k l (i : Int)) false
  | 0, i, e, hp => by
    exfalso
    exact ha (List.pairwise_iff_getElem.2 fun a b h1 h2 h3 => hp b (by omega) h2 a h3)
  | m + 1, i, e, hp => by
    have hi : i < l.length := by omega
    have key : Ev (fun k => diapauseref15_Apart.l1 k l (i : Int) ((0 : Nat) : Int)) false := by
      by_cases c : ∃ a, ∃ (h0 : 0 ≤ a) (hb : a < i), (l[a]'(by omega)).f0 = l[i].f0
      · exact apart_hit l hn i hi i 0 (by omega) c
      · refine apart_in l hn i hi false (apart_no l hn ha m (i + 1) (by omega) (fun b hb hl a h => ?_)) i 0 (by omega) (fun a h0 hb h => c ⟨a, h0, hb, h⟩)
        by_cases e : b = i
        · subst e; exact fun h' => c ⟨a, Nat.zero_le _, h, h'⟩
        · exact hp b (by omega) hl a h
    refine Ev.step (f := fun k => diapauseref15_Apart.l1 k l (i : Int) ((0 : Nat) : Int)) (fun k => ?_) key
    rw [diapauseref15_Apart.l0, if_pos (by omega)]
    rfl
theorem apart_r (l : List S38) (hn : l.length ≤ 9223372036854775807) : (apart l ∧ Ev (fun k => diapauseref15_Apart.f k l) true) ∨ (¬ apart l ∧ Ev (fun k => diapauseref15_Apart.f k l) false) := by
  by_cases ha : apart l
  · exact .inl ⟨ha, apart_yes l hn ha l.length 0 (by omega)⟩
  · exact .inr ⟨ha, apart_no l hn ha l.length 0 (by omega) (fun b hb => by omega)⟩
theorem seat_ok {s : S38} (h : okSeat s) : 0 ≤ s.f2 ∧ s.f2 < 18446744073709551616 := by
  obtain ⟨_, _, h⟩ := h
  simp [Lit.wf, IntKind.min, IntKind.max, IntKind.signed, IntKind.bits] at h
  omega
theorem bal_f (l : List S38) (x : Nat) (hx : x < 18446744073709551616) (hl : l.length ≤ 40) (hU : ∀ s ∈ l, 0 ≤ s.f2 ∧ s.f2 < 18446744073709551616) : load_Balance.f l (x : Int) = some (balT (balO l x)) := by
  unfold load_Balance.f
  rw [if_pos ⟨⟨by omega, by omega⟩, by omega, hU⟩, Int.toNat_natCast]
end Go.Proofs.YtgkmipfcadiobaaDoor.GS
