/- LoadLess' and LoadSettles' plain laws: the document's own functions. -/
import Derived.Test.YtgkmipfcadiobaaDoorSetP
import Derived.Test.YtgkmipfcadiobaaDoorGSx3
set_option linter.unusedVariables false
namespace Go.Proofs.YtgkmipfcadiobaaDoor.GS
open Go Go.RowKit Go.Proofs.YtgkmipfcadiobaaDoor Pl Go.Proofs.YtgkmipfcadiobaaDoorW.PrintWords Go.Proofs.YtgkmipfcadiobaaDoorW.PrintMore GivenT GivenL GA GL
theorem wN {i n : Nat} (h : i < n) (hn : n ≤ 9223372036854775807) : wrap64 ((i : Int) + 1) = ((i + 1 : Nat) : Int) := by rw [wrap64_id (by omega) (by omega)]; omega
theorem apart_in (l : List S38) (hn : l.length ≤ 9223372036854775807) (i : Nat) (hi : i < l.length) (r : Bool) (h : Ev (fun k => diapauseref15_Apart.l0 k l ((i + 1 : Nat) : Int)) r) : ∀ (m j : Nat), j + m = i →
    (∀ a, (ha : j ≤ a) → (hb : a < i) → (l[a]'(by omega)).f0 ≠ l[i].f0) → Ev (fun k => diapauseref15_Apart.l1 k l (i : Int) (j : Int)) r
  | 0, j, e, hd => by
    refine Ev.step (f := fun k => diapauseref15_Apart.l0 k l ((i + 1 : Nat) : Int)) (fun k => ?_) h
    rw [diapauseref15_Apart.l1, if_neg (by omega), wN hi hn]
  | m + 1, j, e, hd => by
    have ih := apart_in l hn i hi r h m (j + 1) (by omega) (fun a ha hb => hd a (by omega) hb)
    refine Ev.step (f := fun k => diapauseref15_Apart.l1 k l (i : Int) ((j + 1 : Nat) : Int)) (fun k => ?_) ih
    rw [diapauseref15_Apart.l1, if_pos (by omega), if_pos (by omega), if_pos (by omega), if_pos (by omega), if_pos (by omega), rd_T38_nat l j (by omega), rd_T38_nat l i hi, if_neg (hd j (Nat.le_refl _) (by omega)), wN (show j < l.length by omega) hn]
theorem apart_hit (l : List S38) (hn : l.length ≤ 9223372036854775807) (i : Nat) (hi : i < l.length) : ∀ (m j : Nat), j + m = i →
    (∃ a, ∃ (ha : j ≤ a) (hb : a < i), (l[a]'(by omega)).f0 = l[i].f0) → Ev (fun k => diapauseref15_Apart.l1 k l (i : Int) (j : Int)) false
  | 0, j, e, hd => by obtain ⟨a, ha, hb, _⟩ := hd; omega
  | m + 1, j, e, hd => by
    by_cases c : (l[j]'(by omega)).f0 = l[i].f0
    · refine Ev.step (f := fun _ => some false) (fun k => ?_) (Ev.now false)
      rw [diapauseref15_Apart.l1, if_pos (by omega), if_pos (by omega), if_pos (by omega), if_pos (by omega), if_pos (by omega), rd_T38_nat l j (by omega), rd_T38_nat l i hi, if_pos c]
    · have ih := apart_hit l hn i hi m (j + 1) (by omega) (by
        obtain ⟨a, ha, hb, h⟩ := hd
        refine ⟨a, ?_, hb, h⟩
        rcases Nat.lt_or_eq_of_le ha with h1 | h1
        · exact h1
        · subst h1; exact absurd h c)
      refine Ev.step (f := fun k => diapauseref15_Apart.l1 k l (i : Int) ((j + 1 : Nat) : Int)) (fun k => ?_) ih
      rw [diapauseref15_Apart.l1, if_pos (by omega), if_pos (by omega), if_pos (by omega), if_pos (by omega), if_pos (by omega), rd_T38_nat l j (by omega), rd_T38_nat l i hi, if_neg c, wN (show j < l.length by omega) hn]
theorem apart_yes (l : List S38) (hn : l.length ≤ 9223372036854775807) (ha : apart l) : ∀ (m i : Nat), i + m = l.length → Ev (fun k => diapauseref15_Apart.l0 k l (i : Int)) true
  | 0, i, e => by
    refine Ev.step (f := fun _ => some true) (fun k => ?_) (Ev.now true)
    rw [diapauseref15_Apart.l0, if_neg (by omega)]
  | m + 1, i, e => by
    have ih := apart_yes l hn ha m (i + 1) (by omega)
    have h1 := apart_in l hn i (by omega) true ih i 0 (by omega) (fun a _ hb => List.pairwise_iff_getElem.1 ha a i (by omega) (by omega) hb)
    refine Ev.step (f := fun k => diapauseref15_Apart.l1 k l (i : Int) ((0 : Nat) : Int)) (fun k => ?_) h1
    rw [diapauseref15_Apart.l0, if_pos (by omega)]
    rfl
theorem apart_no (l : List S38) (hn : l.length ≤ 9223372036854775807) (ha : ¬ apart l) : ∀ (m i : Nat), i + m = l.length → (∀ b, (hb : b < i) → (hl : b < l.length) → ∀ a, (h : a < b) → (l[a]'(by omega)).f0 ≠ l[b].f0) → Ev (fun k => diapauseref15_Apart.l0 k l (i : Int)) false
  | 0, i, e, hp => by
    exfalso
    exact ha (List.pairwise_iff_getElem.2 fun a b h1 h2 h3 => hp b (by omega) h2 a h3)
  | m + 1, i, e, hp => by
    have hi : i < l.length := by omega
    have key : Ev (fun k => diapauseref15_Apart.l1 k l (i : Int) ((0 : Nat) : Int)) false := by
      by_cases c : ∃ a, ∃ (h0 : 0 ≤ a) (hb : a < i), (l[a]'(by omega)).f0 = l[i].f0
      · exact apart_hit l hn i hi i 0 (by omega) c
      · refine apart_in l hn i hi false (apart_no l hn ha m (i + 1) (by omega) (fun b hb hl a h => ?_)) i 0 (by omega) (fun a h0 hb h => c ⟨a, h0, hb, h⟩)
        by_cases e : b = i
        · subst e; exact fun h' => c ⟨a, Nat.zero_le _, h, h'⟩
        · exact hp b (by omega) hl a h
    refine Ev.step (f := fun k => diapauseref15_Apart.l1 k l (i : Int) ((0 : Nat) : Int)) (fun k => ?_) key
    rw [diapauseref15_Apart.l0, if_pos (by omega)]
    rfl
theorem apart_r (l : List S38) (hn : l.length ≤ 9223372036854775807) : (apart l ∧ Ev (fun k => diapauseref15_Apart.f k l) true) ∨ (¬ apart l ∧ Ev (fun k => diapauseref15_Apart.f k l) false) := by
  by_cases ha : apart l
  · exact .inl ⟨ha, apart_yes l hn ha l.length 0 (by omega)⟩
  · exact .inr ⟨ha, apart_no l hn ha l.length 0 (by omega) (fun b hb => by omega)⟩
theorem squares_loop (l : List S38) (hl : l.length ≤ 40) (k : Nat) (hk : 50 < k) : ∀ (m i : Nat), i + m = 64 → diapauselaw15_squares.l0 (k + m + 1) l ((sqF (loadN l) i : Nat) : Int) (i : Int) = some ((sq l : Nat) : Int)
  | 0, i, e => by
    obtain rfl : i = 64 := by omega
    rw [diapauselaw15_squares.l0, if_neg (by omega)]
    rfl
  | m + 1, i, e => by
    have hb : loadN l i ≤ 40 := Nat.le_trans (loadN_le l i) hl
    have h2 : loadN l i * loadN l i ≤ 1600 := Nat.mul_le_mul hb hb
    have h3 : ∀ n, n ≤ 64 → sqF (loadN l) n ≤ n * 1600 := by
      intro n; induction n with
      | zero => intro _; exact Nat.le_refl _
      | succ n ih =>
        intro hn
        rw [sqF]
        have := ih (by omega)
        have h4 : loadN l n * loadN l n ≤ 1600 := Nat.mul_le_mul (Nat.le_trans (loadN_le l n) hl) (Nat.le_trans (loadN_le l n) hl)
        omega
    have h4 := h3 i (by omega)
    have hm : ((loadN l i : Nat) : Int) * ((loadN l i : Nat) : Int) = ((loadN l i * loadN l i : Nat) : Int) := (Int.natCast_mul _ _).symm
    rw [show k + (m + 1) + 1 = (k + m + 1) + 1 by omega, diapauselaw15_squares.l0, if_pos (by omega), load_r l (by omega) (i : Int) _ (by omega), bs, loadI_nat, hm, wrap64_id (n := ((loadN l i * loadN l i : Nat) : Int)) (by omega) (by omega), w64 (by omega), wrap64_id (by omega) (by omega)]
    have ih := squares_loop l hl k hk m (i + 1) (by omega)
    rw [sqF] at ih
    rw [show ((sqF (loadN l) i : Nat) : Int) + ((loadN l i * loadN l i : Nat) : Int) = ((sqF (loadN l) i + loadN l i * loadN l i : Nat) : Int) by omega]
    exact ih
theorem squares_r (l : List S38) (hl : l.length ≤ 40) (k : Nat) (hk : 150 < k) : diapauselaw15_squares.f k l = some ((sq l : Nat) : Int) := by
  unfold diapauselaw15_squares.f
  have := squares_loop l hl (k - 65) (by omega) 64 0 (by omega)
  rw [show k - 65 + 64 + 1 = k by omega] at this
  exact this
theorem seat_ok {s : S38} (h : okSeat s) : 0 ≤ s.f2 ∧ s.f2 < 18446744073709551616 := by
  obtain ⟨_, _, h⟩ := h
  simp [Lit.wf, IntKind.min, IntKind.max, IntKind.signed, IntKind.bits] at h
  omega
theorem bal_f (l : List S38) (x : Nat) (hx : x < 18446744073709551616) (hl : l.length ≤ 40) (hU : ∀ s ∈ l, 0 ≤ s.f2 ∧ s.f2 < 18446744073709551616) : load_Balance.f l (x : Int) = some (balT (balO l x)) := by
  unfold load_Balance.f
  rw [if_pos ⟨⟨by omega, by omega⟩, by omega, hU⟩, Int.toNat_natCast]
/-- The law's own loop, from the seat that moves on. -/
theorem less_after (l : List S38) (x : Nat) (id t : Int) (hl : l.length ≤ 40) (m2 : List S38) (hm2 : m2.length = l.length) (kk : Nat) (hkk : kk < l.length) (hne : ∀ j, (h : j < m2.length) → j ≠ kk → m2[j].f0 ≠ id) (hsq : sq m2 < sq l) (k : Nat) (hk : 300 < k) : ∀ (n i : Nat), kk < i → i + n = l.length →
    diapauselaw15_LoadLess.l0 (k + n + 1) l (x : Int) true id t m2 true (i : Int) = some true
  | 0, i, hi, e => by
    rw [diapauselaw15_LoadLess.l0, if_neg (by omega), if_pos rfl, if_pos rfl, squares_r m2 (by omega) _ (by omega), bs, squares_r l hl _ (by omega), bs]
    congr 1
    exact decide_eq_true (by omega)
  | n + 1, i, hi, e => by
    rw [show k + (n + 1) + 1 = (k + n + 1) + 1 by omega, diapauselaw15_LoadLess.l0, if_pos (by omega), if_pos (by omega), rd_T38_nat m2 i (by omega), if_neg (hne i (by omega) (by omega)), w64 (by omega)]
    exact less_after l x id t hl m2 hm2 kk hkk hne hsq k hk n (i + 1) (by omega) (by omega)
theorem less_upto (l : List S38) (x : Nat) (hx : x < 18446744073709551616) (hl : l.length ≤ 40) (kk : Nat) (hkk : kk < l.length) (c tN : Nat) (h1 : l[kk].f1 = (c : Int)) (h2 : c < 64) (h3 : x.testBit c = true) (h4 : tN < 64) (h5 : x.testBit tN = true) (h6 : l[kk].f2.toNat.testBit tN = true) (h7 : c ≠ tN)
    (hU : 0 ≤ l[kk].f2 ∧ l[kk].f2 < 18446744073709551616) (ha : apart l) (hsq : sq (l.set kk ⟨l[kk].f0, (tN : Int), l[kk].f2⟩) < sq l) (k : Nat) (hk : 300 < k) : ∀ (n i : Nat), i + n = kk →
    diapauselaw15_LoadLess.l0 (k + (l.length - i) + 1) l (x : Int) true l[kk].f0 (tN : Int) l false (i : Int) = some true
  | 0, i, e => by
    obtain rfl : i = kk := by omega
    have hf2 : ((l[i].f2.toNat : Nat) : Int) = l[i].f2 := by omega
    have hr : diapauseref03_Has.f (k + (l.length - i - 1) + 1) l[i].f2 (tN : Int) = some true := by
      have := has_r (k + (l.length - i - 1) + 1) (by omega) l[i].f2.toNat (by omega) (tN : Int)
      rw [hf2, hasL_nat _ _ h4, h6] at this
      exact this
    rw [show k + (l.length - i) + 1 = (k + (l.length - i - 1) + 1) + 1 by omega, diapauselaw15_LoadLess.l0, if_pos (by omega), if_pos (by omega), rd_T38_nat l i hkk, if_pos rfl, h1, has_r _ (by omega) x hx, bs, hasL_nat x c h2, h3, if_pos rfl, has_r _ (by omega) x hx, bs, hasL_nat x tN h4, h5, if_pos rfl, hr, bs, if_pos rfl, if_neg (by omega), Int.toNat_natCast, w64 (by omega)]
    refine less_after l x l[i].f0 (tN : Int) hl _ (by simp) i hkk (fun j hj hji => ?_) hsq k hk (l.length - i - 1) (i + 1) (by omega) (by omega)
    rw [List.getElem_set_ne (Ne.symm hji)]
    intro e
    exact hji (apart_inj ha (by simpa using hj) hkk e)
  | n + 1, i, e => by
    have hne : (l[i]'(by omega)).f0 ≠ l[kk].f0 := by
      intro e2
      have := apart_inj ha (show i < l.length by omega) hkk e2
      omega
    rw [show k + (l.length - i) + 1 = (k + (l.length - (i + 1)) + 1) + 1 by omega, diapauselaw15_LoadLess.l0, if_pos (by omega), if_pos (by omega), rd_T38_nat l i (by omega), if_neg hne, w64 (by omega)]
    exact less_upto l x hx hl kk hkk c tN h1 h2 h3 h4 h5 h6 h7 hU ha hsq k hk n (i + 1) (by omega)
theorem loadLess_pure (l0 : List S38) (a1 : Int) (hlen : l0.length ≤ 9223372036854775807) (h0 : ∀ s ∈ l0, okSeat s) (h1 : (Lit.int .u64 a1).wf = true) : ∃ k, diapauselaw15_LoadLess.f k l0 a1 = some true := by
  obtain ⟨x, rfl, hx⟩ := bnd_u64 h1
  have hU : ∀ s ∈ l0, 0 ≤ s.f2 ∧ s.f2 < 18446744073709551616 := fun s hs => seat_ok (h0 s hs)
  rcases apart_r l0 hlen with ⟨ha, K, hK0⟩ | ⟨ha, K, hK0⟩
  · have hK : ∀ k, K ≤ k → diapauseref15_Apart.f k l0 = some true := hK0
    refine ⟨K + 1000, ?_⟩
    unfold diapauselaw15_LoadLess.f
    rw [awake_f, bs, hK _ (by omega), bs]
    by_cases c1 : (l0.length : Int) > 40
    · rw [if_pos c1, show K + 1000 = (K + 999) + 1 by omega, diapauselaw15_LoadLess.j0, if_pos rfl]
    · have hl : l0.length ≤ 40 := by omega
      rw [if_neg c1, show K + 1000 = (K + 999) + 1 by omega, diapauselaw15_LoadLess.j0, Bool.not_true, if_neg (by decide), bal_f l0 x hx hl hU, bs]
      cases hb : balO l0 x with
      | none => rfl
      | some r =>
        obtain ⟨id, t⟩ := r
        obtain ⟨k, hk, c, tN, m1, m2, m3, m4, rfl, m6, m7, m8, m9, m10, m11, m12⟩ := move_made ha hb
        show (if true = true then _ else _) = _
        rw [if_pos rfl, bs, if_pos (by simp; omega), List.nil_append]
        simp only [balT]
        have := less_upto l0 x hx hl k hk c tN m2 m3 m4 m6 m7 m8 m9 (hU _ (List.getElem_mem hk)) ha (by rw [← m10]; omega) (K + 999 - l0.length - 1) (by omega) k 0 (by omega)
        rw [m1, show K + 999 - l0.length - 1 + (l0.length - 0) + 1 = K + 999 by omega] at this
        exact this
  · have hK : ∀ k, K ≤ k → diapauseref15_Apart.f k l0 = some false := hK0
    refine ⟨K + 1000, ?_⟩
    unfold diapauselaw15_LoadLess.f
    rw [awake_f, bs, hK _ (by omega), bs]
    by_cases c1 : (l0.length : Int) > 40
    · rw [if_pos c1, show K + 1000 = (K + 999) + 1 by omega, diapauselaw15_LoadLess.j0, if_pos rfl]
    · rw [if_neg c1, show K + 1000 = (K + 999) + 1 by omega, diapauselaw15_LoadLess.j0, Bool.not_false, if_pos rfl]
end Go.Proofs.YtgkmipfcadiobaaDoor.GS
