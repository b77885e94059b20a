/- LoadSettles' plain law. -/
import Derived.Test.YtgkmipfcadiobaaDoorRefS
import Derived.Test.YtgkmipfcadiobaaDoorGSx4
set_option linter.unusedVariables false
namespace Go.Proofs.YtgkmipfcadiobaaDoor.GS
open Go Go.RowKit Go.Proofs.YtgkmipfcadiobaaDoor Pl Go.Proofs.YtgkmipfcadiobaaDoorW.PrintWords Go.Proofs.YtgkmipfcadiobaaDoorW.PrintMore GivenT GivenL GA GL
theorem S38_eq {a b : S38} (h0 : a.f0 = b.f0) (h1 : a.f1 = b.f1) (h2 : a.f2 = b.f2) : a = b := by cases a; cases b; simp_all
theorem same_yes (l : List S38) (hl : l.length ≤ 1000) (k : Nat) (hk : 0 < k) : ∀ (n i : Nat), i + n = l.length → diapauseref15_Same.l0 (k + n) l l (i : Int) = some true
  | 0, i, e => by
    obtain ⟨j, rfl⟩ : ∃ j, k = j + 1 := ⟨k - 1, by omega⟩
    rw [Nat.add_zero, diapauseref15_Same.l0, if_neg (by omega)]
  | n + 1, i, e => by
    rw [← Nat.add_assoc, diapauseref15_Same.l0, if_pos (by omega), if_pos (by omega), if_pos (by omega), if_neg (by simp), w64 (by omega)]
    exact same_yes l hl k hk n (i + 1) (by omega)
theorem same_no (a b : List S38) (hl : a.length ≤ 1000) (hab : a.length = b.length) (k : Nat) (hk : 0 < k) : ∀ (n i : Nat), i + n = a.length → (∃ j, ∃ (h1 : i ≤ j) (h2 : j < a.length) (h3 : j < b.length), a[j] ≠ b[j]) → diapauseref15_Same.l0 (k + n) a b (i : Int) = some false
  | 0, i, e, h => by obtain ⟨j, h1, h2, _⟩ := h; omega
  | n + 1, i, e, h => by
    have hi : i < a.length := by omega
    have hi2 : i < b.length := by omega
    rw [← Nat.add_assoc, diapauseref15_Same.l0, if_pos (by omega), if_pos (by omega), if_pos (by omega), rd_T38_nat a i hi, rd_T38_nat b i hi2]
    by_cases c : a[i] = b[i]
    · rw [c, if_neg (by simp), w64 (by omega)]
      refine same_no a b hl hab k hk n (i + 1) (by omega) ?_
      obtain ⟨j, h1, h2, h3, h4⟩ := h
      refine ⟨j, ?_, h2, h3, h4⟩
      rcases Nat.lt_or_eq_of_le h1 with h5 | h5
      · exact h5
      · subst h5; exact absurd c h4
    · rw [if_pos]
      rw [Bool.or_eq_true, Bool.or_eq_true]
      by_cases c0 : a[i].f0 = b[i].f0
      · by_cases c1 : a[i].f1 = b[i].f1
        · by_cases c2 : a[i].f2 = b[i].f2
          · exact absurd (S38_eq c0 c1 c2) c
          · right; right; simpa using c2
        · right; left; simpa using c1
      · left; simpa using c0
theorem settles_loop (l out : List S38) (x : Nat) (hx : x < 18446744073709551616) (hl : l.length ≤ 40) (hout : out.length = l.length) (m : Nat) (hU : ∀ s ∈ l, 0 ≤ s.f2 ∧ s.f2 < 18446744073709551616)
    (hw : ∀ i, (h : i < l.length) → (h' : i < out.length) → Went x l[i] out[i]) (hm : (m = 0 → out = l) ∧ (m ≠ 0 → out ≠ l)) (k : Nat) (hk : 200 < k) : ∀ (n i : Nat), i + n = l.length →
    diapauselaw15_LoadSettles.l0 (k + 2 * n + 1) l (x : Int) true out ((m : Nat) : Int) (i : Int) = some true
  | 0, i, e => by
    rw [Nat.mul_zero, Nat.add_zero, diapauselaw15_LoadSettles.l0, if_neg (by omega), if_pos rfl]
    have hs : diapauseref15_Same.f k out l = some (((m : Int) == 0)) := by
      unfold diapauseref15_Same.f
      rw [if_pos (by omega)]
      by_cases c : m = 0
      · have e2 := hm.1 c
        subst e2
        rw [c]
        have := same_yes out (by omega) (k - out.length) (by omega) out.length 0 (by omega)
        rw [show k - out.length + out.length = k by omega] at this
        exact this
      · have hne := hm.2 c
        have hex : ∃ j, ∃ (h1 : 0 ≤ j) (h2 : j < out.length) (h3 : j < l.length), out[j] ≠ l[j] := by
          apply Classical.byContradiction
          intro hno
          apply hne
          apply List.ext_getElem hout
          intro j h1 h2
          apply Classical.byContradiction
          intro h3
          exact hno ⟨j, Nat.zero_le _, h1, h2, h3⟩
        have := same_no out l (by omega) hout (k - out.length) (by omega) out.length 0 (by omega) hex
        rw [show k - out.length + out.length = k by omega] at this
        have hf : ((m : Int) == 0) = false := beq_eq_false_iff_ne.2 (by omega)
        rw [hf]
        exact this
    rw [hs, bs]
    simp
  | n + 1, i, e => by
    have hi : i < l.length := by omega
    have hi2 : i < out.length := by omega
    have ih := settles_loop l out x hx hl hout m hU hw hm k hk n (i + 1) (by omega)
    obtain ⟨w0, w2, w1⟩ := hw i hi hi2
    rw [show k + 2 * (n + 1) + 1 = (k + 2 * n + 1) + 1 + 1 by omega, diapauselaw15_LoadSettles.l0, if_pos (by omega), if_pos (by omega), if_pos (by omega), rd_T38_nat out i hi2, rd_T38_nat l i hi, if_pos w0, w2]
    rw [bne_self_eq_false, diapauselaw15_LoadSettles.j3, if_neg (by decide), if_pos (by omega), if_pos (by omega), if_pos (by omega), rd_T38_nat out i hi2, rd_T38_nat l i hi]
    by_cases c : out[i].f1 = l[i].f1
    · rw [if_pos c, w64 (by omega)]; exact ih
    · rw [if_neg c]
      rcases w1 with w1 | ⟨c1, d, r1, r2, r3, r4, r5, r6, r7⟩
      · exact absurd w1 c
      · have hu := hU _ (List.getElem_mem hi)
        have hf2 : ((l[i].f2.toNat : Nat) : Int) = l[i].f2 := by omega
        have hr : diapauseref03_Has.f (k + 2 * n + 1) l[i].f2 (d : Int) = some true := by
          have := has_r (k + 2 * n + 1) (by omega) l[i].f2.toNat (by omega) (d : Int)
          rw [hf2, hasL_nat _ _ r5, r7] at this
          exact this
        rw [r4, has_r _ (by omega) x hx, bs, hasL_nat x d r5, r6, if_pos rfl, w2, hr, bs, if_pos rfl, r1, has_r _ (by omega) x hx, bs, hasL_nat x c1 r2, r3, if_pos rfl, w64 (by omega)]
        exact ih
theorem loadSettles_pure (l0 : List S38) (a1 : Int) (hlen : l0.length ≤ 9223372036854775807) (h0 : ∀ s ∈ l0, okSeat s) (h1 : (Lit.int .u64 a1).wf = true) : ∃ k, diapauselaw15_LoadSettles.f k l0 a1 = some true := by
  obtain ⟨x, rfl, hx⟩ := bnd_u64 h1
  have hU : ∀ s ∈ l0, 0 ≤ s.f2 ∧ s.f2 < 18446744073709551616 := fun s hs => seat_ok (h0 s hs)
  rcases apart_r l0 hlen with ⟨ha, K, hK0⟩ | ⟨ha, K, hK0⟩
  · have hK : ∀ k, K ≤ k → diapauseref15_Apart.f k l0 = some true := hK0
    refine ⟨K + 1000, ?_⟩
    unfold diapauselaw15_LoadSettles.f
    rw [awake_f, bs, hK _ (by omega), bs]
    by_cases c1 : (l0.length : Int) > 40
    · rw [if_pos c1, show K + 1000 = (K + 999) + 1 by omega, diapauselaw15_LoadSettles.j0, if_pos rfl]
    · have hl : l0.length ≤ 40 := by omega
      have hset : load_Settle.f l0 (x : Int) = some ((settleF x (l0.length * (l0.length + 64)) l0 0).1, (((settleF x (l0.length * (l0.length + 64)) l0 0).2 : Nat) : Int)) := by
        unfold load_Settle.f
        rw [if_pos ⟨⟨by omega, by omega⟩, by omega, hU⟩, Int.toNat_natCast]
      obtain ⟨g1, g2, g3, g4, g5, g6, g7⟩ := settle_spec x (l0.length * (l0.length + 64)) l0 0 ha (settle_all x l0 ha)
      rw [if_neg c1, show K + 1000 = (K + 999) + 1 by omega, diapauselaw15_LoadSettles.j0, Bool.not_true, if_neg (by decide), hset, bs]
      generalize settleF x (l0.length * (l0.length + 64)) l0 0 = res at g1 g2 g3 g4 g5 g6 g7 ⊢
      obtain ⟨out, m⟩ := res
      simp only at g1 g2 g3 g4 g5 g6 g7 ⊢
      have hU2 : ∀ s ∈ out, 0 ≤ s.f2 ∧ s.f2 < 18446744073709551616 := by
        intro s hs
        obtain ⟨j, hj, rfl⟩ := List.mem_iff_getElem.1 hs
        rw [(g7 j (by omega) hj).2.1]
        exact hU _ (List.getElem_mem _)
      have hq := sq_le l0
      have hq2 : l0.length * l0.length ≤ 1600 := Nat.mul_le_mul hl hl
      rw [bal_f out x hx (by omega) hU2, bs, g1]
      show (if false = true then _ else _) = _
      rw [if_neg (by decide), if_pos (by omega), if_neg (by omega), squares_r l0 hl _ (by omega), bs, squares_r out (by omega) _ (by omega), bs, wrap64_id (by omega) (by omega), wrap64_id (by omega) (by omega)]
      have hd : decide (2 * ((m : Nat) : Int) > ((sq l0 : Nat) : Int) - ((sq out : Nat) : Int)) = false := decide_eq_false (by omega)
      rw [hd, show K + 999 = (K + 998) + 1 by omega, diapauselaw15_LoadSettles.j1, if_neg (by decide)]
      have := settles_loop l0 out x hx hl (by omega) m hU g7 ⟨fun h => g6 h, fun h e => by subst e; omega⟩ (K + 998 - 2 * l0.length - 1) (by omega) l0.length 0 (by omega)
      rw [show K + 998 - 2 * l0.length - 1 + 2 * l0.length + 1 = K + 998 by omega] at this
      exact this
  · have hK : ∀ k, K ≤ k → diapauseref15_Apart.f k l0 = some false := hK0
    refine ⟨K + 1000, ?_⟩
    unfold diapauselaw15_LoadSettles.f
    rw [awake_f, bs, hK _ (by omega), bs]
    by_cases c1 : (l0.length : Int) > 40
    · rw [if_pos c1, show K + 1000 = (K + 999) + 1 by omega, diapauselaw15_LoadSettles.j0, if_pos rfl]
    · rw [if_neg c1, show K + 1000 = (K + 999) + 1 by omega, diapauselaw15_LoadSettles.j0, Bool.not_false, if_pos rfl]
end Go.Proofs.YtgkmipfcadiobaaDoor.GS
