/- LoadChoice's plain law. -/
import Derived.Test.YtgkmipfcadiobaaDoorChS
import Derived.Test.YtgkmipfcadiobaaDoorGCx2
set_option linter.unusedVariables false
namespace Go.Proofs.YtgkmipfcadiobaaDoor.GC
open Go Go.RowKit Go.Proofs.YtgkmipfcadiobaaDoor Pl Go.Proofs.YtgkmipfcadiobaaDoorW.PrintWords Go.Proofs.YtgkmipfcadiobaaDoorW.PrintMore GivenT GivenL GA GL
theorem fill_loop (x : Nat) (l : List Int) (hl : l.length ≤ 100) (hw : ∀ v ∈ l, 0 ≤ v ∧ v < 65536) (b : Bool) (r : Bool) (k : Nat) (hk : 66 < k)
    (h : diapauselaw15_LoadChoice.l1 k (x : Int) b l (chooseI x l) 0 = some r) (hx : x < 18446744073709551616) : ∀ (n i : Nat), i + n = l.length → diapauselaw15_LoadChoice.l0 (k + n + 1) (x : Int) l b (l.take i) (i : Int) = some r
  | 0, i, he => by
    rw [diapauselaw15_LoadChoice.l0, if_neg (by omega), List.take_of_length_le (by omega), choose_f x hx l _ (by omega), bs]
    exact h
  | n + 1, i, he => by
    have hi : i < l.length := by omega
    have hv := hw _ (List.getElem_mem hi)
    have e : rd l (i : Int) = l[i] := by rw [rd_nat]; simp [hi, List.getD]
    rw [show k + (n + 1) + 1 = (k + n + 1) + 1 by omega, diapauselaw15_LoadChoice.l0, if_pos (by omega), if_pos (by omega), if_pos (by simp; omega), e, wrap64_id (by omega) (by omega), w64 (by omega), ← take_succ_of l i hi]
    exact fill_loop x l hl hw b r k hk h hx n (i + 1) (by omega)
theorem look_loop (x : Nat) (hx : x < 18446744073709551616) (l : List Int) (hl : l.length ≤ 100) (hw : ∀ v ∈ l, 0 ≤ v ∧ v < 65536) (k : Nat) (hk : 200 < k) : ∀ (n i : Nat), i + n = l.length →
    diapauselaw15_LoadChoice.l1 (k + n + 1) (x : Int) true l (chooseI x l) (i : Int) = some true
  | 0, i, he => by
    rw [diapauselaw15_LoadChoice.l1, if_neg (by omega)]
    rcases chooseI_spec x l with ⟨h1, h2⟩ | ⟨c, h1, h2, h3, h4⟩
    · rw [h1, if_pos (by omega), if_pos rfl]; rfl
    · rw [h1, if_neg (by omega), if_neg (by omega), has_r _ (by omega) x hx, bs, hasN_L, h3, if_pos rfl, bs, if_pos (by simp; omega), bs, if_pos (by omega), if_pos (by simp; omega), List.nil_append, bs]
      have hv : 0 ≤ rd l (c : Int) ∧ rd l (c : Int) < 65536 := by
        rw [rd_nat]
        have : l.getD c 0 = l[c] := by simp [h2, List.getD]
        rw [this]; exact hw _ (List.getElem_mem h2)
      rw [wrap64_id (by omega) (by omega), Int.toNat_natCast]
      rw [choose_f x hx _ _ (by omega), bs, if_pos rfl]
      have hm : ∀ j : Nat, rd (l.set c (rd l (c : Int) + 1)) (j : Int) = if j = c then rd l (c : Int) + 1 else rd l (j : Int) := by
        intro j
        rw [rd_nat, rd_nat]
        by_cases e : j = c
        · subst e; rw [if_pos rfl]; simp [h2, List.getD]
        · rw [if_neg e]; simp [List.getD, List.getElem?_set_ne (Ne.symm e), rd_nat]
      rcases chooseI_spec x (l.set c (rd l (c : Int) + 1)) with ⟨g1, g2⟩ | ⟨d, g1, g2, g3, g4⟩
      · have := g2 c (by simpa using h2)
        rw [h3] at this; cases this
      · rw [List.length_set] at g2
        rw [g1, if_pos (by omega), if_pos (by omega), if_pos (by omega), if_pos (by simpa using g2)]
        have := (g4 c (by simpa using h2) h3).1
        congr 1
        exact decide_eq_true this
  | n + 1, i, he => by
    have ih := look_loop x hx l hl hw k hk n (i + 1) (by omega)
    rw [show k + (n + 1) + 1 = (k + n + 1) + 1 by omega, diapauselaw15_LoadChoice.l1, if_pos (by omega), has_r _ (by omega) x hx, bs, hasN_L, w64 (by omega)]
    cases hh : hasN x i with
    | false => rw [if_neg (by decide)]; exact ih
    | true =>
      rw [if_pos rfl]
      rcases chooseI_spec x l with ⟨h1, h2⟩ | ⟨c, h1, h2, h3, h4⟩
      · rw [h2 i (by omega)] at hh; cases hh
      · have := h4 i (by omega) hh
        rw [h1] at ih ⊢
        rw [if_neg (by omega), if_neg (by omega), if_pos (by omega), if_pos (by omega), if_pos (by omega), if_neg (by omega)]
        by_cases e : rd l (i : Int) = rd l (c : Int)
        · rw [if_pos e, if_neg (by have := this.2 e; omega)]; exact ih
        · rw [if_neg e]; exact ih
theorem loadChoice_pure (a0 : Int) (l1 : List Int) (h0 : (Lit.int .u64 a0).wf = true) (hw : ∀ v ∈ l1, (Lit.int .u16 v).wf = true) : ∃ k, diapauselaw15_LoadChoice.f k a0 l1 = some true := by
  obtain ⟨x, rfl, hx⟩ := bnd_u64 h0
  have hw' : ∀ v ∈ l1, 0 ≤ v ∧ v < 65536 := by
    intro v hv
    have h := hw v hv
    simp [Lit.wf, IntKind.min, IntKind.max, IntKind.signed, IntKind.bits] at h
    omega
  by_cases c1 : (l1.length : Int) > 100
  · refine ⟨1, ?_⟩
    unfold diapauselaw15_LoadChoice.f
    rw [awake_f, bs, if_pos c1]
  · refine ⟨300 + l1.length + 1 + l1.length + 1, ?_⟩
    unfold diapauselaw15_LoadChoice.f
    rw [awake_f, bs, if_neg c1]
    have h1 := look_loop x hx l1 (by omega) hw' 300 (by omega) l1.length 0 (by omega)
    have h2 := fill_loop x l1 (by omega) hw' true true (300 + l1.length + 1) (by omega) h1 hx l1.length 0 (by omega)
    rw [List.take_zero] at h2
    exact h2
end Go.Proofs.YtgkmipfcadiobaaDoor.GC
