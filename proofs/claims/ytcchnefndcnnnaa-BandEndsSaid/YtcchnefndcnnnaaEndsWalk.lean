/- The contract of the Go function BandEnds: whatever its printed reading answers, the call answers; no conditions. -/
import Derived.Test.YtcchnefndcnnnaaPawakex2
import Derived.Test.YtcchnefndcnnnaaPEndsx1
namespace Go.Proofs.Ytcchnefndcnnnaa.EndsWalk
open Go.RowKit Go.Proofs.YtcchnefndcnnnaaW.PrintWords Go.Proofs.YtcchnefndcnnnaaW.PrintLast Go.Proofs.YtcchnefndcnnnaaW.PrintMore
open Go.Proofs.Ytcchnefndcnnnaa.Pawake hiding errW errW_none errW_some
open Go.Proofs.Ytcchnefndcnnnaa.PEnds
attribute [local go_sem] max2_int min2_int max_two min_two max_three min_three max_four min_four
set_option linter.unusedVariables false
set_option linter.unusedSimpArgs false

/-! ### diapauselaw08_BandEnds: function 3 -/
def diapauselaw08_BandEnds.l0 : Nat → Int → Int → Bool → Int → Int → Int → Option (Bool)
  | 0, _, _, _, _, _, _ => none
  | k + 1, x0, x2, x7, x8, x9, x10 => if x10 ≤ (wrap64 (x8 + (wrap64 (x2)))) then (if x0 ≥ 1 then (if x0 = 0 then (none) else (if (Int.tmod x10 x0) = 0 then (diapauselaw08_BandEnds.l0 k x0 x2 x7 x8 (wrap64 (x9 + 1)) (wrap64 (x10 + 1))) else (diapauselaw08_BandEnds.l0 k x0 x2 x7 x8 x9 (wrap64 (x10 + 1))))) else (diapauselaw08_BandEnds.l0 k x0 x2 x7 x8 x9 (wrap64 (x10 + 1)))) else (if x7 = true then ((band_Ends.f x0 x8 (wrap64 (x2))).bind fun t128 => (if t128 = x9 then ((band_Ends.f x0 x8 (wrap64 (x2))).bind fun t129 => ((diapauseref08_Ends.f x0 x8 (wrap64 (x2))).bind fun t130 => (some (t129 == t130)))) else (some false))) else (some false))
def diapauselaw08_BandEnds.f (k : Nat) (a0 : Int) (a1 : Int) (a2 : Int) : Option (Bool) := (diapauselaw08_awake.f).bind fun t127 => (diapauselaw08_BandEnds.l0 k a0 a2 t127 (wrap64 (Int.tmod a1 100000)) 0 (wrap64 ((wrap64 (Int.tmod a1 100000)) + 1)))
theorem diapauselaw08_BandEnds.mono_l : ∀ k, (∀ y0 y1 y2 y3 y4 y5, LeO (diapauselaw08_BandEnds.l0 k y0 y1 y2 y3 y4 y5) (diapauselaw08_BandEnds.l0 (k + 1) y0 y1 y2 y3 y4 y5))
  | 0 => fun _ _ _ _ _ _ r h => by simp [diapauselaw08_BandEnds.l0] at h
  | k + 1 => by
    have ih0 := diapauselaw08_BandEnds.mono_l k
    · intro y0 y1 y2 y3 y4 y5
      unfold diapauselaw08_BandEnds.l0
      repeat' first
      | (with_reducible exact ih0 _ _ _ _ _ _)
      | (with_reducible exact LeO.refl _)
      | (with_reducible exact LeO.none _)
      | (with_reducible refine LeO.ite ?_ ?_)
      | (with_reducible refine LeO.bind ?_ (fun _ => ?_))
      | exact ih0 _ _ _ _ _ _
      | exact LeO.none _
      | refine LeO.ite ?_ ?_
      | refine LeO.bind ?_ (fun _ => ?_)
theorem diapauselaw08_BandEnds.mono : ∀ a0 a1 a2 k, LeO (diapauselaw08_BandEnds.f k a0 a1 a2) (diapauselaw08_BandEnds.f (k + 1) a0 a1 a2) := by
  intro a0 a1 a2 k
  have ih0 := diapauselaw08_BandEnds.mono_l k
  unfold diapauselaw08_BandEnds.f
  repeat' first
      | (with_reducible exact ih0 _ _ _ _ _ _)
      | (with_reducible exact LeO.refl _)
      | (with_reducible exact LeO.none _)
      | (with_reducible refine LeO.ite ?_ ?_)
      | (with_reducible refine LeO.bind ?_ (fun _ => ?_))
      | exact ih0 _ _ _ _ _ _
      | exact LeO.none _
      | refine LeO.ite ?_ ?_
      | refine LeO.bind ?_ (fun _ => ?_)
set_option maxHeartbeats 8000000 in
set_option maxRecDepth 100000 in
theorem diapauselaw08_BandEnds.calls (k : Nat) (a0 : Int) (a1 : Int) (a2 : Int) (r : Bool) (w : World) (h : diapauselaw08_BandEnds.f k a0 a1 a2 = some r) :
    Calls Try.prog 3 #[.int .i64 a0, .int .u32 a1, .int .u8 a2] w fun e w' => e = .returned (.bool r) ∧ Below w.heap.size w w' := by
  have HB := Aside0.mk (Below.refl w.heap.size w)
  have H : ((diapauselaw08_awake.f).bind fun t127 => (diapauselaw08_BandEnds.l0 k a0 a2 t127 (wrap64 (Int.tmod a1 100000)) 0 (wrap64 ((wrap64 (Int.tmod a1 100000)) + 1)))) = some r := h
  clear h
  replace H := Option.bind_eq_some_iff.mp H
  obtain ⟨t127, A40, H⟩ := H
  replace H : (diapauselaw08_BandEnds.l0 k a0 a2 t127 (wrap64 (Int.tmod a1 100000)) 0 (wrap64 ((wrap64 (Int.tmod a1 100000)) + 1))) = some r := H
  have A4 := Aside0.mk A40
  clear A40
  have H' := Aside0.mk H
  clear H
  go_enter Try.func3, Try.ntmps3
  go_wp2_with (first | ((with_reducible refine gate_callee (f := 11) rfl ?_); refine goesL_ (some 11) rfl rfl Try.func11 (by kernel_rfl) rfl #[] rfl (by (try simp only [List.map_toArray, List.map_cons, List.map_nil]); first | done | rfl | (simp only [List.length_drop, List.length_take]; rfl)) ?_; (with_reducible refine (diapauselaw08_awake.calls  t127 _ A4.out).mono ?_); rintro e w5 ⟨rfl, hb⟩; refine ⟨_, rfl, ?_⟩; have n0_ := Aside0.mk (below_step (by repeat (first | (with_reducible first | exact HB.out | apply below_alloc | apply pw_below_drewN | apply below_drew1) | exact HB.out)) hb); clear HB; have HB := n0_; clear n0_; (try clear hb); (try clear hb2); (try clear hk); (try clear hi)))
  go_loopg [9, 10] k (fun kq v9 v10 w' => ∃ (x9_1 : Int) (x10_1 : Int), v9 = .int .i64 x9_1 ∧ v10 = .int .i64 x10_1 ∧ Aside0 (diapauselaw08_BandEnds.l0 kq a0 a2 t127 (wrap64 (Int.tmod a1 100000)) x9_1 x10_1 = some r) ∧ Aside0 (kq ≤ k) ∧ Aside0 (Below w.heap.size w w'))
  case atStart => exact ⟨(0), (wrap64 ((wrap64 (Int.tmod a1 100000)) + 1)), (by first | rfl | (simp; done) | (simp [*]; done)), (by first | rfl | (simp; done) | (simp [*]; done)), H', ⟨Nat.le_refl _⟩, ⟨by repeat (first | (with_reducible first | exact HB.out | apply below_alloc | apply pw_below_drewN | apply below_drew1) | exact HB.out)⟩⟩
  case round =>
    clear H'
    try clear c1
    try clear p2
    try clear c3
    obtain ⟨x9_1, x10_1, rfl, rfl, HA, HK1, HB⟩ := hrel
    cases gk with
    | zero => exact absurd HA.out (by simp [diapauselaw08_BandEnds.l0])
    | succ k1 =>
      have H := HA.out
      clear HA
      simp only [diapauselaw08_BandEnds.l0] at H
      by_cases c6 : x10_1 ≤ (wrap64 ((wrap64 (Int.tmod a1 100000)) + (wrap64 (a2))))
      · rw [if_pos c6] at H
        have c6b0 : decide (x10_1 ≤ (wrap64 ((wrap64 (Int.tmod a1 100000)) + (wrap64 (a2))))) = true := decide_eq_true c6
        clear c6
        by_cases c7 : a0 ≥ 1
        · rw [if_pos c7] at H
          have c7b0 : decide (1 ≤ a0) = true := decide_eq_true c7
          clear c7
          by_cases c8 : a0 = 0
          · rw [if_pos c8] at H
            exact absurd H (by simp)
          · rw [if_neg c8] at H
            have c8b0 : (a0 == 0) = false := beq_eq_false_iff_ne.mpr c8
            have c8b1 : (a0 != 0) = true := bne_iff_ne.mpr c8
            by_cases c9 : (Int.tmod x10_1 a0) = 0
            · rw [if_pos c9] at H
              have c9b0 : ((Int.tmod x10_1 a0) == 0) = true := beq_iff_eq.mpr c9
              have c9b1 : ((Int.tmod x10_1 a0) != 0) = false := bne_eq_false_iff_eq.mpr c9
              clear c9
              have H' := Aside0.mk H
              clear H
              go_wp2
              go_roundg k1
              case measure => have := HK1.out; omega
              case rel => exact ⟨(wrap64 (x9_1 + 1)), (wrap64 (x10_1 + 1)), (by first | rfl | (simp; done) | (simp [*]; done)), (by first | rfl | (simp; done) | (simp [*]; done)), H', ⟨by have := HK1.out; omega⟩, ⟨by repeat (first | (with_reducible first | exact HB.out | apply below_alloc | apply pw_below_drewN | apply below_drew1) | exact HB.out)⟩⟩
            · rw [if_neg c9] at H
              have c9b0 : ((Int.tmod x10_1 a0) == 0) = false := beq_eq_false_iff_ne.mpr c9
              have c9b1 : ((Int.tmod x10_1 a0) != 0) = true := bne_iff_ne.mpr c9
              have H' := Aside0.mk H
              clear H
              go_wp2
              go_roundg k1
              case measure => have := HK1.out; omega
              case rel => exact ⟨(x9_1), (wrap64 (x10_1 + 1)), (by first | rfl | (simp; done) | (simp [*]; done)), (by first | rfl | (simp; done) | (simp [*]; done)), H', ⟨by have := HK1.out; omega⟩, ⟨by repeat (first | (with_reducible first | exact HB.out | apply below_alloc | apply pw_below_drewN | apply below_drew1) | exact HB.out)⟩⟩
        · rw [if_neg c7] at H
          have c7b0 : decide (1 ≤ a0) = false := decide_eq_false c7
          clear c7
          have H' := Aside0.mk H
          clear H
          go_wp2
          go_roundg k1
          case measure => have := HK1.out; omega
          case rel => exact ⟨(x9_1), (wrap64 (x10_1 + 1)), (by first | rfl | (simp; done) | (simp [*]; done)), (by first | rfl | (simp; done) | (simp [*]; done)), H', ⟨by have := HK1.out; omega⟩, ⟨by repeat (first | (with_reducible first | exact HB.out | apply below_alloc | apply pw_below_drewN | apply below_drew1) | exact HB.out)⟩⟩
      · rw [if_neg c6] at H
        have c6b0 : decide (x10_1 ≤ (wrap64 ((wrap64 (Int.tmod a1 100000)) + (wrap64 (a2))))) = false := decide_eq_false c6
        clear c6
        by_cases c10 : t127 = true
        · subst c10
          have H1 : ((band_Ends.f a0 (wrap64 (Int.tmod a1 100000)) (wrap64 (a2))).bind fun t128 => (if t128 = x9_1 then ((band_Ends.f a0 (wrap64 (Int.tmod a1 100000)) (wrap64 (a2))).bind fun t129 => ((diapauseref08_Ends.f a0 (wrap64 (Int.tmod a1 100000)) (wrap64 (a2))).bind fun t130 => (some (t129 == t130)))) else (some false))) = some r := by rw [if_pos rfl] at H; exact H
          clear H
          have H := H1
          clear H1
          replace H := Option.bind_eq_some_iff.mp H
          obtain ⟨t128, A110, H⟩ := H
          replace H : (if t128 = x9_1 then ((band_Ends.f a0 (wrap64 (Int.tmod a1 100000)) (wrap64 (a2))).bind fun t129 => ((diapauseref08_Ends.f a0 (wrap64 (Int.tmod a1 100000)) (wrap64 (a2))).bind fun t130 => (some (t129 == t130)))) else (some false)) = some r := H
          have A11 := Aside0.mk A110
          clear A110
          by_cases c12 : t128 = x9_1
          · rw [if_pos c12] at H
            have c12b0 : (t128 == x9_1) = true := beq_iff_eq.mpr c12
            have c12b1 : (t128 != x9_1) = false := bne_eq_false_iff_eq.mpr c12
            clear c12
            replace H := Option.bind_eq_some_iff.mp H
            obtain ⟨t129, A130, H⟩ := H
            obtain rfl : t129 = t128 := Option.some.inj (A130.symm.trans A11.out)
            replace H : ((diapauseref08_Ends.f a0 (wrap64 (Int.tmod a1 100000)) (wrap64 (a2))).bind fun t130 => (some (t129 == t130))) = some r := H
            have A13 := Aside0.mk A130
            clear A130
            replace H := Option.bind_eq_some_iff.mp H
            obtain ⟨t130, A140, H⟩ := H
            replace H : (some (t129 == t130)) = some r := H
            have A14 := Aside0.mk A140
            clear A140
            obtain rfl := Option.some.inj H
            go_wp2_with (first | (go_at_call 12; (with_reducible refine (band_Ends.calls a0 (wrap64 (Int.tmod a1 100000)) (wrap64 (a2)) t128 _ A11.out).mono ?_); rintro e w15 ⟨rfl, hb⟩; have n0_ := Aside0.mk (below_step (by repeat (first | (with_reducible first | exact HB.out | apply below_alloc | apply pw_below_drewN | apply below_drew1) | exact HB.out)) hb); clear HB; have HB := n0_; clear n0_; (try clear hb); (try clear hb2); (try clear hk); (try clear hi)) | (go_at_call 12; (with_reducible refine (band_Ends.calls a0 (wrap64 (Int.tmod a1 100000)) (wrap64 (a2)) t129 _ A13.out).mono ?_); rintro e w16 ⟨rfl, hb⟩; have n0_ := Aside0.mk (below_step (by repeat (first | (with_reducible first | exact HB.out | apply below_alloc | apply pw_below_drewN | apply below_drew1) | exact HB.out)) hb); clear HB; have HB := n0_; clear n0_; (try clear hb); (try clear hb2); (try clear hk); (try clear hi)) | (go_at_call 13; (with_reducible refine (diapauseref08_Ends.calls a0 (wrap64 (Int.tmod a1 100000)) (wrap64 (a2)) t130 _ A14.out).mono ?_); rintro e w' ⟨rfl, ⟨nd, rfl⟩⟩))
            go_ret
            exact ⟨by first | rfl | (simp [errW_none, errW_some] <;> rfl) | (simp [*, errW_none, errW_some] <;> rfl), by repeat (first | (with_reducible first | exact HB.out | apply below_alloc | apply pw_below_drewN | apply below_drew1) | exact HB.out)⟩
          · rw [if_neg c12] at H
            have c12b0 : (t128 == x9_1) = false := beq_eq_false_iff_ne.mpr c12
            have c12b1 : (t128 != x9_1) = true := bne_iff_ne.mpr c12
            obtain rfl := Option.some.inj H
            go_wp2_with (first | (go_at_call 12; (with_reducible refine (band_Ends.calls a0 (wrap64 (Int.tmod a1 100000)) (wrap64 (a2)) t128 _ A11.out).mono ?_); rintro e w17 ⟨rfl, hb⟩; have n0_ := Aside0.mk (below_step (by repeat (first | (with_reducible first | exact HB.out | apply below_alloc | apply pw_below_drewN | apply below_drew1) | exact HB.out)) hb); clear HB; have HB := n0_; clear n0_; (try clear hb); (try clear hb2); (try clear hk); (try clear hi)))
            go_ret
            exact ⟨by first | rfl | (simp [errW_none, errW_some] <;> rfl) | (simp [*, errW_none, errW_some] <;> rfl), by repeat (first | (with_reducible first | exact HB.out | apply below_alloc | apply pw_below_drewN | apply below_drew1) | exact HB.out)⟩
        · replace c10 := Bool.eq_false_iff.mpr c10
          subst c10
          have H1 : (some false) = some r := by rw [if_neg (show ¬ (false = true) by decide)] at H; exact H
          clear H
          have H := H1
          clear H1
          obtain rfl := Option.some.inj H
          go_wp2
          go_ret
          exact ⟨by first | rfl | (simp [errW_none, errW_some] <;> rfl) | (simp [*, errW_none, errW_some] <;> rfl), by repeat (first | (with_reducible first | exact HB.out | apply below_alloc | apply pw_below_drewN | apply below_drew1) | exact HB.out)⟩

/-- THE ONE PURE STATEMENT of diapauselaw08_BandEnds: yours. -/
def diapauselaw08_BandEnds.Pure : Prop := ∀ (a0 : Int) (a1 : Int) (a2 : Int), (Lit.int .i64 a0).wf = true → (Lit.int .u32 a1).wf = true → (Lit.int .u8 a2).wf = true → ∃ k, diapauselaw08_BandEnds.f k a0 a1 a2 = some true
theorem diapauselaw08_BandEnds.walk (P : diapauselaw08_BandEnds.Pure) (a0 : Int) (a1 : Int) (a2 : Int) (w : World) (w0 : (Lit.int .i64 a0).wf = true) (w1 : (Lit.int .u32 a1).wf = true) (w2 : (Lit.int .u8 a2).wf = true) :
    Calls Try.prog 3 #[.int .i64 a0, .int .u32 a1, .int .u8 a2] w fun e w' => e = .returned (.bool true) ∧ Below w.heap.size w w' := by
  obtain ⟨k, h⟩ := P a0 a1 a2 w0 w1 w2
  refine (diapauselaw08_BandEnds.calls k a0 a1 a2 true w h).mono ?_
  rintro e w' ⟨rfl, hd⟩
  exact ⟨rfl, hd⟩

end Go.Proofs.Ytcchnefndcnnnaa.EndsWalk
