-- Written by a program of this session's (giv.py), which runs the kit's print with contracts of this claim's own for some functions.
import Derived.Test.YtgkmipfcadiobaaDoorGMx0
import Derived.Test.YtgkmipfcadiobaaDoorGMx1
namespace Go.Proofs.YtgkmipfcadiobaaDoor.GM
open Go.Proofs.YtgkmipfcadiobaaDoor.Given Go.Proofs.YtgkmipfcadiobaaDoor Go.Proofs.YtgkmipfcadiobaaDoor.Pl Go.RowKit Go.Proofs.YtgkmipfcadiobaaDoorW.PrintWords Go.Proofs.YtgkmipfcadiobaaDoorW.PrintLast Go.Proofs.YtgkmipfcadiobaaDoorW.PrintMore
attribute [local go_sem] max2_int min2_int max_two min_two max_three min_three max_four min_four   -- for this text's walks alone
set_option linter.unusedVariables false
set_option linter.unusedSimpArgs false

/-! ### diapauselaw03_MaskRanks: function 13 -/
mutual
def diapauselaw03_MaskRanks.j0 : Nat → Bool → Int → Int → Int → Bool → Option (Bool)
  | 0, _, _, _, _, _ => none
  | k + 1, x3, x4, x5, x6, x19 => if x19 = true then (some false) else (diapauselaw03_MaskRanks.l0 k x3 x4 x5 x6 0 0)
def diapauselaw03_MaskRanks.l0 : Nat → Bool → Int → Int → Int → Int → Int → Option (Bool)
  | 0, _, _, _, _, _, _ => none
  | k + 1, x3, x4, x5, x6, x7, x8 => if x8 < x6 then ((mask_Set_Nth.f x4 x8).bind fun t133 => (if t133 ≤ x5 then (some false) else ((mask_Set_Has.f x4 t133).bind fun t134 => (if t134 = true then ((mask_Set_With.f x7 t133).bind fun t135 => (diapauselaw03_MaskRanks.l0 k x3 x4 t133 x6 t135 (wrap64 (x8 + 1)))) else (some false))))) else (if x3 = true then (if x7 = x4 then ((mask_Set_Nth.f x4 x6).bind fun t130 => (if t130 = (-1) then ((mask_Set_Nth.f x4 (-1)).bind fun t131 => (if t131 = (-1) then ((mask_Set_First.f x4).bind fun t132 => (some ((t132 == (-1)) == (x6 == 0)))) else (some false))) else (some false))) else (some false)) else (some false))
end
def diapauselaw03_MaskRanks.f (k : Nat) (a0 : Int) : Option (Bool) := (diapauselaw03_awake.f k).bind fun t128 => ((mask_Set_Len.f a0).bind fun t129 => (if t129 < 0 then (diapauselaw03_MaskRanks.j0 k t128 a0 (-1) t129 true) else (diapauselaw03_MaskRanks.j0 k t128 a0 (-1) t129 (decide (t129 > 64)))))
theorem diapauselaw03_MaskRanks.mono_l : ∀ k, (∀ y0 y1 y2 y3 y4, LeO (diapauselaw03_MaskRanks.j0 k y0 y1 y2 y3 y4) (diapauselaw03_MaskRanks.j0 (k + 1) y0 y1 y2 y3 y4)) ∧ (∀ y0 y1 y2 y3 y4 y5, LeO (diapauselaw03_MaskRanks.l0 k y0 y1 y2 y3 y4 y5) (diapauselaw03_MaskRanks.l0 (k + 1) y0 y1 y2 y3 y4 y5))
  | 0 => ⟨fun _ _ _ _ _ r h => by simp [diapauselaw03_MaskRanks.j0] at h, fun _ _ _ _ _ _ r h => by simp [diapauselaw03_MaskRanks.l0] at h⟩
  | k + 1 => by
    obtain ⟨ih0, ih1⟩ := diapauselaw03_MaskRanks.mono_l k
    refine ⟨?_, ?_⟩
    · intro y0 y1 y2 y3 y4
      unfold diapauselaw03_MaskRanks.j0
      repeat' first
      | (with_reducible exact ih0 _ _ _ _ _)
      | (with_reducible exact ih1 _ _ _ _ _ _)
      | (with_reducible exact diapauselaw03_awake.mono _)
      | (with_reducible exact LeO.refl _)
      | (with_reducible exact LeO.none _)
      | (with_reducible refine LeO.ite ?_ ?_)
      | (with_reducible refine LeO.bind ?_ (fun _ => ?_))
      | exact ih0 _ _ _ _ _
      | exact ih1 _ _ _ _ _ _
      | exact diapauselaw03_awake.mono _
      | exact LeO.none _
      | refine LeO.ite ?_ ?_
      | refine LeO.bind ?_ (fun _ => ?_)
    · intro y0 y1 y2 y3 y4 y5
      unfold diapauselaw03_MaskRanks.l0
      repeat' first
      | (with_reducible exact ih0 _ _ _ _ _)
      | (with_reducible exact ih1 _ _ _ _ _ _)
      | (with_reducible exact diapauselaw03_awake.mono _)
      | (with_reducible exact LeO.refl _)
      | (with_reducible exact LeO.none _)
      | (with_reducible refine LeO.ite ?_ ?_)
      | (with_reducible refine LeO.bind ?_ (fun _ => ?_))
      | exact ih0 _ _ _ _ _
      | exact ih1 _ _ _ _ _ _
      | exact diapauselaw03_awake.mono _
      | exact LeO.none _
      | refine LeO.ite ?_ ?_
      | refine LeO.bind ?_ (fun _ => ?_)
theorem diapauselaw03_MaskRanks.mono : ∀ a0 k, LeO (diapauselaw03_MaskRanks.f k a0) (diapauselaw03_MaskRanks.f (k + 1) a0) := by
  intro a0 k
  obtain ⟨ih0, ih1⟩ := diapauselaw03_MaskRanks.mono_l k
  unfold diapauselaw03_MaskRanks.f
  repeat' first
      | (with_reducible exact ih0 _ _ _ _ _)
      | (with_reducible exact ih1 _ _ _ _ _ _)
      | (with_reducible exact diapauselaw03_awake.mono _)
      | (with_reducible exact LeO.refl _)
      | (with_reducible exact LeO.none _)
      | (with_reducible refine LeO.ite ?_ ?_)
      | (with_reducible refine LeO.bind ?_ (fun _ => ?_))
      | exact ih0 _ _ _ _ _
      | exact ih1 _ _ _ _ _ _
      | exact diapauselaw03_awake.mono _
      | exact LeO.none _
      | refine LeO.ite ?_ ?_
      | refine LeO.bind ?_ (fun _ => ?_)
set_option maxHeartbeats 8000000 in
set_option maxRecDepth 100000 in
theorem diapauselaw03_MaskRanks.calls (k : Nat) (a0 : Int) (r : Bool) (w : World) (hT : Lw w) (h : diapauselaw03_MaskRanks.f k a0 = some r) :
    Calls Tryd.prog 13 #[.int .u64 a0] w fun e w' => e = .returned (.bool r) ∧ Below w.heap.size w w' := by
  have HT := Aside0.mk hT
  clear hT
  have HB := Aside0.mk (Below.refl w.heap.size w)
  have H : ((diapauselaw03_awake.f k).bind fun t128 => ((mask_Set_Len.f a0).bind fun t129 => (if t129 < 0 then (diapauselaw03_MaskRanks.j0 k t128 a0 (-1) t129 true) else (diapauselaw03_MaskRanks.j0 k t128 a0 (-1) t129 (decide (t129 > 64)))))) = some r := h
  clear h
  replace H := Option.bind_eq_some_iff.mp H
  obtain ⟨t128, A20, H⟩ := H
  replace H : ((mask_Set_Len.f a0).bind fun t129 => (if t129 < 0 then (diapauselaw03_MaskRanks.j0 k t128 a0 (-1) t129 true) else (diapauselaw03_MaskRanks.j0 k t128 a0 (-1) t129 (decide (t129 > 64))))) = some r := H
  have A2 := Aside0.mk A20
  clear A20
  replace H := Option.bind_eq_some_iff.mp H
  obtain ⟨t129, A30, H⟩ := H
  replace H : (if t129 < 0 then (diapauselaw03_MaskRanks.j0 k t128 a0 (-1) t129 true) else (diapauselaw03_MaskRanks.j0 k t128 a0 (-1) t129 (decide (t129 > 64)))) = some r := H
  have A3 := Aside0.mk A30
  clear A30
  have HC4 := Aside0.mk H
  clear H
  go_enter Tryd.func13, Tryd.ntmps13
  go_upto_region 5 with (first | ((with_reducible refine gate_callee (f := 32) rfl ?_); refine goesL_ (some 10) rfl rfl Tryd.func32 (by kernel_rfl) rfl #[] rfl (by (try simp only [List.map_toArray, List.map_cons, List.map_nil]); first | done | rfl | (simp only [List.length_drop, List.length_take]; rfl)) ?_; (with_reducible refine (diapauselaw03_awake.calls k  t128 _ (HT.out.below (by repeat (first | (with_reducible first | exact HB.out | apply below_alloc | apply pw_below_drewN | apply below_drew1) | exact HB.out))) A2.out).mono ?_); rintro e w5 ⟨rfl, hb⟩; refine ⟨_, rfl, ?_⟩; have n0_ := Aside0.mk (below_step (by repeat (first | (with_reducible first | exact HB.out | apply below_alloc | apply pw_below_drewN | apply below_drew1) | exact HB.out)) hb); clear HB; have HB := n0_; clear n0_; (try clear hb); (try clear hb2); (try clear hk); (try clear hi)) | ((with_reducible refine gate_callee (f := 36) rfl ?_); refine goesL_ (some 13) rfl rfl Tryd.func36 (by kernel_rfl) rfl #[.int .u64 a0] rfl (by (try simp only [List.map_toArray, List.map_cons, List.map_nil]); first | done | rfl | (simp only [List.length_drop, List.length_take]; rfl)) ?_; (with_reducible refine (mask_Set_Len.calls a0 t129 _ A3.out).mono ?_); rintro e w' ⟨rfl, ⟨nd, rfl⟩⟩; refine ⟨_, rfl, ?_⟩))
  (try simp only [Act.put, List.setIfInBounds_toArray, List.set_cons_zero, List.set_cons_succ])
  go_cut [19] (fun v19 wc => ∃ (kq : Nat) (x19_3 : Bool), v19 = .bool x19_3 ∧ Aside0 (diapauselaw03_MaskRanks.j0 kq t128 a0 (-1) t129 x19_3 = some r) ∧ Aside0 (kq ≤ k) ∧ Aside0 (Below w.heap.size w wc))
  case first =>
    have H := HC4.out
    clear HC4
    by_cases c6 : t129 < 0
    · rw [if_pos c6] at H
      have c6b0 : decide (t129 < 0) = true := decide_eq_true c6
      clear c6
      (first | rw [c6b0] | (simp only [i64_w, i32_w]; rw [c6b0]) | skip)
      have H' := Aside0.mk H
      clear H
      go_wp2
      go_meet
      case rel => exact ⟨_, (true), (by first | rfl | (simp; done) | (simp [*]; done)), H', ⟨by first | omega | exact Nat.le_refl _⟩, ⟨by repeat (first | (with_reducible first | exact HB.out | apply below_alloc | apply pw_below_drewN | apply below_drew1) | exact HB.out)⟩⟩
    · rw [if_neg c6] at H
      have c6b0 : decide (t129 < 0) = false := decide_eq_false c6
      clear c6
      (first | rw [c6b0] | (simp only [i64_w, i32_w]; rw [c6b0]) | skip)
      have H' := Aside0.mk H
      clear H
      go_wp2
      go_meet
      case rel => exact ⟨_, (decide (t129 > 64)), (by first | rfl | (simp; done) | (simp [*]; done)), H', ⟨by first | omega | exact Nat.le_refl _⟩, ⟨by repeat (first | (with_reducible first | exact HB.out | apply below_alloc | apply pw_below_drewN | apply below_drew1) | exact HB.out)⟩⟩
  case rest =>
    clear HC4
    try clear c1
    try clear p2
    try clear c3
    try clear c6
    try clear c6b0
    obtain ⟨kq, x19_3, rfl, HA, HJ3, HB⟩ := hcut
    cases kq with
    | zero => exact absurd HA.out (by simp [diapauselaw03_MaskRanks.j0])
    | succ kj3 =>
      have H := HA.out
      clear HA
      simp only [diapauselaw03_MaskRanks.j0] at H
      by_cases c7 : x19_3 = true
      · subst c7
        have H1 : (some false) = some r := by rw [if_pos rfl] at H; exact H
        clear H
        have H := H1
        clear H1
        obtain rfl := Option.some.inj H
        go_wp2
        go_ret
        exact ⟨by first | rfl | (simp [errW_none, errW_some] <;> rfl) | (simp [*, errW_none, errW_some] <;> rfl), by repeat (first | (with_reducible first | exact HB.out | apply below_alloc | apply pw_below_drewN | apply below_drew1) | exact HB.out)⟩
      · replace c7 := Bool.eq_false_iff.mpr c7
        subst c7
        have H1 : (diapauselaw03_MaskRanks.l0 kj3 t128 a0 (-1) t129 0 0) = some r := by rw [if_neg (show ¬ (false = true) by decide)] at H; exact H
        clear H
        have H := H1
        clear H1
        have H' := Aside0.mk H
        clear H
        go_wp2
        go_loopg [5, 7, 8] kj3 (fun kq v5 v7 v8 w' => ∃ (x5_2 : Int) (x7_2 : Int) (x8_2 : Int), v5 = .int .i64 x5_2 ∧ v7 = .int .u64 x7_2 ∧ v8 = .int .i64 x8_2 ∧ Aside0 (diapauselaw03_MaskRanks.l0 kq t128 a0 x5_2 t129 x7_2 x8_2 = some r) ∧ Aside0 (kq ≤ kj3) ∧ Aside0 (Below w.heap.size w w'))
        case atStart => exact ⟨((-1)), (0), (0), (by first | rfl | (simp; done) | (simp [*]; done)), (by first | rfl | (simp; done) | (simp [*]; done)), (by first | rfl | (simp; done) | (simp [*]; done)), H', ⟨Nat.le_refl _⟩, ⟨by repeat (first | (with_reducible first | exact HB.out | apply below_alloc | apply pw_below_drewN | apply below_drew1) | exact HB.out)⟩⟩
        case round =>
          clear H'
          try clear c1
          try clear p2
          try clear c3
          try clear c6
          try clear c6b0
          try clear c7
          try clear p2
          obtain ⟨x5_2, x7_2, x8_2, rfl, rfl, rfl, HA, HK2, HB⟩ := hrel
          cases gk with
          | zero => exact absurd HA.out (by simp [diapauselaw03_MaskRanks.l0])
          | succ k2 =>
            have H := HA.out
            clear HA
            simp only [diapauselaw03_MaskRanks.l0] at H
            by_cases c8 : x8_2 < t129
            · rw [if_pos c8] at H
              have c8b0 : decide (x8_2 < t129) = true := decide_eq_true c8
              clear c8
              replace H := Option.bind_eq_some_iff.mp H
              obtain ⟨t133, A90, H⟩ := H
              replace H : (if t133 ≤ x5_2 then (some false) else ((mask_Set_Has.f a0 t133).bind fun t134 => (if t134 = true then ((mask_Set_With.f x7_2 t133).bind fun t135 => (diapauselaw03_MaskRanks.l0 k2 t128 a0 t133 t129 t135 (wrap64 (x8_2 + 1)))) else (some false)))) = some r := H
              have A9 := Aside0.mk A90
              clear A90
              by_cases c10 : t133 ≤ x5_2
              · rw [if_pos c10] at H
                have c10b0 : decide (t133 ≤ x5_2) = true := decide_eq_true c10
                clear c10
                obtain rfl := Option.some.inj H
                go_wp2_with (first | ((with_reducible refine gate_callee (f := 44) rfl ?_); refine goesL_ (some 27) rfl rfl Tryd.func44 (by kernel_rfl) rfl #[.int .u64 a0, .int .i64 x8_2] rfl (by (try simp only [List.map_toArray, List.map_cons, List.map_nil]); first | done | rfl | (simp only [List.length_drop, List.length_take]; rfl)) ?_; (with_reducible refine (mask_Set_Nth.calls a0 x8_2 t133 _ (HT.out.below (by repeat (first | (with_reducible first | exact HB.out | apply below_alloc | apply pw_below_drewN | apply below_drew1) | exact HB.out))) A9.out).mono ?_); rintro e w11 ⟨rfl, hb⟩; refine ⟨_, rfl, ?_⟩; have n0_ := Aside0.mk (below_step (by repeat (first | (with_reducible first | exact HB.out | apply below_alloc | apply pw_below_drewN | apply below_drew1) | exact HB.out)) hb); clear HB; have HB := n0_; clear n0_; (try clear hb); (try clear hb2); (try clear hk); (try clear hi)))
                go_ret
                exact ⟨by first | rfl | (simp [errW_none, errW_some] <;> rfl) | (simp [*, errW_none, errW_some] <;> rfl), by repeat (first | (with_reducible first | exact HB.out | apply below_alloc | apply pw_below_drewN | apply below_drew1) | exact HB.out)⟩
              · rw [if_neg c10] at H
                have c10b0 : decide (t133 ≤ x5_2) = false := decide_eq_false c10
                clear c10
                replace H := Option.bind_eq_some_iff.mp H
                obtain ⟨t134, A120, H⟩ := H
                replace H : (if t134 = true then ((mask_Set_With.f x7_2 t133).bind fun t135 => (diapauselaw03_MaskRanks.l0 k2 t128 a0 t133 t129 t135 (wrap64 (x8_2 + 1)))) else (some false)) = some r := H
                have A12 := Aside0.mk A120
                clear A120
                by_cases c13 : t134 = true
                · subst c13
                  have H1 : ((mask_Set_With.f x7_2 t133).bind fun t135 => (diapauselaw03_MaskRanks.l0 k2 t128 a0 t133 t129 t135 (wrap64 (x8_2 + 1)))) = some r := by rw [if_pos rfl] at H; exact H
                  clear H
                  have H := H1
                  clear H1
                  replace H := Option.bind_eq_some_iff.mp H
                  obtain ⟨t135, A140, H⟩ := H
                  replace H : (diapauselaw03_MaskRanks.l0 k2 t128 a0 t133 t129 t135 (wrap64 (x8_2 + 1))) = some r := H
                  have A14 := Aside0.mk A140
                  clear A140
                  have H' := Aside0.mk H
                  clear H
                  go_wp2_with (first | ((with_reducible refine gate_callee (f := 44) rfl ?_); refine goesL_ (some 27) rfl rfl Tryd.func44 (by kernel_rfl) rfl #[.int .u64 a0, .int .i64 x8_2] rfl (by (try simp only [List.map_toArray, List.map_cons, List.map_nil]); first | done | rfl | (simp only [List.length_drop, List.length_take]; rfl)) ?_; (with_reducible refine (mask_Set_Nth.calls a0 x8_2 t133 _ (HT.out.below (by repeat (first | (with_reducible first | exact HB.out | apply below_alloc | apply pw_below_drewN | apply below_drew1) | exact HB.out))) A9.out).mono ?_); rintro e w15 ⟨rfl, hb⟩; refine ⟨_, rfl, ?_⟩; have n0_ := Aside0.mk (below_step (by repeat (first | (with_reducible first | exact HB.out | apply below_alloc | apply pw_below_drewN | apply below_drew1) | exact HB.out)) hb); clear HB; have HB := n0_; clear n0_; (try clear hb); (try clear hb2); (try clear hk); (try clear hi)) | (go_at_call 39; (with_reducible refine (mask_Set_Has.calls a0 t133 true _ A12.out).mono ?_); rintro e w' ⟨rfl, ⟨nd, rfl⟩⟩) | ((with_reducible refine gate_callee (f := 37) rfl ?_); refine goesL_ (some 39) rfl rfl Tryd.func37 (by kernel_rfl) rfl #[.int .u64 x7_2, .int .i64 t133] rfl (by (try simp only [List.map_toArray, List.map_cons, List.map_nil]); first | done | rfl | (simp only [List.length_drop, List.length_take]; rfl)) ?_; (with_reducible refine (mask_Set_With.calls x7_2 t133 t135 _ A14.out).mono ?_); rintro e w' ⟨rfl, ⟨nd, rfl⟩⟩; refine ⟨_, rfl, ?_⟩))
                  go_roundg k2
                  case measure => have := HJ3.out; have := HK2.out; omega
                  case rel => exact ⟨(t133), (t135), (wrap64 (x8_2 + 1)), (by first | rfl | (simp; done) | (simp [*]; done)), (by first | rfl | (simp; done) | (simp [*]; done)), (by first | rfl | (simp; done) | (simp [*]; done)), H', ⟨by have := HJ3.out; have := HK2.out; omega⟩, ⟨by repeat (first | (with_reducible first | exact HB.out | apply below_alloc | apply pw_below_drewN | apply below_drew1) | exact HB.out)⟩⟩
                · replace c13 := Bool.eq_false_iff.mpr c13
                  subst c13
                  have H1 : (some false) = some r := by rw [if_neg (show ¬ (false = true) by decide)] at H; exact H
                  clear H
                  have H := H1
                  clear H1
                  obtain rfl := Option.some.inj H
                  go_wp2_with (first | ((with_reducible refine gate_callee (f := 44) rfl ?_); refine goesL_ (some 27) rfl rfl Tryd.func44 (by kernel_rfl) rfl #[.int .u64 a0, .int .i64 x8_2] rfl (by (try simp only [List.map_toArray, List.map_cons, List.map_nil]); first | done | rfl | (simp only [List.length_drop, List.length_take]; rfl)) ?_; (with_reducible refine (mask_Set_Nth.calls a0 x8_2 t133 _ (HT.out.below (by repeat (first | (with_reducible first | exact HB.out | apply below_alloc | apply pw_below_drewN | apply below_drew1) | exact HB.out))) A9.out).mono ?_); rintro e w16 ⟨rfl, hb⟩; refine ⟨_, rfl, ?_⟩; have n0_ := Aside0.mk (below_step (by repeat (first | (with_reducible first | exact HB.out | apply below_alloc | apply pw_below_drewN | apply below_drew1) | exact HB.out)) hb); clear HB; have HB := n0_; clear n0_; (try clear hb); (try clear hb2); (try clear hk); (try clear hi)) | (go_at_call 39; (with_reducible refine (mask_Set_Has.calls a0 t133 false _ A12.out).mono ?_); rintro e w' ⟨rfl, ⟨nd, rfl⟩⟩))
                  go_ret
                  exact ⟨by first | rfl | (simp [errW_none, errW_some] <;> rfl) | (simp [*, errW_none, errW_some] <;> rfl), by repeat (first | (with_reducible first | exact HB.out | apply below_alloc | apply pw_below_drewN | apply below_drew1) | exact HB.out)⟩
            · rw [if_neg c8] at H
              have c8b0 : decide (x8_2 < t129) = false := decide_eq_false c8
              clear c8
              by_cases c17 : t128 = true
              · subst c17
                have H1 : (if x7_2 = a0 then ((mask_Set_Nth.f a0 t129).bind fun t130 => (if t130 = (-1) then ((mask_Set_Nth.f a0 (-1)).bind fun t131 => (if t131 = (-1) then ((mask_Set_First.f a0).bind fun t132 => (some ((t132 == (-1)) == (t129 == 0)))) else (some false))) else (some false))) else (some false)) = some r := by rw [if_pos rfl] at H; exact H
                clear H
                have H := H1
                clear H1
                by_cases c18 : x7_2 = a0
                · rw [if_pos c18] at H
                  have c18b0 : (x7_2 == a0) = true := beq_iff_eq.mpr c18
                  have c18b1 : (x7_2 != a0) = false := bne_eq_false_iff_eq.mpr c18
                  clear c18
                  replace H := Option.bind_eq_some_iff.mp H
                  obtain ⟨t130, A190, H⟩ := H
                  replace H : (if t130 = (-1) then ((mask_Set_Nth.f a0 (-1)).bind fun t131 => (if t131 = (-1) then ((mask_Set_First.f a0).bind fun t132 => (some ((t132 == (-1)) == (t129 == 0)))) else (some false))) else (some false)) = some r := H
                  have A19 := Aside0.mk A190
                  clear A190
                  by_cases c20 : t130 = (-1)
                  · rw [if_pos c20] at H
                    have c20b0 : (t130 == (-1)) = true := beq_iff_eq.mpr c20
                    have c20b1 : (t130 != (-1)) = false := bne_eq_false_iff_eq.mpr c20
                    clear c20
                    replace H := Option.bind_eq_some_iff.mp H
                    obtain ⟨t131, A210, H⟩ := H
                    replace H : (if t131 = (-1) then ((mask_Set_First.f a0).bind fun t132 => (some ((t132 == (-1)) == (t129 == 0)))) else (some false)) = some r := H
                    have A21 := Aside0.mk A210
                    clear A210
                    by_cases c22 : t131 = (-1)
                    · rw [if_pos c22] at H
                      have c22b0 : (t131 == (-1)) = true := beq_iff_eq.mpr c22
                      have c22b1 : (t131 != (-1)) = false := bne_eq_false_iff_eq.mpr c22
                      clear c22
                      replace H := Option.bind_eq_some_iff.mp H
                      obtain ⟨t132, A230, H⟩ := H
                      replace H : (some ((t132 == (-1)) == (t129 == 0))) = some r := H
                      have A23 := Aside0.mk A230
                      clear A230
                      obtain rfl := Option.some.inj H
                      go_wp2_with (first | (go_at_call 44; (with_reducible refine (mask_Set_Nth.calls a0 t129 t130 _ (HT.out.below (by repeat (first | (with_reducible first | exact HB.out | apply below_alloc | apply pw_below_drewN | apply below_drew1) | exact HB.out))) A19.out).mono ?_); rintro e w24 ⟨rfl, hb⟩; have n0_ := Aside0.mk (below_step (by repeat (first | (with_reducible first | exact HB.out | apply below_alloc | apply pw_below_drewN | apply below_drew1) | exact HB.out)) hb); clear HB; have HB := n0_; clear n0_; (try clear hb); (try clear hb2); (try clear hk); (try clear hi)) | (go_at_call 44; (with_reducible refine (mask_Set_Nth.calls a0 (-1) t131 _ (HT.out.below (by repeat (first | (with_reducible first | exact HB.out | apply below_alloc | apply pw_below_drewN | apply below_drew1) | exact HB.out))) A21.out).mono ?_); rintro e w25 ⟨rfl, hb⟩; have n0_ := Aside0.mk (below_step (by repeat (first | (with_reducible first | exact HB.out | apply below_alloc | apply pw_below_drewN | apply below_drew1) | exact HB.out)) hb); clear HB; have HB := n0_; clear n0_; (try clear hb); (try clear hb2); (try clear hk); (try clear hi)) | (go_at_call 45; (with_reducible refine (mask_Set_First.calls a0 t132 _ (HT.out.below (by repeat (first | (with_reducible first | exact HB.out | apply below_alloc | apply pw_below_drewN | apply below_drew1) | exact HB.out))) A23.out).mono ?_); rintro e w26 ⟨rfl, hb⟩; have n0_ := Aside0.mk (below_step (by repeat (first | (with_reducible first | exact HB.out | apply below_alloc | apply pw_below_drewN | apply below_drew1) | exact HB.out)) hb); clear HB; have HB := n0_; clear n0_; (try clear hb); (try clear hb2); (try clear hk); (try clear hi)))
                      go_ret
                      exact ⟨by first | rfl | (simp [errW_none, errW_some] <;> rfl) | (simp [*, errW_none, errW_some] <;> rfl), by repeat (first | (with_reducible first | exact HB.out | apply below_alloc | apply pw_below_drewN | apply below_drew1) | exact HB.out)⟩
                    · rw [if_neg c22] at H
                      have c22b0 : (t131 == (-1)) = false := beq_eq_false_iff_ne.mpr c22
                      have c22b1 : (t131 != (-1)) = true := bne_iff_ne.mpr c22
                      obtain rfl := Option.some.inj H
                      go_wp2_with (first | (go_at_call 44; (with_reducible refine (mask_Set_Nth.calls a0 t129 t130 _ (HT.out.below (by repeat (first | (with_reducible first | exact HB.out | apply below_alloc | apply pw_below_drewN | apply below_drew1) | exact HB.out))) A19.out).mono ?_); rintro e w27 ⟨rfl, hb⟩; have n0_ := Aside0.mk (below_step (by repeat (first | (with_reducible first | exact HB.out | apply below_alloc | apply pw_below_drewN | apply below_drew1) | exact HB.out)) hb); clear HB; have HB := n0_; clear n0_; (try clear hb); (try clear hb2); (try clear hk); (try clear hi)) | (go_at_call 44; (with_reducible refine (mask_Set_Nth.calls a0 (-1) t131 _ (HT.out.below (by repeat (first | (with_reducible first | exact HB.out | apply below_alloc | apply pw_below_drewN | apply below_drew1) | exact HB.out))) A21.out).mono ?_); rintro e w28 ⟨rfl, hb⟩; have n0_ := Aside0.mk (below_step (by repeat (first | (with_reducible first | exact HB.out | apply below_alloc | apply pw_below_drewN | apply below_drew1) | exact HB.out)) hb); clear HB; have HB := n0_; clear n0_; (try clear hb); (try clear hb2); (try clear hk); (try clear hi)))
                      go_ret
                      exact ⟨by first | rfl | (simp [errW_none, errW_some] <;> rfl) | (simp [*, errW_none, errW_some] <;> rfl), by repeat (first | (with_reducible first | exact HB.out | apply below_alloc | apply pw_below_drewN | apply below_drew1) | exact HB.out)⟩
                  · rw [if_neg c20] at H
                    have c20b0 : (t130 == (-1)) = false := beq_eq_false_iff_ne.mpr c20
                    have c20b1 : (t130 != (-1)) = true := bne_iff_ne.mpr c20
                    obtain rfl := Option.some.inj H
                    go_wp2_with (first | (go_at_call 44; (with_reducible refine (mask_Set_Nth.calls a0 t129 t130 _ (HT.out.below (by repeat (first | (with_reducible first | exact HB.out | apply below_alloc | apply pw_below_drewN | apply below_drew1) | exact HB.out))) A19.out).mono ?_); rintro e w29 ⟨rfl, hb⟩; have n0_ := Aside0.mk (below_step (by repeat (first | (with_reducible first | exact HB.out | apply below_alloc | apply pw_below_drewN | apply below_drew1) | exact HB.out)) hb); clear HB; have HB := n0_; clear n0_; (try clear hb); (try clear hb2); (try clear hk); (try clear hi)))
                    go_ret
                    exact ⟨by first | rfl | (simp [errW_none, errW_some] <;> rfl) | (simp [*, errW_none, errW_some] <;> rfl), by repeat (first | (with_reducible first | exact HB.out | apply below_alloc | apply pw_below_drewN | apply below_drew1) | exact HB.out)⟩
                · rw [if_neg c18] at H
                  have c18b0 : (x7_2 == a0) = false := beq_eq_false_iff_ne.mpr c18
                  have c18b1 : (x7_2 != a0) = true := bne_iff_ne.mpr c18
                  obtain rfl := Option.some.inj H
                  go_wp2
                  go_ret
                  exact ⟨by first | rfl | (simp [errW_none, errW_some] <;> rfl) | (simp [*, errW_none, errW_some] <;> rfl), by repeat (first | (with_reducible first | exact HB.out | apply below_alloc | apply pw_below_drewN | apply below_drew1) | exact HB.out)⟩
              · replace c17 := Bool.eq_false_iff.mpr c17
                subst c17
                have H1 : (some false) = some r := by rw [if_neg (show ¬ (false = true) by decide)] at H; exact H
                clear H
                have H := H1
                clear H1
                obtain rfl := Option.some.inj H
                go_wp2
                go_ret
                exact ⟨by first | rfl | (simp [errW_none, errW_some] <;> rfl) | (simp [*, errW_none, errW_some] <;> rfl), by repeat (first | (with_reducible first | exact HB.out | apply below_alloc | apply pw_below_drewN | apply below_drew1) | exact HB.out)⟩

/-- THE ONE PURE STATEMENT of diapauselaw03_MaskRanks: yours. -/
def diapauselaw03_MaskRanks.Pure : Prop := ∀ (a0 : Int), (Lit.int .u64 a0).wf = true → ∃ k, diapauselaw03_MaskRanks.f k a0 = some true
theorem diapauselaw03_MaskRanks.walk (P : diapauselaw03_MaskRanks.Pure) (a0 : Int) (w : World) (hT : Lw w) (w0 : (Lit.int .u64 a0).wf = true) :
    Calls Tryd.prog 13 #[.int .u64 a0] w fun e w' => e = .returned (.bool true) ∧ Below w.heap.size w w' := by
  obtain ⟨k, h⟩ := P a0 w0
  refine (diapauselaw03_MaskRanks.calls k a0 true w hT h).mono ?_
  rintro e w' ⟨rfl, hd⟩
  exact ⟨rfl, hd⟩

/-! ### mask_Set_Without: function 38 -/
def mask_Set_Without.f (a0 : Int) (a1 : Int) : Option (Int) := (mask_bit.f a1).bind fun t136 => (some (Go.bits .andNot .u64 a0 t136))
set_option maxHeartbeats 8000000 in
set_option maxRecDepth 100000 in
theorem mask_Set_Without.calls (a0 : Int) (a1 : Int) (r : Int) (w : World) (h : mask_Set_Without.f a0 a1 = some r) :
    Calls Tryd.prog 38 #[.int .u64 a0, .int .i64 a1] w fun e w' => e = .returned (.int .u64 r) ∧ Drawn0 w w' := by
  have H : ((mask_bit.f a1).bind fun t136 => (some (Go.bits .andNot .u64 a0 t136))) = some r := h
  clear h
  replace H := Option.bind_eq_some_iff.mp H
  obtain ⟨t136, A30, H⟩ := H
  replace H : (some (Go.bits .andNot .u64 a0 t136)) = some r := H
  have A3 := Aside0.mk A30
  clear A30
  obtain rfl := Option.some.inj H
  go_enter Tryd.func38, Tryd.ntmps38
  go_wp2_with (first | ((with_reducible refine gate_callee (f := 66) rfl ?_); refine goesL_ (some 7) rfl rfl Tryd.func66 (by kernel_rfl) rfl #[.int .i64 a1] rfl (by (try simp only [List.map_toArray, List.map_cons, List.map_nil]); first | done | rfl | (simp only [List.length_drop, List.length_take]; rfl)) ?_; (with_reducible refine (mask_bit.calls a1 t136 _ A3.out).mono ?_); rintro e w' ⟨rfl, ⟨nd, rfl⟩⟩; refine ⟨_, rfl, ?_⟩))
  go_ret
  exact ⟨by first | rfl | (simp; done) | (simp [*]; done), by repeat (first | exact Drawn0.refl _ | apply Drawn0.step)⟩

/-! ### diapauselaw03_MaskPairs: function 11 -/
mutual
def diapauselaw03_MaskPairs.j0 : Nat → Int → Int → Bool → Int → Int → Int → Bool → Option (Bool)
  | 0, _, _, _, _, _, _, _ => none
  | k + 1, x1, x2, x7, x8, x9, x10, x11 => (mask_Set_Has.f x9 x1).bind fun t140 => (if (t140 != x11) = true then (diapauselaw03_MaskPairs.j1 k x1 x2 x7 x8 x9 x10 x11 true) else ((mask_Set_Has.f x10 x1).bind fun t141 => (if t141 = true then (diapauselaw03_MaskPairs.j1 k x1 x2 x7 x8 x9 x10 x11 true) else ((mask_Set_With.f x9 x1).bind fun t142 => (if t142 = x9 then ((mask_Set_Without.f x10 x1).bind fun t143 => (if t143 = x10 then ((mask_Set_With.f x10 x1).bind fun t144 => (if t144 = x9 then ((mask_Set_Without.f x9 x1).bind fun t145 => (diapauselaw03_MaskPairs.j1 k x1 x2 x7 x8 x9 x10 x11 (t145 != x10))) else (diapauselaw03_MaskPairs.j1 k x1 x2 x7 x8 x9 x10 x11 true))) else (diapauselaw03_MaskPairs.j1 k x1 x2 x7 x8 x9 x10 x11 true))) else (diapauselaw03_MaskPairs.j1 k x1 x2 x7 x8 x9 x10 x11 true))))))
def diapauselaw03_MaskPairs.j1 : Nat → Int → Int → Bool → Int → Int → Int → Bool → Bool → Option (Bool)
  | 0, _, _, _, _, _, _, _, _ => none
  | k + 1, x1, x2, x7, x8, x9, x10, x11, x63 => if x63 = true then (some false) else (if x1 = x2 then (diapauselaw03_MaskPairs.j2 k x1 x2 x7 x8 x9 x10 x11 false) else ((mask_Set_Has.f x9 x2).bind fun t146 => ((mask_Set_Has.f x8 x2).bind fun t147 => (if (t146 != t147) = true then (diapauselaw03_MaskPairs.j2 k x1 x2 x7 x8 x9 x10 x11 true) else ((mask_Set_Has.f x10 x2).bind fun t148 => ((mask_Set_Has.f x8 x2).bind fun t149 => (diapauselaw03_MaskPairs.j2 k x1 x2 x7 x8 x9 x10 x11 (t148 != t149))))))))
def diapauselaw03_MaskPairs.j2 : Nat → Int → Int → Bool → Int → Int → Int → Bool → Bool → Option (Bool)
  | 0, _, _, _, _, _, _, _, _ => none
  | k + 1, x1, x2, x7, x8, x9, x10, x11, x84 => if x84 = true then (some false) else (if x7 = true then ((mask_Set_With.f x8 x1).bind fun t150 => ((mask_Set_With.f t150 x2).bind fun t151 => ((mask_Set_With.f x8 x2).bind fun t152 => ((mask_Set_With.f t152 x1).bind fun t153 => (if t151 = t153 then ((mask_Set_Len.f x9).bind fun t154 => ((mask_Set_Len.f x10).bind fun t155 => (if (wrap64 (t154 - t155)) ≤ 1 then ((mask_Set_Len.f x9).bind fun t156 => ((mask_Set_Len.f x10).bind fun t157 => (some (((wrap64 (t156 - t157)) == 1) == x11)))) else (some false)))) else (some false)))))) else (some false))
end
def diapauselaw03_MaskPairs.f (k : Nat) (a0 : Int) (a1 : Int) (a2 : Int) : Option (Bool) := (diapauselaw03_awake.f k).bind fun t137 => ((mask_Set_With.f a0 a1).bind fun t138 => ((mask_Set_Without.f a0 a1).bind fun t139 => (if a1 ≥ 0 then (diapauselaw03_MaskPairs.j0 k a1 a2 t137 a0 t138 t139 (decide (a1 < 64))) else (diapauselaw03_MaskPairs.j0 k a1 a2 t137 a0 t138 t139 false))))
theorem diapauselaw03_MaskPairs.mono_l : ∀ k, (∀ y0 y1 y2 y3 y4 y5 y6, LeO (diapauselaw03_MaskPairs.j0 k y0 y1 y2 y3 y4 y5 y6) (diapauselaw03_MaskPairs.j0 (k + 1) y0 y1 y2 y3 y4 y5 y6)) ∧ (∀ y0 y1 y2 y3 y4 y5 y6 y7, LeO (diapauselaw03_MaskPairs.j1 k y0 y1 y2 y3 y4 y5 y6 y7) (diapauselaw03_MaskPairs.j1 (k + 1) y0 y1 y2 y3 y4 y5 y6 y7)) ∧ (∀ y0 y1 y2 y3 y4 y5 y6 y7, LeO (diapauselaw03_MaskPairs.j2 k y0 y1 y2 y3 y4 y5 y6 y7) (diapauselaw03_MaskPairs.j2 (k + 1) y0 y1 y2 y3 y4 y5 y6 y7))
  | 0 => ⟨fun _ _ _ _ _ _ _ r h => by simp [diapauselaw03_MaskPairs.j0] at h, fun _ _ _ _ _ _ _ _ r h => by simp [diapauselaw03_MaskPairs.j1] at h, fun _ _ _ _ _ _ _ _ r h => by simp [diapauselaw03_MaskPairs.j2] at h⟩
  | k + 1 => by
    obtain ⟨ih0, ih1, ih2⟩ := diapauselaw03_MaskPairs.mono_l k
    refine ⟨?_, ?_, ?_⟩
    · intro y0 y1 y2 y3 y4 y5 y6
      unfold diapauselaw03_MaskPairs.j0
      repeat' first
      | (with_reducible exact ih0 _ _ _ _ _ _ _)
      | (with_reducible exact ih1 _ _ _ _ _ _ _ _)
      | (with_reducible exact ih2 _ _ _ _ _ _ _ _)
      | (with_reducible exact diapauselaw03_awake.mono _)
      | (with_reducible exact LeO.refl _)
      | (with_reducible exact LeO.none _)
      | (with_reducible refine LeO.ite ?_ ?_)
      | (with_reducible refine LeO.bind ?_ (fun _ => ?_))
      | exact ih0 _ _ _ _ _ _ _
      | exact ih1 _ _ _ _ _ _ _ _
      | exact ih2 _ _ _ _ _ _ _ _
      | exact diapauselaw03_awake.mono _
      | exact LeO.none _
      | refine LeO.ite ?_ ?_
      | refine LeO.bind ?_ (fun _ => ?_)
    · intro y0 y1 y2 y3 y4 y5 y6 y7
      unfold diapauselaw03_MaskPairs.j1
      repeat' first
      | (with_reducible exact ih0 _ _ _ _ _ _ _)
      | (with_reducible exact ih1 _ _ _ _ _ _ _ _)
      | (with_reducible exact ih2 _ _ _ _ _ _ _ _)
      | (with_reducible exact diapauselaw03_awake.mono _)
      | (with_reducible exact LeO.refl _)
      | (with_reducible exact LeO.none _)
      | (with_reducible refine LeO.ite ?_ ?_)
      | (with_reducible refine LeO.bind ?_ (fun _ => ?_))
      | exact ih0 _ _ _ _ _ _ _
      | exact ih1 _ _ _ _ _ _ _ _
      | exact ih2 _ _ _ _ _ _ _ _
      | exact diapauselaw03_awake.mono _
      | exact LeO.none _
      | refine LeO.ite ?_ ?_
      | refine LeO.bind ?_ (fun _ => ?_)
    · intro y0 y1 y2 y3 y4 y5 y6 y7
      unfold diapauselaw03_MaskPairs.j2
      repeat' first
      | (with_reducible exact ih0 _ _ _ _ _ _ _)
      | (with_reducible exact ih1 _ _ _ _ _ _ _ _)
      | (with_reducible exact ih2 _ _ _ _ _ _ _ _)
      | (with_reducible exact diapauselaw03_awake.mono _)
      | (with_reducible exact LeO.refl _)
      | (with_reducible exact LeO.none _)
      | (with_reducible refine LeO.ite ?_ ?_)
      | (with_reducible refine LeO.bind ?_ (fun _ => ?_))
      | exact ih0 _ _ _ _ _ _ _
      | exact ih1 _ _ _ _ _ _ _ _
      | exact ih2 _ _ _ _ _ _ _ _
      | exact diapauselaw03_awake.mono _
      | exact LeO.none _
      | refine LeO.ite ?_ ?_
      | refine LeO.bind ?_ (fun _ => ?_)
theorem diapauselaw03_MaskPairs.mono : ∀ a0 a1 a2 k, LeO (diapauselaw03_MaskPairs.f k a0 a1 a2) (diapauselaw03_MaskPairs.f (k + 1) a0 a1 a2) := by
  intro a0 a1 a2 k
  obtain ⟨ih0, ih1, ih2⟩ := diapauselaw03_MaskPairs.mono_l k
  unfold diapauselaw03_MaskPairs.f
  repeat' first
      | (with_reducible exact ih0 _ _ _ _ _ _ _)
      | (with_reducible exact ih1 _ _ _ _ _ _ _ _)
      | (with_reducible exact ih2 _ _ _ _ _ _ _ _)
      | (with_reducible exact diapauselaw03_awake.mono _)
      | (with_reducible exact LeO.refl _)
      | (with_reducible exact LeO.none _)
      | (with_reducible refine LeO.ite ?_ ?_)
      | (with_reducible refine LeO.bind ?_ (fun _ => ?_))
      | exact ih0 _ _ _ _ _ _ _
      | exact ih1 _ _ _ _ _ _ _ _
      | exact ih2 _ _ _ _ _ _ _ _
      | exact diapauselaw03_awake.mono _
      | exact LeO.none _
      | refine LeO.ite ?_ ?_
      | refine LeO.bind ?_ (fun _ => ?_)
set_option maxHeartbeats 8000000 in
set_option maxRecDepth 100000 in
theorem diapauselaw03_MaskPairs.calls (k : Nat) (a0 : Int) (a1 : Int) (a2 : Int) (r : Bool) (w : World) (hT : Lw w) (h : diapauselaw03_MaskPairs.f k a0 a1 a2 = some r) :
    Calls Tryd.prog 11 #[.int .u64 a0, .int .i64 a1, .int .i64 a2] w fun e w' => e = .returned (.bool r) ∧ Below w.heap.size w w' := by
  have HT := Aside0.mk hT
  clear hT
  have HB := Aside0.mk (Below.refl w.heap.size w)
  have H : ((diapauselaw03_awake.f k).bind fun t137 => ((mask_Set_With.f a0 a1).bind fun t138 => ((mask_Set_Without.f a0 a1).bind fun t139 => (if a1 ≥ 0 then (diapauselaw03_MaskPairs.j0 k a1 a2 t137 a0 t138 t139 (decide (a1 < 64))) else (diapauselaw03_MaskPairs.j0 k a1 a2 t137 a0 t138 t139 false))))) = some r := h
  clear h
  replace H := Option.bind_eq_some_iff.mp H
  obtain ⟨t137, A40, H⟩ := H
  replace H : ((mask_Set_With.f a0 a1).bind fun t138 => ((mask_Set_Without.f a0 a1).bind fun t139 => (if a1 ≥ 0 then (diapauselaw03_MaskPairs.j0 k a1 a2 t137 a0 t138 t139 (decide (a1 < 64))) else (diapauselaw03_MaskPairs.j0 k a1 a2 t137 a0 t138 t139 false)))) = some r := H
  have A4 := Aside0.mk A40
  clear A40
  replace H := Option.bind_eq_some_iff.mp H
  obtain ⟨t138, A50, H⟩ := H
  replace H : ((mask_Set_Without.f a0 a1).bind fun t139 => (if a1 ≥ 0 then (diapauselaw03_MaskPairs.j0 k a1 a2 t137 a0 t138 t139 (decide (a1 < 64))) else (diapauselaw03_MaskPairs.j0 k a1 a2 t137 a0 t138 t139 false))) = some r := H
  have A5 := Aside0.mk A50
  clear A50
  replace H := Option.bind_eq_some_iff.mp H
  obtain ⟨t139, A60, H⟩ := H
  replace H : (if a1 ≥ 0 then (diapauselaw03_MaskPairs.j0 k a1 a2 t137 a0 t138 t139 (decide (a1 < 64))) else (diapauselaw03_MaskPairs.j0 k a1 a2 t137 a0 t138 t139 false)) = some r := H
  have A6 := Aside0.mk A60
  clear A60
  have HC7 := Aside0.mk H
  clear H
  go_enter Tryd.func11, Tryd.ntmps11
  go_upto_region 5 with (first | ((with_reducible refine gate_callee (f := 32) rfl ?_); refine goesL_ (some 12) rfl rfl Tryd.func32 (by kernel_rfl) rfl #[] rfl (by (try simp only [List.map_toArray, List.map_cons, List.map_nil]); first | done | rfl | (simp only [List.length_drop, List.length_take]; rfl)) ?_; (with_reducible refine (diapauselaw03_awake.calls k  t137 _ (HT.out.below (by repeat (first | (with_reducible first | exact HB.out | apply below_alloc | apply pw_below_drewN | apply below_drew1) | exact HB.out))) A4.out).mono ?_); rintro e w8 ⟨rfl, hb⟩; refine ⟨_, rfl, ?_⟩; have n0_ := Aside0.mk (below_step (by repeat (first | (with_reducible first | exact HB.out | apply below_alloc | apply pw_below_drewN | apply below_drew1) | exact HB.out)) hb); clear HB; have HB := n0_; clear n0_; (try clear hb); (try clear hb2); (try clear hk); (try clear hi)) | ((with_reducible refine gate_callee (f := 37) rfl ?_); refine goesL_ (some 16) rfl rfl Tryd.func37 (by kernel_rfl) rfl #[.int .u64 a0, .int .i64 a1] rfl (by (try simp only [List.map_toArray, List.map_cons, List.map_nil]); first | done | rfl | (simp only [List.length_drop, List.length_take]; rfl)) ?_; (with_reducible refine (mask_Set_With.calls a0 a1 t138 _ A5.out).mono ?_); rintro e w' ⟨rfl, ⟨nd, rfl⟩⟩; refine ⟨_, rfl, ?_⟩) | ((with_reducible refine gate_callee (f := 38) rfl ?_); refine goesL_ (some 19) rfl rfl Tryd.func38 (by kernel_rfl) rfl #[.int .u64 a0, .int .i64 a1] rfl (by (try simp only [List.map_toArray, List.map_cons, List.map_nil]); first | done | rfl | (simp only [List.length_drop, List.length_take]; rfl)) ?_; (with_reducible refine (mask_Set_Without.calls a0 a1 t139 _ A6.out).mono ?_); rintro e w' ⟨rfl, ⟨nd, rfl⟩⟩; refine ⟨_, rfl, ?_⟩))
  (try simp only [Act.put, List.setIfInBounds_toArray, List.set_cons_zero, List.set_cons_succ])
  go_cut [11] (fun v11 wc => ∃ (kq : Nat) (x11_6 : Bool), v11 = .bool x11_6 ∧ Aside0 (diapauselaw03_MaskPairs.j0 kq a1 a2 t137 a0 t138 t139 x11_6 = some r) ∧ Aside0 (kq ≤ k) ∧ Aside0 (Below w.heap.size w wc))
  case first =>
    have H := HC7.out
    clear HC7
    by_cases c9 : a1 ≥ 0
    · rw [if_pos c9] at H
      have c9b0 : decide (0 ≤ a1) = true := decide_eq_true c9
      clear c9
      (first | rw [c9b0] | (simp only [i64_w, i32_w]; rw [c9b0]) | skip)
      have H' := Aside0.mk H
      clear H
      go_wp2
      go_meet
      case rel => exact ⟨_, (decide (a1 < 64)), (by first | rfl | (simp; done) | (simp [*]; done)), H', ⟨by first | omega | exact Nat.le_refl _⟩, ⟨by repeat (first | (with_reducible first | exact HB.out | apply below_alloc | apply pw_below_drewN | apply below_drew1) | exact HB.out)⟩⟩
    · rw [if_neg c9] at H
      have c9b0 : decide (0 ≤ a1) = false := decide_eq_false c9
      clear c9
      (first | rw [c9b0] | (simp only [i64_w, i32_w]; rw [c9b0]) | skip)
      have H' := Aside0.mk H
      clear H
      go_wp2
      go_meet
      case rel => exact ⟨_, (false), (by first | rfl | (simp; done) | (simp [*]; done)), H', ⟨by first | omega | exact Nat.le_refl _⟩, ⟨by repeat (first | (with_reducible first | exact HB.out | apply below_alloc | apply pw_below_drewN | apply below_drew1) | exact HB.out)⟩⟩
  case rest =>
    clear HC7
    try clear c1
    try clear p2
    try clear c3
    try clear c9
    try clear c9b0
    obtain ⟨kq, x11_6, rfl, HA, HJ6, HB⟩ := hcut
    cases kq with
    | zero => exact absurd HA.out (by simp [diapauselaw03_MaskPairs.j0])
    | succ kj6 =>
      have H := HA.out
      clear HA
      simp only [diapauselaw03_MaskPairs.j0] at H
      have HC10 := Aside0.mk H
      clear H
      go_upto_region 6 with (fail)
      go_cut [63] (fun v63 wc => ∃ (kq : Nat) (x63_9 : Bool), v63 = .bool x63_9 ∧ Aside0 (diapauselaw03_MaskPairs.j1 kq a1 a2 t137 a0 t138 t139 x11_6 x63_9 = some r) ∧ Aside0 (kq ≤ kj6) ∧ Aside0 (Below w.heap.size w wc))
      case first =>
        have H := HC10.out
        clear HC10
        replace H := Option.bind_eq_some_iff.mp H
        obtain ⟨t140, A110, H⟩ := H
        replace H : (if (t140 != x11_6) = true then (diapauselaw03_MaskPairs.j1 kj6 a1 a2 t137 a0 t138 t139 x11_6 true) else ((mask_Set_Has.f t139 a1).bind fun t141 => (if t141 = true then (diapauselaw03_MaskPairs.j1 kj6 a1 a2 t137 a0 t138 t139 x11_6 true) else ((mask_Set_With.f t138 a1).bind fun t142 => (if t142 = t138 then ((mask_Set_Without.f t139 a1).bind fun t143 => (if t143 = t139 then ((mask_Set_With.f t139 a1).bind fun t144 => (if t144 = t138 then ((mask_Set_Without.f t138 a1).bind fun t145 => (diapauselaw03_MaskPairs.j1 kj6 a1 a2 t137 a0 t138 t139 x11_6 (t145 != t139))) else (diapauselaw03_MaskPairs.j1 kj6 a1 a2 t137 a0 t138 t139 x11_6 true))) else (diapauselaw03_MaskPairs.j1 kj6 a1 a2 t137 a0 t138 t139 x11_6 true))) else (diapauselaw03_MaskPairs.j1 kj6 a1 a2 t137 a0 t138 t139 x11_6 true)))))) = some r := H
        have A11 := Aside0.mk A110
        clear A110
        by_cases c12 : (t140 != x11_6) = true
        · rw [if_pos c12] at H
          have c12b0 : (t140 != x11_6) = true := c12
          (try (have c12b1 : decide (t140 = x11_6) = false := by simpa using c12))
          (try (have c12b2 : (t140 == x11_6) = false := by simpa using c12))
          (try (have c12b3 : ¬ (t140 = x11_6) := by simpa using c12))
          clear c12
          (first | rw [c12b0] | (simp only [i64_w, i32_w]; rw [c12b0]) | skip)
          have H' := Aside0.mk H
          clear H
          go_wp2_with (first | ((with_reducible refine gate_callee (f := 39) rfl ?_); refine goesL_ (some 28) rfl rfl Tryd.func39 (by kernel_rfl) rfl #[.int .u64 t138, .int .i64 a1] rfl (by (try simp only [List.map_toArray, List.map_cons, List.map_nil]); first | done | rfl | (simp only [List.length_drop, List.length_take]; rfl)) ?_; (with_reducible refine (mask_Set_Has.calls t138 a1 t140 _ A11.out).mono ?_); rintro e w' ⟨rfl, ⟨nd, rfl⟩⟩; refine ⟨_, rfl, ?_⟩))
          go_meet
          case rel => exact ⟨_, (true), (by first | rfl | (simp; done) | (simp [*]; done)), H', ⟨by have := HJ6.out; first | omega | exact Nat.le_refl _⟩, ⟨by repeat (first | (with_reducible first | exact HB.out | apply below_alloc | apply pw_below_drewN | apply below_drew1) | exact HB.out)⟩⟩
        · rw [if_neg c12] at H
          have c12b0 : (t140 != x11_6) = false := by simpa using c12
          (try (have c12b1 : decide (t140 = x11_6) = true := by simpa using c12))
          (try (have c12b2 : (t140 == x11_6) = true := by simpa using c12))
          clear c12
          (first | rw [c12b0] | (simp only [i64_w, i32_w]; rw [c12b0]) | skip)
          replace H := Option.bind_eq_some_iff.mp H
          obtain ⟨t141, A130, H⟩ := H
          replace H : (if t141 = true then (diapauselaw03_MaskPairs.j1 kj6 a1 a2 t137 a0 t138 t139 x11_6 true) else ((mask_Set_With.f t138 a1).bind fun t142 => (if t142 = t138 then ((mask_Set_Without.f t139 a1).bind fun t143 => (if t143 = t139 then ((mask_Set_With.f t139 a1).bind fun t144 => (if t144 = t138 then ((mask_Set_Without.f t138 a1).bind fun t145 => (diapauselaw03_MaskPairs.j1 kj6 a1 a2 t137 a0 t138 t139 x11_6 (t145 != t139))) else (diapauselaw03_MaskPairs.j1 kj6 a1 a2 t137 a0 t138 t139 x11_6 true))) else (diapauselaw03_MaskPairs.j1 kj6 a1 a2 t137 a0 t138 t139 x11_6 true))) else (diapauselaw03_MaskPairs.j1 kj6 a1 a2 t137 a0 t138 t139 x11_6 true)))) = some r := H
          have A13 := Aside0.mk A130
          clear A130
          by_cases c14 : t141 = true
          · subst c14
            have H1 : (diapauselaw03_MaskPairs.j1 kj6 a1 a2 t137 a0 t138 t139 x11_6 true) = some r := by rw [if_pos rfl] at H; exact H
            clear H
            have H := H1
            clear H1
            have H' := Aside0.mk H
            clear H
            go_wp2_with (first | ((with_reducible refine gate_callee (f := 39) rfl ?_); refine goesL_ (some 28) rfl rfl Tryd.func39 (by kernel_rfl) rfl #[.int .u64 t138, .int .i64 a1] rfl (by (try simp only [List.map_toArray, List.map_cons, List.map_nil]); first | done | rfl | (simp only [List.length_drop, List.length_take]; rfl)) ?_; (with_reducible refine (mask_Set_Has.calls t138 a1 t140 _ A11.out).mono ?_); rintro e w' ⟨rfl, ⟨nd, rfl⟩⟩; refine ⟨_, rfl, ?_⟩) | (go_at_call 39; (with_reducible refine (mask_Set_Has.calls t139 a1 true _ A13.out).mono ?_); rintro e w' ⟨rfl, ⟨nd, rfl⟩⟩))
            go_meet
            case rel => exact ⟨_, (true), (by first | rfl | (simp; done) | (simp [*]; done)), H', ⟨by have := HJ6.out; first | omega | exact Nat.le_refl _⟩, ⟨by repeat (first | (with_reducible first | exact HB.out | apply below_alloc | apply pw_below_drewN | apply below_drew1) | exact HB.out)⟩⟩
          · replace c14 := Bool.eq_false_iff.mpr c14
            subst c14
            have H1 : ((mask_Set_With.f t138 a1).bind fun t142 => (if t142 = t138 then ((mask_Set_Without.f t139 a1).bind fun t143 => (if t143 = t139 then ((mask_Set_With.f t139 a1).bind fun t144 => (if t144 = t138 then ((mask_Set_Without.f t138 a1).bind fun t145 => (diapauselaw03_MaskPairs.j1 kj6 a1 a2 t137 a0 t138 t139 x11_6 (t145 != t139))) else (diapauselaw03_MaskPairs.j1 kj6 a1 a2 t137 a0 t138 t139 x11_6 true))) else (diapauselaw03_MaskPairs.j1 kj6 a1 a2 t137 a0 t138 t139 x11_6 true))) else (diapauselaw03_MaskPairs.j1 kj6 a1 a2 t137 a0 t138 t139 x11_6 true))) = some r := by rw [if_neg (show ¬ (false = true) by decide)] at H; exact H
            clear H
            have H := H1
            clear H1
            replace H := Option.bind_eq_some_iff.mp H
            obtain ⟨t142, A150, H⟩ := H
            replace H : (if t142 = t138 then ((mask_Set_Without.f t139 a1).bind fun t143 => (if t143 = t139 then ((mask_Set_With.f t139 a1).bind fun t144 => (if t144 = t138 then ((mask_Set_Without.f t138 a1).bind fun t145 => (diapauselaw03_MaskPairs.j1 kj6 a1 a2 t137 a0 t138 t139 x11_6 (t145 != t139))) else (diapauselaw03_MaskPairs.j1 kj6 a1 a2 t137 a0 t138 t139 x11_6 true))) else (diapauselaw03_MaskPairs.j1 kj6 a1 a2 t137 a0 t138 t139 x11_6 true))) else (diapauselaw03_MaskPairs.j1 kj6 a1 a2 t137 a0 t138 t139 x11_6 true)) = some r := H
            have A15 := Aside0.mk A150
            clear A150
            by_cases c16 : t142 = t138
            · rw [if_pos c16] at H
              have c16b0 : (t142 == t138) = true := beq_iff_eq.mpr c16
              have c16b1 : (t142 != t138) = false := bne_eq_false_iff_eq.mpr c16
              clear c16
              replace H := Option.bind_eq_some_iff.mp H
              obtain ⟨t143, A170, H⟩ := H
              replace H : (if t143 = t139 then ((mask_Set_With.f t139 a1).bind fun t144 => (if t144 = t138 then ((mask_Set_Without.f t138 a1).bind fun t145 => (diapauselaw03_MaskPairs.j1 kj6 a1 a2 t137 a0 t138 t139 x11_6 (t145 != t139))) else (diapauselaw03_MaskPairs.j1 kj6 a1 a2 t137 a0 t138 t139 x11_6 true))) else (diapauselaw03_MaskPairs.j1 kj6 a1 a2 t137 a0 t138 t139 x11_6 true)) = some r := H
              have A17 := Aside0.mk A170
              clear A170
              by_cases c18 : t143 = t139
              · rw [if_pos c18] at H
                have c18b0 : (t143 == t139) = true := beq_iff_eq.mpr c18
                have c18b1 : (t143 != t139) = false := bne_eq_false_iff_eq.mpr c18
                clear c18
                replace H := Option.bind_eq_some_iff.mp H
                obtain ⟨t144, A190, H⟩ := H
                replace H : (if t144 = t138 then ((mask_Set_Without.f t138 a1).bind fun t145 => (diapauselaw03_MaskPairs.j1 kj6 a1 a2 t137 a0 t138 t139 x11_6 (t145 != t139))) else (diapauselaw03_MaskPairs.j1 kj6 a1 a2 t137 a0 t138 t139 x11_6 true)) = some r := H
                have A19 := Aside0.mk A190
                clear A190
                by_cases c20 : t144 = t138
                · rw [if_pos c20] at H
                  have c20b0 : (t144 == t138) = true := beq_iff_eq.mpr c20
                  have c20b1 : (t144 != t138) = false := bne_eq_false_iff_eq.mpr c20
                  clear c20
                  replace H := Option.bind_eq_some_iff.mp H
                  obtain ⟨t145, A210, H⟩ := H
                  replace H : (diapauselaw03_MaskPairs.j1 kj6 a1 a2 t137 a0 t138 t139 x11_6 (t145 != t139)) = some r := H
                  have A21 := Aside0.mk A210
                  clear A210
                  have H' := Aside0.mk H
                  clear H
                  go_wp2_with (first | ((with_reducible refine gate_callee (f := 39) rfl ?_); refine goesL_ (some 28) rfl rfl Tryd.func39 (by kernel_rfl) rfl #[.int .u64 t138, .int .i64 a1] rfl (by (try simp only [List.map_toArray, List.map_cons, List.map_nil]); first | done | rfl | (simp only [List.length_drop, List.length_take]; rfl)) ?_; (with_reducible refine (mask_Set_Has.calls t138 a1 t140 _ A11.out).mono ?_); rintro e w' ⟨rfl, ⟨nd, rfl⟩⟩; refine ⟨_, rfl, ?_⟩) | (go_at_call 39; (with_reducible refine (mask_Set_Has.calls t139 a1 false _ A13.out).mono ?_); rintro e w' ⟨rfl, ⟨nd, rfl⟩⟩) | (go_at_call 37; (with_reducible refine (mask_Set_With.calls t138 a1 t142 _ A15.out).mono ?_); rintro e w' ⟨rfl, ⟨nd, rfl⟩⟩) | (go_at_call 38; (with_reducible refine (mask_Set_Without.calls t139 a1 t143 _ A17.out).mono ?_); rintro e w' ⟨rfl, ⟨nd, rfl⟩⟩) | (go_at_call 37; (with_reducible refine (mask_Set_With.calls t139 a1 t144 _ A19.out).mono ?_); rintro e w' ⟨rfl, ⟨nd, rfl⟩⟩) | (go_at_call 38; (with_reducible refine (mask_Set_Without.calls t138 a1 t145 _ A21.out).mono ?_); rintro e w' ⟨rfl, ⟨nd, rfl⟩⟩))
                  go_meet
                  case rel => exact ⟨_, ((t145 != t139)), (by first | rfl | (simp; done) | (simp [*]; done)), H', ⟨by have := HJ6.out; first | omega | exact Nat.le_refl _⟩, ⟨by repeat (first | (with_reducible first | exact HB.out | apply below_alloc | apply pw_below_drewN | apply below_drew1) | exact HB.out)⟩⟩
                · rw [if_neg c20] at H
                  have c20b0 : (t144 == t138) = false := beq_eq_false_iff_ne.mpr c20
                  have c20b1 : (t144 != t138) = true := bne_iff_ne.mpr c20
                  have H' := Aside0.mk H
                  clear H
                  go_wp2_with (first | ((with_reducible refine gate_callee (f := 39) rfl ?_); refine goesL_ (some 28) rfl rfl Tryd.func39 (by kernel_rfl) rfl #[.int .u64 t138, .int .i64 a1] rfl (by (try simp only [List.map_toArray, List.map_cons, List.map_nil]); first | done | rfl | (simp only [List.length_drop, List.length_take]; rfl)) ?_; (with_reducible refine (mask_Set_Has.calls t138 a1 t140 _ A11.out).mono ?_); rintro e w' ⟨rfl, ⟨nd, rfl⟩⟩; refine ⟨_, rfl, ?_⟩) | (go_at_call 39; (with_reducible refine (mask_Set_Has.calls t139 a1 false _ A13.out).mono ?_); rintro e w' ⟨rfl, ⟨nd, rfl⟩⟩) | (go_at_call 37; (with_reducible refine (mask_Set_With.calls t138 a1 t142 _ A15.out).mono ?_); rintro e w' ⟨rfl, ⟨nd, rfl⟩⟩) | (go_at_call 38; (with_reducible refine (mask_Set_Without.calls t139 a1 t143 _ A17.out).mono ?_); rintro e w' ⟨rfl, ⟨nd, rfl⟩⟩) | (go_at_call 37; (with_reducible refine (mask_Set_With.calls t139 a1 t144 _ A19.out).mono ?_); rintro e w' ⟨rfl, ⟨nd, rfl⟩⟩))
                  go_meet
                  case rel => exact ⟨_, (true), (by first | rfl | (simp; done) | (simp [*]; done)), H', ⟨by have := HJ6.out; first | omega | exact Nat.le_refl _⟩, ⟨by repeat (first | (with_reducible first | exact HB.out | apply below_alloc | apply pw_below_drewN | apply below_drew1) | exact HB.out)⟩⟩
              · rw [if_neg c18] at H
                have c18b0 : (t143 == t139) = false := beq_eq_false_iff_ne.mpr c18
                have c18b1 : (t143 != t139) = true := bne_iff_ne.mpr c18
                have H' := Aside0.mk H
                clear H
                go_wp2_with (first | ((with_reducible refine gate_callee (f := 39) rfl ?_); refine goesL_ (some 28) rfl rfl Tryd.func39 (by kernel_rfl) rfl #[.int .u64 t138, .int .i64 a1] rfl (by (try simp only [List.map_toArray, List.map_cons, List.map_nil]); first | done | rfl | (simp only [List.length_drop, List.length_take]; rfl)) ?_; (with_reducible refine (mask_Set_Has.calls t138 a1 t140 _ A11.out).mono ?_); rintro e w' ⟨rfl, ⟨nd, rfl⟩⟩; refine ⟨_, rfl, ?_⟩) | (go_at_call 39; (with_reducible refine (mask_Set_Has.calls t139 a1 false _ A13.out).mono ?_); rintro e w' ⟨rfl, ⟨nd, rfl⟩⟩) | (go_at_call 37; (with_reducible refine (mask_Set_With.calls t138 a1 t142 _ A15.out).mono ?_); rintro e w' ⟨rfl, ⟨nd, rfl⟩⟩) | (go_at_call 38; (with_reducible refine (mask_Set_Without.calls t139 a1 t143 _ A17.out).mono ?_); rintro e w' ⟨rfl, ⟨nd, rfl⟩⟩))
                go_meet
                case rel => exact ⟨_, (true), (by first | rfl | (simp; done) | (simp [*]; done)), H', ⟨by have := HJ6.out; first | omega | exact Nat.le_refl _⟩, ⟨by repeat (first | (with_reducible first | exact HB.out | apply below_alloc | apply pw_below_drewN | apply below_drew1) | exact HB.out)⟩⟩
            · rw [if_neg c16] at H
              have c16b0 : (t142 == t138) = false := beq_eq_false_iff_ne.mpr c16
              have c16b1 : (t142 != t138) = true := bne_iff_ne.mpr c16
              have H' := Aside0.mk H
              clear H
              go_wp2_with (first | ((with_reducible refine gate_callee (f := 39) rfl ?_); refine goesL_ (some 28) rfl rfl Tryd.func39 (by kernel_rfl) rfl #[.int .u64 t138, .int .i64 a1] rfl (by (try simp only [List.map_toArray, List.map_cons, List.map_nil]); first | done | rfl | (simp only [List.length_drop, List.length_take]; rfl)) ?_; (with_reducible refine (mask_Set_Has.calls t138 a1 t140 _ A11.out).mono ?_); rintro e w' ⟨rfl, ⟨nd, rfl⟩⟩; refine ⟨_, rfl, ?_⟩) | (go_at_call 39; (with_reducible refine (mask_Set_Has.calls t139 a1 false _ A13.out).mono ?_); rintro e w' ⟨rfl, ⟨nd, rfl⟩⟩) | (go_at_call 37; (with_reducible refine (mask_Set_With.calls t138 a1 t142 _ A15.out).mono ?_); rintro e w' ⟨rfl, ⟨nd, rfl⟩⟩))
              go_meet
              case rel => exact ⟨_, (true), (by first | rfl | (simp; done) | (simp [*]; done)), H', ⟨by have := HJ6.out; first | omega | exact Nat.le_refl _⟩, ⟨by repeat (first | (with_reducible first | exact HB.out | apply below_alloc | apply pw_below_drewN | apply below_drew1) | exact HB.out)⟩⟩
      case rest =>
        clear HC10
        try clear c1
        try clear c2
        try clear p2
        try clear c3
        try clear c9
        try clear c9b0
        try clear c11
        try clear c12
        try clear c12b0
        try clear c12b1
        try clear c12b2
        try clear c14
        try clear c16
        try clear c16b0
        try clear c16b1
        try clear c18
        try clear c18b0
        try clear c18b1
        try clear c20
        try clear c20b0
        try clear c20b1
        try clear p2
        obtain ⟨kq, x63_9, rfl, HA, HJ9, HB⟩ := hcut
        cases kq with
        | zero => exact absurd HA.out (by simp [diapauselaw03_MaskPairs.j1])
        | succ kj9 =>
          have H := HA.out
          clear HA
          simp only [diapauselaw03_MaskPairs.j1] at H
          by_cases c22 : x63_9 = true
          · subst c22
            have H1 : (some false) = some r := by rw [if_pos rfl] at H; exact H
            clear H
            have H := H1
            clear H1
            obtain rfl := Option.some.inj H
            go_wp2
            go_ret
            exact ⟨by first | rfl | (simp [errW_none, errW_some] <;> rfl) | (simp [*, errW_none, errW_some] <;> rfl), by repeat (first | (with_reducible first | exact HB.out | apply below_alloc | apply pw_below_drewN | apply below_drew1) | exact HB.out)⟩
          · replace c22 := Bool.eq_false_iff.mpr c22
            subst c22
            have H1 : (if a1 = a2 then (diapauselaw03_MaskPairs.j2 kj9 a1 a2 t137 a0 t138 t139 x11_6 false) else ((mask_Set_Has.f t138 a2).bind fun t146 => ((mask_Set_Has.f a0 a2).bind fun t147 => (if (t146 != t147) = true then (diapauselaw03_MaskPairs.j2 kj9 a1 a2 t137 a0 t138 t139 x11_6 true) else ((mask_Set_Has.f t139 a2).bind fun t148 => ((mask_Set_Has.f a0 a2).bind fun t149 => (diapauselaw03_MaskPairs.j2 kj9 a1 a2 t137 a0 t138 t139 x11_6 (t148 != t149)))))))) = some r := by rw [if_neg (show ¬ (false = true) by decide)] at H; exact H
            clear H
            have H := H1
            clear H1
            have HC23 := Aside0.mk H
            clear H
            go_upto_region 8 with (fail)
            go_cut [84] (fun v84 wc => ∃ (kq : Nat) (x84_22 : Bool), v84 = .bool x84_22 ∧ Aside0 (diapauselaw03_MaskPairs.j2 kq a1 a2 t137 a0 t138 t139 x11_6 x84_22 = some r) ∧ Aside0 (kq ≤ kj9) ∧ Aside0 (Below w.heap.size w wc))
            case first =>
              have H := HC23.out
              clear HC23
              by_cases c24 : a1 = a2
              · rw [if_pos c24] at H
                have c24b0 : (a1 == a2) = true := beq_iff_eq.mpr c24
                have c24b1 : (a1 != a2) = false := bne_eq_false_iff_eq.mpr c24
                clear c24
                (first | rw [c24b0] | (simp only [i64_w, i32_w]; rw [c24b0]) | skip)
                have H' := Aside0.mk H
                clear H
                go_wp2
                go_meet
                case rel => exact ⟨_, (false), (by first | rfl | (simp; done) | (simp [*]; done)), H', ⟨by have := HJ6.out; have := HJ9.out; first | omega | exact Nat.le_refl _⟩, ⟨by repeat (first | (with_reducible first | exact HB.out | apply below_alloc | apply pw_below_drewN | apply below_drew1) | exact HB.out)⟩⟩
              · rw [if_neg c24] at H
                have c24b0 : (a1 == a2) = false := beq_eq_false_iff_ne.mpr c24
                have c24b1 : (a1 != a2) = true := bne_iff_ne.mpr c24
                (first | rw [c24b0] | (simp only [i64_w, i32_w]; rw [c24b0]) | skip)
                replace H := Option.bind_eq_some_iff.mp H
                obtain ⟨t146, A250, H⟩ := H
                replace H : ((mask_Set_Has.f a0 a2).bind fun t147 => (if (t146 != t147) = true then (diapauselaw03_MaskPairs.j2 kj9 a1 a2 t137 a0 t138 t139 x11_6 true) else ((mask_Set_Has.f t139 a2).bind fun t148 => ((mask_Set_Has.f a0 a2).bind fun t149 => (diapauselaw03_MaskPairs.j2 kj9 a1 a2 t137 a0 t138 t139 x11_6 (t148 != t149)))))) = some r := H
                have A25 := Aside0.mk A250
                clear A250
                replace H := Option.bind_eq_some_iff.mp H
                obtain ⟨t147, A260, H⟩ := H
                replace H : (if (t146 != t147) = true then (diapauselaw03_MaskPairs.j2 kj9 a1 a2 t137 a0 t138 t139 x11_6 true) else ((mask_Set_Has.f t139 a2).bind fun t148 => ((mask_Set_Has.f a0 a2).bind fun t149 => (diapauselaw03_MaskPairs.j2 kj9 a1 a2 t137 a0 t138 t139 x11_6 (t148 != t149))))) = some r := H
                have A26 := Aside0.mk A260
                clear A260
                by_cases c27 : (t146 != t147) = true
                · rw [if_pos c27] at H
                  have c27b0 : (t146 != t147) = true := c27
                  (try (have c27b1 : decide (t146 = t147) = false := by simpa using c27))
                  (try (have c27b2 : (t146 == t147) = false := by simpa using c27))
                  (try (have c27b3 : ¬ (t146 = t147) := by simpa using c27))
                  clear c27
                  have H' := Aside0.mk H
                  clear H
                  go_wp2_with (first | (go_at_call 39; (with_reducible refine (mask_Set_Has.calls t138 a2 t146 _ A25.out).mono ?_); rintro e w' ⟨rfl, ⟨nd, rfl⟩⟩) | (go_at_call 39; (with_reducible refine (mask_Set_Has.calls a0 a2 t147 _ A26.out).mono ?_); rintro e w' ⟨rfl, ⟨nd, rfl⟩⟩))
                  go_meet
                  case rel => exact ⟨_, (true), (by first | rfl | (simp; done) | (simp [*]; done)), H', ⟨by have := HJ6.out; have := HJ9.out; first | omega | exact Nat.le_refl _⟩, ⟨by repeat (first | (with_reducible first | exact HB.out | apply below_alloc | apply pw_below_drewN | apply below_drew1) | exact HB.out)⟩⟩
                · rw [if_neg c27] at H
                  have c27b0 : (t146 != t147) = false := by simpa using c27
                  (try (have c27b1 : decide (t146 = t147) = true := by simpa using c27))
                  (try (have c27b2 : (t146 == t147) = true := by simpa using c27))
                  clear c27
                  replace H := Option.bind_eq_some_iff.mp H
                  obtain ⟨t148, A280, H⟩ := H
                  replace H : ((mask_Set_Has.f a0 a2).bind fun t149 => (diapauselaw03_MaskPairs.j2 kj9 a1 a2 t137 a0 t138 t139 x11_6 (t148 != t149))) = some r := H
                  have A28 := Aside0.mk A280
                  clear A280
                  replace H := Option.bind_eq_some_iff.mp H
                  obtain ⟨t149, A290, H⟩ := H
                  replace H : (diapauselaw03_MaskPairs.j2 kj9 a1 a2 t137 a0 t138 t139 x11_6 (t148 != t149)) = some r := H
                  have A29 := Aside0.mk A290
                  obtain rfl : t147 = t149 := Option.some.inj (A26.out.symm.trans A29.out)
                  clear A290
                  have H' := Aside0.mk H
                  clear H
                  go_wp2_with (first | (go_at_call 39; (with_reducible refine (mask_Set_Has.calls t138 a2 t146 _ A25.out).mono ?_); rintro e w' ⟨rfl, ⟨nd, rfl⟩⟩) | (go_at_call 39; (with_reducible refine (mask_Set_Has.calls a0 a2 t147 _ A26.out).mono ?_); rintro e w' ⟨rfl, ⟨nd, rfl⟩⟩) | (go_at_call 39; (with_reducible refine (mask_Set_Has.calls t139 a2 t148 _ A28.out).mono ?_); rintro e w' ⟨rfl, ⟨nd, rfl⟩⟩) | (go_at_call 39; (with_reducible refine (mask_Set_Has.calls a0 a2 t147 _ A29.out).mono ?_); rintro e w' ⟨rfl, ⟨nd, rfl⟩⟩))
                  go_meet
                  case rel => exact ⟨_, ((t148 != t147)), (by first | rfl | (simp; done) | (simp [*]; done)), H', ⟨by have := HJ6.out; have := HJ9.out; first | omega | exact Nat.le_refl _⟩, ⟨by repeat (first | (with_reducible first | exact HB.out | apply below_alloc | apply pw_below_drewN | apply below_drew1) | exact HB.out)⟩⟩
            case rest =>
              clear HC23
              try clear c1
              try clear c2
              try clear p2
              try clear c3
              try clear c9
              try clear c9b0
              try clear c11
              try clear c12
              try clear c12b0
              try clear c12b1
              try clear c12b2
              try clear c14
              try clear c16
              try clear c16b0
              try clear c16b1
              try clear c18
              try clear c18b0
              try clear c18b1
              try clear c20
              try clear c20b0
              try clear c20b1
              try clear c22
              try clear c24
              try clear c24b0
              try clear c24b1
              try clear c27
              try clear c27b0
              try clear c27b1
              try clear c27b2
              try clear p2
              obtain ⟨kq, x84_22, rfl, HA, HJ22, HB⟩ := hcut
              cases kq with
              | zero => exact absurd HA.out (by simp [diapauselaw03_MaskPairs.j2])
              | succ kj22 =>
                have H := HA.out
                clear HA
                simp only [diapauselaw03_MaskPairs.j2] at H
                by_cases c30 : x84_22 = true
                · subst c30
                  have H1 : (some false) = some r := by rw [if_pos rfl] at H; exact H
                  clear H
                  have H := H1
                  clear H1
                  obtain rfl := Option.some.inj H
                  go_wp2
                  go_ret
                  exact ⟨by first | rfl | (simp [errW_none, errW_some] <;> rfl) | (simp [*, errW_none, errW_some] <;> rfl), by repeat (first | (with_reducible first | exact HB.out | apply below_alloc | apply pw_below_drewN | apply below_drew1) | exact HB.out)⟩
                · replace c30 := Bool.eq_false_iff.mpr c30
                  subst c30
                  have H1 : (if t137 = true then ((mask_Set_With.f a0 a1).bind fun t150 => ((mask_Set_With.f t150 a2).bind fun t151 => ((mask_Set_With.f a0 a2).bind fun t152 => ((mask_Set_With.f t152 a1).bind fun t153 => (if t151 = t153 then ((mask_Set_Len.f t138).bind fun t154 => ((mask_Set_Len.f t139).bind fun t155 => (if (wrap64 (t154 - t155)) ≤ 1 then ((mask_Set_Len.f t138).bind fun t156 => ((mask_Set_Len.f t139).bind fun t157 => (some (((wrap64 (t156 - t157)) == 1) == x11_6)))) else (some false)))) else (some false)))))) else (some false)) = some r := by rw [if_neg (show ¬ (false = true) by decide)] at H; exact H
                  clear H
                  have H := H1
                  clear H1
                  by_cases c31 : t137 = true
                  · subst c31
                    have H1 : ((mask_Set_With.f a0 a1).bind fun t150 => ((mask_Set_With.f t150 a2).bind fun t151 => ((mask_Set_With.f a0 a2).bind fun t152 => ((mask_Set_With.f t152 a1).bind fun t153 => (if t151 = t153 then ((mask_Set_Len.f t138).bind fun t154 => ((mask_Set_Len.f t139).bind fun t155 => (if (wrap64 (t154 - t155)) ≤ 1 then ((mask_Set_Len.f t138).bind fun t156 => ((mask_Set_Len.f t139).bind fun t157 => (some (((wrap64 (t156 - t157)) == 1) == x11_6)))) else (some false)))) else (some false)))))) = some r := by rw [if_pos rfl] at H; exact H
                    clear H
                    have H := H1
                    clear H1
                    replace H := Option.bind_eq_some_iff.mp H
                    obtain ⟨t150, A320, H⟩ := H
                    replace H : ((mask_Set_With.f t150 a2).bind fun t151 => ((mask_Set_With.f a0 a2).bind fun t152 => ((mask_Set_With.f t152 a1).bind fun t153 => (if t151 = t153 then ((mask_Set_Len.f t138).bind fun t154 => ((mask_Set_Len.f t139).bind fun t155 => (if (wrap64 (t154 - t155)) ≤ 1 then ((mask_Set_Len.f t138).bind fun t156 => ((mask_Set_Len.f t139).bind fun t157 => (some (((wrap64 (t156 - t157)) == 1) == x11_6)))) else (some false)))) else (some false))))) = some r := H
                    have A32 := Aside0.mk A320
                    obtain rfl : t138 = t150 := Option.some.inj (A5.out.symm.trans A32.out)
                    clear A320
                    replace H := Option.bind_eq_some_iff.mp H
                    obtain ⟨t151, A330, H⟩ := H
                    replace H : ((mask_Set_With.f a0 a2).bind fun t152 => ((mask_Set_With.f t152 a1).bind fun t153 => (if t151 = t153 then ((mask_Set_Len.f t138).bind fun t154 => ((mask_Set_Len.f t139).bind fun t155 => (if (wrap64 (t154 - t155)) ≤ 1 then ((mask_Set_Len.f t138).bind fun t156 => ((mask_Set_Len.f t139).bind fun t157 => (some (((wrap64 (t156 - t157)) == 1) == x11_6)))) else (some false)))) else (some false)))) = some r := H
                    have A33 := Aside0.mk A330
                    clear A330
                    replace H := Option.bind_eq_some_iff.mp H
                    obtain ⟨t152, A340, H⟩ := H
                    replace H : ((mask_Set_With.f t152 a1).bind fun t153 => (if t151 = t153 then ((mask_Set_Len.f t138).bind fun t154 => ((mask_Set_Len.f t139).bind fun t155 => (if (wrap64 (t154 - t155)) ≤ 1 then ((mask_Set_Len.f t138).bind fun t156 => ((mask_Set_Len.f t139).bind fun t157 => (some (((wrap64 (t156 - t157)) == 1) == x11_6)))) else (some false)))) else (some false))) = some r := H
                    have A34 := Aside0.mk A340
                    clear A340
                    replace H := Option.bind_eq_some_iff.mp H
                    obtain ⟨t153, A350, H⟩ := H
                    replace H : (if t151 = t153 then ((mask_Set_Len.f t138).bind fun t154 => ((mask_Set_Len.f t139).bind fun t155 => (if (wrap64 (t154 - t155)) ≤ 1 then ((mask_Set_Len.f t138).bind fun t156 => ((mask_Set_Len.f t139).bind fun t157 => (some (((wrap64 (t156 - t157)) == 1) == x11_6)))) else (some false)))) else (some false)) = some r := H
                    have A35 := Aside0.mk A350
                    clear A350
                    by_cases c36 : t151 = t153
                    · rw [if_pos c36] at H
                      have c36b0 : (t151 == t153) = true := beq_iff_eq.mpr c36
                      have c36b1 : (t151 != t153) = false := bne_eq_false_iff_eq.mpr c36
                      clear c36
                      replace H := Option.bind_eq_some_iff.mp H
                      obtain ⟨t154, A370, H⟩ := H
                      replace H : ((mask_Set_Len.f t139).bind fun t155 => (if (wrap64 (t154 - t155)) ≤ 1 then ((mask_Set_Len.f t138).bind fun t156 => ((mask_Set_Len.f t139).bind fun t157 => (some (((wrap64 (t156 - t157)) == 1) == x11_6)))) else (some false))) = some r := H
                      have A37 := Aside0.mk A370
                      clear A370
                      replace H := Option.bind_eq_some_iff.mp H
                      obtain ⟨t155, A380, H⟩ := H
                      replace H : (if (wrap64 (t154 - t155)) ≤ 1 then ((mask_Set_Len.f t138).bind fun t156 => ((mask_Set_Len.f t139).bind fun t157 => (some (((wrap64 (t156 - t157)) == 1) == x11_6)))) else (some false)) = some r := H
                      have A38 := Aside0.mk A380
                      clear A380
                      by_cases c39 : (wrap64 (t154 - t155)) ≤ 1
                      · rw [if_pos c39] at H
                        have c39b0 : decide ((wrap64 (t154 - t155)) ≤ 1) = true := decide_eq_true c39
                        clear c39
                        replace H := Option.bind_eq_some_iff.mp H
                        obtain ⟨t156, A400, H⟩ := H
                        replace H : ((mask_Set_Len.f t139).bind fun t157 => (some (((wrap64 (t156 - t157)) == 1) == x11_6))) = some r := H
                        have A40 := Aside0.mk A400
                        obtain rfl : t154 = t156 := Option.some.inj (A37.out.symm.trans A40.out)
                        clear A400
                        replace H := Option.bind_eq_some_iff.mp H
                        obtain ⟨t157, A410, H⟩ := H
                        replace H : (some (((wrap64 (t154 - t157)) == 1) == x11_6)) = some r := H
                        have A41 := Aside0.mk A410
                        obtain rfl : t155 = t157 := Option.some.inj (A38.out.symm.trans A41.out)
                        clear A410
                        obtain rfl := Option.some.inj H
                        go_wp2_with (first | (go_at_call 37; (with_reducible refine (mask_Set_With.calls a0 a1 t138 _ A32.out).mono ?_); rintro e w' ⟨rfl, ⟨nd, rfl⟩⟩) | (go_at_call 37; (with_reducible refine (mask_Set_With.calls t138 a2 t151 _ A33.out).mono ?_); rintro e w' ⟨rfl, ⟨nd, rfl⟩⟩) | (go_at_call 37; (with_reducible refine (mask_Set_With.calls a0 a2 t152 _ A34.out).mono ?_); rintro e w' ⟨rfl, ⟨nd, rfl⟩⟩) | (go_at_call 37; (with_reducible refine (mask_Set_With.calls t152 a1 t153 _ A35.out).mono ?_); rintro e w' ⟨rfl, ⟨nd, rfl⟩⟩) | (go_at_call 36; (with_reducible refine (mask_Set_Len.calls t138 t154 _ A37.out).mono ?_); rintro e w' ⟨rfl, ⟨nd, rfl⟩⟩) | (go_at_call 36; (with_reducible refine (mask_Set_Len.calls t139 t155 _ A38.out).mono ?_); rintro e w' ⟨rfl, ⟨nd, rfl⟩⟩) | (go_at_call 36; (with_reducible refine (mask_Set_Len.calls t138 t154 _ A40.out).mono ?_); rintro e w' ⟨rfl, ⟨nd, rfl⟩⟩) | (go_at_call 36; (with_reducible refine (mask_Set_Len.calls t139 t155 _ A41.out).mono ?_); rintro e w' ⟨rfl, ⟨nd, rfl⟩⟩))
                        go_ret
                        exact ⟨by first | rfl | (simp [errW_none, errW_some] <;> rfl) | (simp [*, errW_none, errW_some] <;> rfl), by repeat (first | (with_reducible first | exact HB.out | apply below_alloc | apply pw_below_drewN | apply below_drew1) | exact HB.out)⟩
                      · rw [if_neg c39] at H
                        have c39b0 : decide ((wrap64 (t154 - t155)) ≤ 1) = false := decide_eq_false c39
                        clear c39
                        obtain rfl := Option.some.inj H
                        go_wp2_with (first | (go_at_call 37; (with_reducible refine (mask_Set_With.calls a0 a1 t138 _ A32.out).mono ?_); rintro e w' ⟨rfl, ⟨nd, rfl⟩⟩) | (go_at_call 37; (with_reducible refine (mask_Set_With.calls t138 a2 t151 _ A33.out).mono ?_); rintro e w' ⟨rfl, ⟨nd, rfl⟩⟩) | (go_at_call 37; (with_reducible refine (mask_Set_With.calls a0 a2 t152 _ A34.out).mono ?_); rintro e w' ⟨rfl, ⟨nd, rfl⟩⟩) | (go_at_call 37; (with_reducible refine (mask_Set_With.calls t152 a1 t153 _ A35.out).mono ?_); rintro e w' ⟨rfl, ⟨nd, rfl⟩⟩) | (go_at_call 36; (with_reducible refine (mask_Set_Len.calls t138 t154 _ A37.out).mono ?_); rintro e w' ⟨rfl, ⟨nd, rfl⟩⟩) | (go_at_call 36; (with_reducible refine (mask_Set_Len.calls t139 t155 _ A38.out).mono ?_); rintro e w' ⟨rfl, ⟨nd, rfl⟩⟩))
                        go_ret
                        exact ⟨by first | rfl | (simp [errW_none, errW_some] <;> rfl) | (simp [*, errW_none, errW_some] <;> rfl), by repeat (first | (with_reducible first | exact HB.out | apply below_alloc | apply pw_below_drewN | apply below_drew1) | exact HB.out)⟩
                    · rw [if_neg c36] at H
                      have c36b0 : (t151 == t153) = false := beq_eq_false_iff_ne.mpr c36
                      have c36b1 : (t151 != t153) = true := bne_iff_ne.mpr c36
                      obtain rfl := Option.some.inj H
                      go_wp2_with (first | (go_at_call 37; (with_reducible refine (mask_Set_With.calls a0 a1 t138 _ A32.out).mono ?_); rintro e w' ⟨rfl, ⟨nd, rfl⟩⟩) | (go_at_call 37; (with_reducible refine (mask_Set_With.calls t138 a2 t151 _ A33.out).mono ?_); rintro e w' ⟨rfl, ⟨nd, rfl⟩⟩) | (go_at_call 37; (with_reducible refine (mask_Set_With.calls a0 a2 t152 _ A34.out).mono ?_); rintro e w' ⟨rfl, ⟨nd, rfl⟩⟩) | (go_at_call 37; (with_reducible refine (mask_Set_With.calls t152 a1 t153 _ A35.out).mono ?_); rintro e w' ⟨rfl, ⟨nd, rfl⟩⟩))
                      go_ret
                      exact ⟨by first | rfl | (simp [errW_none, errW_some] <;> rfl) | (simp [*, errW_none, errW_some] <;> rfl), by repeat (first | (with_reducible first | exact HB.out | apply below_alloc | apply pw_below_drewN | apply below_drew1) | exact HB.out)⟩
                  · replace c31 := Bool.eq_false_iff.mpr c31
                    subst c31
                    have H1 : (some false) = some r := by rw [if_neg (show ¬ (false = true) by decide)] at H; exact H
                    clear H
                    have H := H1
                    clear H1
                    obtain rfl := Option.some.inj H
                    go_wp2
                    go_ret
                    exact ⟨by first | rfl | (simp [errW_none, errW_some] <;> rfl) | (simp [*, errW_none, errW_some] <;> rfl), by repeat (first | (with_reducible first | exact HB.out | apply below_alloc | apply pw_below_drewN | apply below_drew1) | exact HB.out)⟩

/-- THE ONE PURE STATEMENT of diapauselaw03_MaskPairs: yours. -/
def diapauselaw03_MaskPairs.Pure : Prop := ∀ (a0 : Int) (a1 : Int) (a2 : Int), (Lit.int .u64 a0).wf = true → (Lit.int .i64 a1).wf = true → (Lit.int .i64 a2).wf = true → ∃ k, diapauselaw03_MaskPairs.f k a0 a1 a2 = some true
theorem diapauselaw03_MaskPairs.walk (P : diapauselaw03_MaskPairs.Pure) (a0 : Int) (a1 : Int) (a2 : Int) (w : World) (hT : Lw w) (w0 : (Lit.int .u64 a0).wf = true) (w1 : (Lit.int .i64 a1).wf = true) (w2 : (Lit.int .i64 a2).wf = true) :
    Calls Tryd.prog 11 #[.int .u64 a0, .int .i64 a1, .int .i64 a2] w fun e w' => e = .returned (.bool true) ∧ Below w.heap.size w w' := by
  obtain ⟨k, h⟩ := P a0 a1 a2 w0 w1 w2
  refine (diapauselaw03_MaskPairs.calls k a0 a1 a2 true w hT h).mono ?_
  rintro e w' ⟨rfl, hd⟩
  exact ⟨rfl, hd⟩

end Go.Proofs.YtgkmipfcadiobaaDoor.GM
