-- Written by a program of this session's (giv.py), which runs the kit's print with contracts of this claim's own for some functions.
import Derived.Test.YtgkmipfcadiobaaDoorGMx0
import Derived.Test.YtgkmipfcadiobaaDoorGMx1
import Derived.Test.YtgkmipfcadiobaaDoorGMx2
import Derived.Test.YtgkmipfcadiobaaDoorGMx3
import Derived.Test.YtgkmipfcadiobaaDoorGMx4
namespace Go.Proofs.YtgkmipfcadiobaaDoor.GM
open Go.Proofs.YtgkmipfcadiobaaDoor.Given Go.Proofs.YtgkmipfcadiobaaDoor Go.Proofs.YtgkmipfcadiobaaDoor.Pl Go.RowKit Go.Proofs.YtgkmipfcadiobaaDoorW.PrintWords Go.Proofs.YtgkmipfcadiobaaDoorW.PrintLast Go.Proofs.YtgkmipfcadiobaaDoorW.PrintMore
attribute [local go_sem] max2_int min2_int max_two min_two max_three min_three max_four min_four   -- for this text's walks alone
set_option linter.unusedVariables false
set_option linter.unusedSimpArgs false

/-! ### diapauselaw03_MaskTells: function 15 -/
def diapauselaw03_MaskTells.j0 : Nat → Int → Int → Bool → Int → Bool → Option (Bool)
  | 0, _, _, _, _, _ => none
  | k + 1, x0, x3, x9, x10, x45 => if x45 = true then (some false) else ((diapauseref03_All.f k x0).bind fun t213 => (if x9 = true then ((mask_Set_All.f x10).bind fun t216 => ((diapauseref03_Same.f k t216 t213).bind fun t219 => (if t219 = true then ((mask_Set_Len.f x10).bind fun t220 => (if t220 = (t213.length : Int) then ((mask_Set_Nth.f x10 x3).bind fun t221 => ((diapauseref03_Nth.f k x0 x3).bind fun t222 => (if t221 = t222 then ((mask_Set_First.f x10).bind fun t223 => ((diapauseref03_Nth.f k x0 0).bind fun t224 => (some (t223 == t224)))) else (some false)))) else (some false))) else (some false)))) else (some false)))
def diapauselaw03_MaskTells.f (k : Nat) (a0 : Int) (a1 : Int) (a2 : Int) (a3 : Int) : Option (Bool) := (diapauselaw03_awake.f k).bind fun t204 => ((mask_Up.f a2).bind fun t205 => ((diapauseref03_Up.f k a2).bind fun t206 => (if t205 = t206 then ((mask_Set_Has.f a0 a1).bind fun t207 => ((diapauseref03_Has.f k a0 a1).bind fun t208 => (if (t207 != t208) = true then (diapauselaw03_MaskTells.j0 k a0 a3 t204 a0 true) else ((mask_Set_With.f a0 a1).bind fun t209 => ((diapauseref03_With.f k a0 a1 true).bind fun t210 => (if t209 = t210 then ((mask_Set_Without.f a0 a1).bind fun t211 => ((diapauseref03_With.f k a0 a1 false).bind fun t212 => (diapauselaw03_MaskTells.j0 k a0 a3 t204 a0 (t211 != t212)))) else (diapauselaw03_MaskTells.j0 k a0 a3 t204 a0 true))))))) else (diapauselaw03_MaskTells.j0 k a0 a3 t204 a0 true))))
theorem diapauselaw03_MaskTells.mono_l : ∀ k, (∀ y0 y1 y2 y3 y4, LeO (diapauselaw03_MaskTells.j0 k y0 y1 y2 y3 y4) (diapauselaw03_MaskTells.j0 (k + 1) y0 y1 y2 y3 y4))
  | 0 => fun _ _ _ _ _ r h => by simp [diapauselaw03_MaskTells.j0] at h
  | k + 1 => by
    have ih0 := diapauselaw03_MaskTells.mono_l k
    · intro y0 y1 y2 y3 y4
      unfold diapauselaw03_MaskTells.j0
      repeat' first
      | (with_reducible exact ih0 _ _ _ _ _)
      | (with_reducible exact diapauselaw03_awake.mono _)
      | (with_reducible exact diapauseref03_All.mono _ _)
      | (with_reducible exact diapauseref03_Has.mono _ _ _)
      | (with_reducible exact diapauseref03_Nth.mono _ _ _)
      | (with_reducible exact diapauseref03_Same.mono _ _ _)
      | (with_reducible exact diapauseref03_Up.mono _ _)
      | (with_reducible exact diapauseref03_With.mono _ _ _ _)
      | (with_reducible exact LeO.refl _)
      | (with_reducible exact LeO.none _)
      | (with_reducible refine LeO.ite ?_ ?_)
      | (with_reducible refine LeO.bind ?_ (fun _ => ?_))
      | exact ih0 _ _ _ _ _
      | exact diapauselaw03_awake.mono _
      | exact diapauseref03_All.mono _ _
      | exact diapauseref03_Has.mono _ _ _
      | exact diapauseref03_Nth.mono _ _ _
      | exact diapauseref03_Same.mono _ _ _
      | exact diapauseref03_Up.mono _ _
      | exact diapauseref03_With.mono _ _ _ _
      | exact LeO.none _
      | refine LeO.ite ?_ ?_
      | refine LeO.bind ?_ (fun _ => ?_)
theorem diapauselaw03_MaskTells.mono : ∀ a0 a1 a2 a3 k, LeO (diapauselaw03_MaskTells.f k a0 a1 a2 a3) (diapauselaw03_MaskTells.f (k + 1) a0 a1 a2 a3) := by
  intro a0 a1 a2 a3 k
  have ih0 := diapauselaw03_MaskTells.mono_l k
  unfold diapauselaw03_MaskTells.f
  repeat' first
      | (with_reducible exact ih0 _ _ _ _ _)
      | (with_reducible exact diapauselaw03_awake.mono _)
      | (with_reducible exact diapauseref03_All.mono _ _)
      | (with_reducible exact diapauseref03_Has.mono _ _ _)
      | (with_reducible exact diapauseref03_Nth.mono _ _ _)
      | (with_reducible exact diapauseref03_Same.mono _ _ _)
      | (with_reducible exact diapauseref03_Up.mono _ _)
      | (with_reducible exact diapauseref03_With.mono _ _ _ _)
      | (with_reducible exact LeO.refl _)
      | (with_reducible exact LeO.none _)
      | (with_reducible refine LeO.ite ?_ ?_)
      | (with_reducible refine LeO.bind ?_ (fun _ => ?_))
      | exact ih0 _ _ _ _ _
      | exact diapauselaw03_awake.mono _
      | exact diapauseref03_All.mono _ _
      | exact diapauseref03_Has.mono _ _ _
      | exact diapauseref03_Nth.mono _ _ _
      | exact diapauseref03_Same.mono _ _ _
      | exact diapauseref03_Up.mono _ _
      | exact diapauseref03_With.mono _ _ _ _
      | exact LeO.none _
      | refine LeO.ite ?_ ?_
      | refine LeO.bind ?_ (fun _ => ?_)
set_option maxHeartbeats 8000000 in
set_option maxRecDepth 100000 in
theorem diapauselaw03_MaskTells.calls (k : Nat) (a0 : Int) (a1 : Int) (a2 : Int) (a3 : Int) (r : Bool) (w : World) (hT : Lw w) (h : diapauselaw03_MaskTells.f k a0 a1 a2 a3 = some r) :
    Calls Tryd.prog 15 #[.int .u64 a0, .int .i64 a1, .int .i64 a2, .int .i64 a3] w fun e w' => e = .returned (.bool r) ∧ Below w.heap.size w w' := by
  have HT := Aside0.mk hT
  clear hT
  have HB := Aside0.mk (Below.refl w.heap.size w)
  have H : ((diapauselaw03_awake.f k).bind fun t204 => ((mask_Up.f a2).bind fun t205 => ((diapauseref03_Up.f k a2).bind fun t206 => (if t205 = t206 then ((mask_Set_Has.f a0 a1).bind fun t207 => ((diapauseref03_Has.f k a0 a1).bind fun t208 => (if (t207 != t208) = true then (diapauselaw03_MaskTells.j0 k a0 a3 t204 a0 true) else ((mask_Set_With.f a0 a1).bind fun t209 => ((diapauseref03_With.f k a0 a1 true).bind fun t210 => (if t209 = t210 then ((mask_Set_Without.f a0 a1).bind fun t211 => ((diapauseref03_With.f k a0 a1 false).bind fun t212 => (diapauselaw03_MaskTells.j0 k a0 a3 t204 a0 (t211 != t212)))) else (diapauselaw03_MaskTells.j0 k a0 a3 t204 a0 true))))))) else (diapauselaw03_MaskTells.j0 k a0 a3 t204 a0 true))))) = some r := h
  clear h
  replace H := Option.bind_eq_some_iff.mp H
  obtain ⟨t204, A50, H⟩ := H
  replace H : ((mask_Up.f a2).bind fun t205 => ((diapauseref03_Up.f k a2).bind fun t206 => (if t205 = t206 then ((mask_Set_Has.f a0 a1).bind fun t207 => ((diapauseref03_Has.f k a0 a1).bind fun t208 => (if (t207 != t208) = true then (diapauselaw03_MaskTells.j0 k a0 a3 t204 a0 true) else ((mask_Set_With.f a0 a1).bind fun t209 => ((diapauseref03_With.f k a0 a1 true).bind fun t210 => (if t209 = t210 then ((mask_Set_Without.f a0 a1).bind fun t211 => ((diapauseref03_With.f k a0 a1 false).bind fun t212 => (diapauselaw03_MaskTells.j0 k a0 a3 t204 a0 (t211 != t212)))) else (diapauselaw03_MaskTells.j0 k a0 a3 t204 a0 true))))))) else (diapauselaw03_MaskTells.j0 k a0 a3 t204 a0 true)))) = some r := H
  have A5 := Aside0.mk A50
  clear A50
  have HC6 := Aside0.mk H
  clear H
  go_enter Tryd.func15, Tryd.ntmps15
  go_upto_region 3 with (first | ((with_reducible refine gate_callee (f := 32) rfl ?_); refine goesL_ (some 12) rfl rfl Tryd.func32 (by kernel_rfl) rfl #[] rfl (by (try simp only [List.map_toArray, List.map_cons, List.map_nil]); first | done | rfl | (simp only [List.length_drop, List.length_take]; rfl)) ?_; (with_reducible refine (diapauselaw03_awake.calls k  t204 _ (HT.out.below (by repeat (first | (with_reducible first | exact HB.out | apply below_alloc | apply pw_below_drewN | apply below_drew1) | exact HB.out))) A5.out).mono ?_); rintro e w7 ⟨rfl, hb⟩; refine ⟨_, rfl, ?_⟩; have n0_ := Aside0.mk (below_step (by repeat (first | (with_reducible first | exact HB.out | apply below_alloc | apply pw_below_drewN | apply below_drew1) | exact HB.out)) hb); clear HB; have HB := n0_; clear n0_; (try clear hb); (try clear hb2); (try clear hk); (try clear hi)))
  (try simp only [Act.put, List.setIfInBounds_toArray, List.set_cons_zero, List.set_cons_succ])
  go_cut [45] (fun v45 wc => ∃ (kq : Nat) (x45_5 : Bool), v45 = .bool x45_5 ∧ Aside0 (diapauselaw03_MaskTells.j0 kq a0 a3 t204 a0 x45_5 = some r) ∧ Aside0 (kq ≤ k) ∧ Aside0 (Below w.heap.size w wc))
  case first =>
    have H := HC6.out
    clear HC6
    replace H := Option.bind_eq_some_iff.mp H
    obtain ⟨t205, A80, H⟩ := H
    replace H : ((diapauseref03_Up.f k a2).bind fun t206 => (if t205 = t206 then ((mask_Set_Has.f a0 a1).bind fun t207 => ((diapauseref03_Has.f k a0 a1).bind fun t208 => (if (t207 != t208) = true then (diapauselaw03_MaskTells.j0 k a0 a3 t204 a0 true) else ((mask_Set_With.f a0 a1).bind fun t209 => ((diapauseref03_With.f k a0 a1 true).bind fun t210 => (if t209 = t210 then ((mask_Set_Without.f a0 a1).bind fun t211 => ((diapauseref03_With.f k a0 a1 false).bind fun t212 => (diapauselaw03_MaskTells.j0 k a0 a3 t204 a0 (t211 != t212)))) else (diapauselaw03_MaskTells.j0 k a0 a3 t204 a0 true))))))) else (diapauselaw03_MaskTells.j0 k a0 a3 t204 a0 true))) = some r := H
    have A8 := Aside0.mk A80
    clear A80
    replace H := Option.bind_eq_some_iff.mp H
    obtain ⟨t206, A90, H⟩ := H
    replace H : (if t205 = t206 then ((mask_Set_Has.f a0 a1).bind fun t207 => ((diapauseref03_Has.f k a0 a1).bind fun t208 => (if (t207 != t208) = true then (diapauselaw03_MaskTells.j0 k a0 a3 t204 a0 true) else ((mask_Set_With.f a0 a1).bind fun t209 => ((diapauseref03_With.f k a0 a1 true).bind fun t210 => (if t209 = t210 then ((mask_Set_Without.f a0 a1).bind fun t211 => ((diapauseref03_With.f k a0 a1 false).bind fun t212 => (diapauselaw03_MaskTells.j0 k a0 a3 t204 a0 (t211 != t212)))) else (diapauselaw03_MaskTells.j0 k a0 a3 t204 a0 true))))))) else (diapauselaw03_MaskTells.j0 k a0 a3 t204 a0 true)) = some r := H
    have A9 := Aside0.mk A90
    clear A90
    by_cases c10 : t205 = t206
    · rw [if_pos c10] at H
      have c10b0 : (t205 == t206) = true := beq_iff_eq.mpr c10
      have c10b1 : (t205 != t206) = false := bne_eq_false_iff_eq.mpr c10
      clear c10
      (first | rw [c10b0] | (simp only [i64_w, i32_w]; rw [c10b0]) | skip)
      replace H := Option.bind_eq_some_iff.mp H
      obtain ⟨t207, A110, H⟩ := H
      replace H : ((diapauseref03_Has.f k a0 a1).bind fun t208 => (if (t207 != t208) = true then (diapauselaw03_MaskTells.j0 k a0 a3 t204 a0 true) else ((mask_Set_With.f a0 a1).bind fun t209 => ((diapauseref03_With.f k a0 a1 true).bind fun t210 => (if t209 = t210 then ((mask_Set_Without.f a0 a1).bind fun t211 => ((diapauseref03_With.f k a0 a1 false).bind fun t212 => (diapauselaw03_MaskTells.j0 k a0 a3 t204 a0 (t211 != t212)))) else (diapauselaw03_MaskTells.j0 k a0 a3 t204 a0 true)))))) = some r := H
      have A11 := Aside0.mk A110
      clear A110
      replace H := Option.bind_eq_some_iff.mp H
      obtain ⟨t208, A120, H⟩ := H
      replace H : (if (t207 != t208) = true then (diapauselaw03_MaskTells.j0 k a0 a3 t204 a0 true) else ((mask_Set_With.f a0 a1).bind fun t209 => ((diapauseref03_With.f k a0 a1 true).bind fun t210 => (if t209 = t210 then ((mask_Set_Without.f a0 a1).bind fun t211 => ((diapauseref03_With.f k a0 a1 false).bind fun t212 => (diapauselaw03_MaskTells.j0 k a0 a3 t204 a0 (t211 != t212)))) else (diapauselaw03_MaskTells.j0 k a0 a3 t204 a0 true))))) = some r := H
      have A12 := Aside0.mk A120
      clear A120
      by_cases c13 : (t207 != t208) = true
      · rw [if_pos c13] at H
        have c13b0 : (t207 != t208) = true := c13
        (try (have c13b1 : decide (t207 = t208) = false := by simpa using c13))
        (try (have c13b2 : (t207 == t208) = false := by simpa using c13))
        (try (have c13b3 : ¬ (t207 = t208) := by simpa using c13))
        clear c13
        have H' := Aside0.mk H
        clear H
        go_wp2_with (first | ((with_reducible refine gate_callee (f := 35) rfl ?_); refine goesL_ (some 15) rfl rfl Tryd.func35 (by kernel_rfl) rfl #[.int .i64 a2] rfl (by (try simp only [List.map_toArray, List.map_cons, List.map_nil]); first | done | rfl | (simp only [List.length_drop, List.length_take]; rfl)) ?_; (with_reducible refine (mask_Up.calls a2 t205 _ A8.out).mono ?_); rintro e w14 ⟨rfl, hb⟩; refine ⟨_, rfl, ?_⟩; have n0_ := Aside0.mk (below_step (by repeat (first | (with_reducible first | exact HB.out | apply below_alloc | apply pw_below_drewN | apply below_drew1) | exact HB.out)) hb); clear HB; have HB := n0_; clear n0_; (try clear hb); (try clear hb2); (try clear hk); (try clear hi)) | ((with_reducible refine gate_callee (f := 46) rfl ?_); refine goesL_ (some 17) rfl rfl Tryd.func46 (by kernel_rfl) rfl #[.int .i64 a2] rfl (by (try simp only [List.map_toArray, List.map_cons, List.map_nil]); first | done | rfl | (simp only [List.length_drop, List.length_take]; rfl)) ?_; (with_reducible refine (diapauseref03_Up.calls k a2 t206 _ A9.out).mono ?_); rintro e w15 ⟨rfl, hb⟩; refine ⟨_, rfl, ?_⟩; have n0_ := Aside0.mk (below_step (by repeat (first | (with_reducible first | exact HB.out | apply below_alloc | apply pw_below_drewN | apply below_drew1) | exact HB.out)) hb); clear HB; have HB := n0_; clear n0_; (try clear hb); (try clear hb2); (try clear hk); (try clear hi)) | (go_at_call 39; (with_reducible refine (mask_Set_Has.calls a0 a1 t207 _ A11.out).mono ?_); rintro e w' ⟨rfl, ⟨nd, rfl⟩⟩) | (go_at_call 28; (with_reducible refine (diapauseref03_Has.calls k a0 a1 t208 _ A12.out).mono ?_); rintro e w' ⟨rfl, ⟨nd, rfl⟩⟩))
        go_meet
        case rel => exact ⟨_, (true), (by first | rfl | (simp; done) | (simp [*]; done)), H', ⟨by first | omega | exact Nat.le_refl _⟩, ⟨by repeat (first | (with_reducible first | exact HB.out | apply below_alloc | apply pw_below_drewN | apply below_drew1) | exact HB.out)⟩⟩
      · rw [if_neg c13] at H
        have c13b0 : (t207 != t208) = false := by simpa using c13
        (try (have c13b1 : decide (t207 = t208) = true := by simpa using c13))
        (try (have c13b2 : (t207 == t208) = true := by simpa using c13))
        clear c13
        replace H := Option.bind_eq_some_iff.mp H
        obtain ⟨t209, A160, H⟩ := H
        replace H : ((diapauseref03_With.f k a0 a1 true).bind fun t210 => (if t209 = t210 then ((mask_Set_Without.f a0 a1).bind fun t211 => ((diapauseref03_With.f k a0 a1 false).bind fun t212 => (diapauselaw03_MaskTells.j0 k a0 a3 t204 a0 (t211 != t212)))) else (diapauselaw03_MaskTells.j0 k a0 a3 t204 a0 true))) = some r := H
        have A16 := Aside0.mk A160
        clear A160
        replace H := Option.bind_eq_some_iff.mp H
        obtain ⟨t210, A170, H⟩ := H
        replace H : (if t209 = t210 then ((mask_Set_Without.f a0 a1).bind fun t211 => ((diapauseref03_With.f k a0 a1 false).bind fun t212 => (diapauselaw03_MaskTells.j0 k a0 a3 t204 a0 (t211 != t212)))) else (diapauselaw03_MaskTells.j0 k a0 a3 t204 a0 true)) = some r := H
        have A17 := Aside0.mk A170
        clear A170
        by_cases c18 : t209 = t210
        · rw [if_pos c18] at H
          have c18b0 : (t209 == t210) = true := beq_iff_eq.mpr c18
          have c18b1 : (t209 != t210) = false := bne_eq_false_iff_eq.mpr c18
          clear c18
          replace H := Option.bind_eq_some_iff.mp H
          obtain ⟨t211, A190, H⟩ := H
          replace H : ((diapauseref03_With.f k a0 a1 false).bind fun t212 => (diapauselaw03_MaskTells.j0 k a0 a3 t204 a0 (t211 != t212))) = some r := H
          have A19 := Aside0.mk A190
          clear A190
          replace H := Option.bind_eq_some_iff.mp H
          obtain ⟨t212, A200, H⟩ := H
          replace H : (diapauselaw03_MaskTells.j0 k a0 a3 t204 a0 (t211 != t212)) = some r := H
          have A20 := Aside0.mk A200
          clear A200
          have H' := Aside0.mk H
          clear H
          go_wp2_with (first | ((with_reducible refine gate_callee (f := 35) rfl ?_); refine goesL_ (some 15) rfl rfl Tryd.func35 (by kernel_rfl) rfl #[.int .i64 a2] rfl (by (try simp only [List.map_toArray, List.map_cons, List.map_nil]); first | done | rfl | (simp only [List.length_drop, List.length_take]; rfl)) ?_; (with_reducible refine (mask_Up.calls a2 t205 _ A8.out).mono ?_); rintro e w21 ⟨rfl, hb⟩; refine ⟨_, rfl, ?_⟩; have n0_ := Aside0.mk (below_step (by repeat (first | (with_reducible first | exact HB.out | apply below_alloc | apply pw_below_drewN | apply below_drew1) | exact HB.out)) hb); clear HB; have HB := n0_; clear n0_; (try clear hb); (try clear hb2); (try clear hk); (try clear hi)) | ((with_reducible refine gate_callee (f := 46) rfl ?_); refine goesL_ (some 17) rfl rfl Tryd.func46 (by kernel_rfl) rfl #[.int .i64 a2] rfl (by (try simp only [List.map_toArray, List.map_cons, List.map_nil]); first | done | rfl | (simp only [List.length_drop, List.length_take]; rfl)) ?_; (with_reducible refine (diapauseref03_Up.calls k a2 t206 _ A9.out).mono ?_); rintro e w22 ⟨rfl, hb⟩; refine ⟨_, rfl, ?_⟩; have n0_ := Aside0.mk (below_step (by repeat (first | (with_reducible first | exact HB.out | apply below_alloc | apply pw_below_drewN | apply below_drew1) | exact HB.out)) hb); clear HB; have HB := n0_; clear n0_; (try clear hb); (try clear hb2); (try clear hk); (try clear hi)) | (go_at_call 39; (with_reducible refine (mask_Set_Has.calls a0 a1 t207 _ A11.out).mono ?_); rintro e w' ⟨rfl, ⟨nd, rfl⟩⟩) | (go_at_call 28; (with_reducible refine (diapauseref03_Has.calls k a0 a1 t208 _ A12.out).mono ?_); rintro e w' ⟨rfl, ⟨nd, rfl⟩⟩) | (go_at_call 37; (with_reducible refine (mask_Set_With.calls a0 a1 t209 _ A16.out).mono ?_); rintro e w' ⟨rfl, ⟨nd, rfl⟩⟩) | (go_at_call 47; (with_reducible refine (diapauseref03_With.calls k a0 a1 true t210 _ A17.out).mono ?_); rintro e w23 ⟨rfl, hb⟩; have n0_ := Aside0.mk (below_step (by repeat (first | (with_reducible first | exact HB.out | apply below_alloc | apply pw_below_drewN | apply below_drew1) | exact HB.out)) hb); clear HB; have HB := n0_; clear n0_; (try clear hb); (try clear hb2); (try clear hk); (try clear hi)) | (go_at_call 38; (with_reducible refine (mask_Set_Without.calls a0 a1 t211 _ A19.out).mono ?_); rintro e w' ⟨rfl, ⟨nd, rfl⟩⟩) | (go_at_call 47; (with_reducible refine (diapauseref03_With.calls k a0 a1 false t212 _ A20.out).mono ?_); rintro e w24 ⟨rfl, hb⟩; have n0_ := Aside0.mk (below_step (by repeat (first | (with_reducible first | exact HB.out | apply below_alloc | apply pw_below_drewN | apply below_drew1) | exact HB.out)) hb); clear HB; have HB := n0_; clear n0_; (try clear hb); (try clear hb2); (try clear hk); (try clear hi)))
          go_meet
          case rel => exact ⟨_, ((t211 != t212)), (by first | rfl | (simp; done) | (simp [*]; done)), H', ⟨by first | omega | exact Nat.le_refl _⟩, ⟨by repeat (first | (with_reducible first | exact HB.out | apply below_alloc | apply pw_below_drewN | apply below_drew1) | exact HB.out)⟩⟩
        · rw [if_neg c18] at H
          have c18b0 : (t209 == t210) = false := beq_eq_false_iff_ne.mpr c18
          have c18b1 : (t209 != t210) = true := bne_iff_ne.mpr c18
          have H' := Aside0.mk H
          clear H
          go_wp2_with (first | ((with_reducible refine gate_callee (f := 35) rfl ?_); refine goesL_ (some 15) rfl rfl Tryd.func35 (by kernel_rfl) rfl #[.int .i64 a2] rfl (by (try simp only [List.map_toArray, List.map_cons, List.map_nil]); first | done | rfl | (simp only [List.length_drop, List.length_take]; rfl)) ?_; (with_reducible refine (mask_Up.calls a2 t205 _ A8.out).mono ?_); rintro e w25 ⟨rfl, hb⟩; refine ⟨_, rfl, ?_⟩; have n0_ := Aside0.mk (below_step (by repeat (first | (with_reducible first | exact HB.out | apply below_alloc | apply pw_below_drewN | apply below_drew1) | exact HB.out)) hb); clear HB; have HB := n0_; clear n0_; (try clear hb); (try clear hb2); (try clear hk); (try clear hi)) | ((with_reducible refine gate_callee (f := 46) rfl ?_); refine goesL_ (some 17) rfl rfl Tryd.func46 (by kernel_rfl) rfl #[.int .i64 a2] rfl (by (try simp only [List.map_toArray, List.map_cons, List.map_nil]); first | done | rfl | (simp only [List.length_drop, List.length_take]; rfl)) ?_; (with_reducible refine (diapauseref03_Up.calls k a2 t206 _ A9.out).mono ?_); rintro e w26 ⟨rfl, hb⟩; refine ⟨_, rfl, ?_⟩; have n0_ := Aside0.mk (below_step (by repeat (first | (with_reducible first | exact HB.out | apply below_alloc | apply pw_below_drewN | apply below_drew1) | exact HB.out)) hb); clear HB; have HB := n0_; clear n0_; (try clear hb); (try clear hb2); (try clear hk); (try clear hi)) | (go_at_call 39; (with_reducible refine (mask_Set_Has.calls a0 a1 t207 _ A11.out).mono ?_); rintro e w' ⟨rfl, ⟨nd, rfl⟩⟩) | (go_at_call 28; (with_reducible refine (diapauseref03_Has.calls k a0 a1 t208 _ A12.out).mono ?_); rintro e w' ⟨rfl, ⟨nd, rfl⟩⟩) | (go_at_call 37; (with_reducible refine (mask_Set_With.calls a0 a1 t209 _ A16.out).mono ?_); rintro e w' ⟨rfl, ⟨nd, rfl⟩⟩) | (go_at_call 47; (with_reducible refine (diapauseref03_With.calls k a0 a1 true t210 _ A17.out).mono ?_); rintro e w27 ⟨rfl, hb⟩; have n0_ := Aside0.mk (below_step (by repeat (first | (with_reducible first | exact HB.out | apply below_alloc | apply pw_below_drewN | apply below_drew1) | exact HB.out)) hb); clear HB; have HB := n0_; clear n0_; (try clear hb); (try clear hb2); (try clear hk); (try clear hi)))
          go_meet
          case rel => exact ⟨_, (true), (by first | rfl | (simp; done) | (simp [*]; done)), H', ⟨by first | omega | exact Nat.le_refl _⟩, ⟨by repeat (first | (with_reducible first | exact HB.out | apply below_alloc | apply pw_below_drewN | apply below_drew1) | exact HB.out)⟩⟩
    · rw [if_neg c10] at H
      have c10b0 : (t205 == t206) = false := beq_eq_false_iff_ne.mpr c10
      have c10b1 : (t205 != t206) = true := bne_iff_ne.mpr c10
      (first | rw [c10b0] | (simp only [i64_w, i32_w]; rw [c10b0]) | skip)
      have H' := Aside0.mk H
      clear H
      go_wp2_with (first | ((with_reducible refine gate_callee (f := 35) rfl ?_); refine goesL_ (some 15) rfl rfl Tryd.func35 (by kernel_rfl) rfl #[.int .i64 a2] rfl (by (try simp only [List.map_toArray, List.map_cons, List.map_nil]); first | done | rfl | (simp only [List.length_drop, List.length_take]; rfl)) ?_; (with_reducible refine (mask_Up.calls a2 t205 _ A8.out).mono ?_); rintro e w28 ⟨rfl, hb⟩; refine ⟨_, rfl, ?_⟩; have n0_ := Aside0.mk (below_step (by repeat (first | (with_reducible first | exact HB.out | apply below_alloc | apply pw_below_drewN | apply below_drew1) | exact HB.out)) hb); clear HB; have HB := n0_; clear n0_; (try clear hb); (try clear hb2); (try clear hk); (try clear hi)) | ((with_reducible refine gate_callee (f := 46) rfl ?_); refine goesL_ (some 17) rfl rfl Tryd.func46 (by kernel_rfl) rfl #[.int .i64 a2] rfl (by (try simp only [List.map_toArray, List.map_cons, List.map_nil]); first | done | rfl | (simp only [List.length_drop, List.length_take]; rfl)) ?_; (with_reducible refine (diapauseref03_Up.calls k a2 t206 _ A9.out).mono ?_); rintro e w29 ⟨rfl, hb⟩; refine ⟨_, rfl, ?_⟩; have n0_ := Aside0.mk (below_step (by repeat (first | (with_reducible first | exact HB.out | apply below_alloc | apply pw_below_drewN | apply below_drew1) | exact HB.out)) hb); clear HB; have HB := n0_; clear n0_; (try clear hb); (try clear hb2); (try clear hk); (try clear hi)))
      go_meet
      case rel => exact ⟨_, (true), (by first | rfl | (simp; done) | (simp [*]; done)), H', ⟨by first | omega | exact Nat.le_refl _⟩, ⟨by repeat (first | (with_reducible first | exact HB.out | apply below_alloc | apply pw_below_drewN | apply below_drew1) | exact HB.out)⟩⟩
  case rest =>
    clear HC6
    try clear c1
    try clear p2
    try clear c3
    try clear c4
    try clear c10
    try clear c10b0
    try clear c10b1
    try clear c13
    try clear c13b0
    try clear c13b1
    try clear c13b2
    try clear c15
    try clear c18
    try clear c18b0
    try clear c18b1
    obtain ⟨kq, x45_5, rfl, HA, HJ5, HB⟩ := hcut
    cases kq with
    | zero => exact absurd HA.out (by simp [diapauselaw03_MaskTells.j0])
    | succ kj5 =>
      have H := HA.out
      clear HA
      simp only [diapauselaw03_MaskTells.j0] at H
      by_cases c30 : x45_5 = true
      · subst c30
        have H1 : (some false) = some r := by rw [if_pos rfl] at H; exact H
        clear H
        have H := H1
        clear H1
        obtain rfl := Option.some.inj H
        go_wp2
        go_ret
        exact ⟨by first | rfl | (simp [errW_none, errW_some] <;> rfl) | (simp [*, errW_none, errW_some] <;> rfl), by repeat (first | (with_reducible first | exact HB.out | apply below_alloc | apply pw_below_drewN | apply below_drew1) | exact HB.out)⟩
      · replace c30 := Bool.eq_false_iff.mpr c30
        subst c30
        have H1 : ((diapauseref03_All.f kj5 a0).bind fun t213 => (if t204 = true then ((mask_Set_All.f a0).bind fun t216 => ((diapauseref03_Same.f kj5 t216 t213).bind fun t219 => (if t219 = true then ((mask_Set_Len.f a0).bind fun t220 => (if t220 = (t213.length : Int) then ((mask_Set_Nth.f a0 a3).bind fun t221 => ((diapauseref03_Nth.f kj5 a0 a3).bind fun t222 => (if t221 = t222 then ((mask_Set_First.f a0).bind fun t223 => ((diapauseref03_Nth.f kj5 a0 0).bind fun t224 => (some (t223 == t224)))) else (some false)))) else (some false))) else (some false)))) else (some false))) = some r := by rw [if_neg (show ¬ (false = true) by decide)] at H; exact H
        clear H
        have H := H1
        clear H1
        replace H := Option.bind_eq_some_iff.mp H
        obtain ⟨t213, A310, H⟩ := H
        replace H : (if t204 = true then ((mask_Set_All.f a0).bind fun t216 => ((diapauseref03_Same.f kj5 t216 t213).bind fun t219 => (if t219 = true then ((mask_Set_Len.f a0).bind fun t220 => (if t220 = (t213.length : Int) then ((mask_Set_Nth.f a0 a3).bind fun t221 => ((diapauseref03_Nth.f kj5 a0 a3).bind fun t222 => (if t221 = t222 then ((mask_Set_First.f a0).bind fun t223 => ((diapauseref03_Nth.f kj5 a0 0).bind fun t224 => (some (t223 == t224)))) else (some false)))) else (some false))) else (some false)))) else (some false)) = some r := H
        have A31 := Aside0.mk A310
        clear A310
        by_cases c32 : t204 = true
        · subst c32
          have H1 : ((mask_Set_All.f a0).bind fun t216 => ((diapauseref03_Same.f kj5 t216 t213).bind fun t219 => (if t219 = true then ((mask_Set_Len.f a0).bind fun t220 => (if t220 = (t213.length : Int) then ((mask_Set_Nth.f a0 a3).bind fun t221 => ((diapauseref03_Nth.f kj5 a0 a3).bind fun t222 => (if t221 = t222 then ((mask_Set_First.f a0).bind fun t223 => ((diapauseref03_Nth.f kj5 a0 0).bind fun t224 => (some (t223 == t224)))) else (some false)))) else (some false))) else (some false)))) = some r := by rw [if_pos rfl] at H; exact H
          clear H
          have H := H1
          clear H1
          replace H := Option.bind_eq_some_iff.mp H
          obtain ⟨t216, A330, H⟩ := H
          replace H : ((diapauseref03_Same.f kj5 t216 t213).bind fun t219 => (if t219 = true then ((mask_Set_Len.f a0).bind fun t220 => (if t220 = (t213.length : Int) then ((mask_Set_Nth.f a0 a3).bind fun t221 => ((diapauseref03_Nth.f kj5 a0 a3).bind fun t222 => (if t221 = t222 then ((mask_Set_First.f a0).bind fun t223 => ((diapauseref03_Nth.f kj5 a0 0).bind fun t224 => (some (t223 == t224)))) else (some false)))) else (some false))) else (some false))) = some r := H
          have A33 := Aside0.mk A330
          clear A330
          replace H := Option.bind_eq_some_iff.mp H
          obtain ⟨t219, A340, H⟩ := H
          replace H : (if t219 = true then ((mask_Set_Len.f a0).bind fun t220 => (if t220 = (t213.length : Int) then ((mask_Set_Nth.f a0 a3).bind fun t221 => ((diapauseref03_Nth.f kj5 a0 a3).bind fun t222 => (if t221 = t222 then ((mask_Set_First.f a0).bind fun t223 => ((diapauseref03_Nth.f kj5 a0 0).bind fun t224 => (some (t223 == t224)))) else (some false)))) else (some false))) else (some false)) = some r := H
          have A34 := Aside0.mk A340
          clear A340
          by_cases c35 : t219 = true
          · subst c35
            have H1 : ((mask_Set_Len.f a0).bind fun t220 => (if t220 = (t213.length : Int) then ((mask_Set_Nth.f a0 a3).bind fun t221 => ((diapauseref03_Nth.f kj5 a0 a3).bind fun t222 => (if t221 = t222 then ((mask_Set_First.f a0).bind fun t223 => ((diapauseref03_Nth.f kj5 a0 0).bind fun t224 => (some (t223 == t224)))) else (some false)))) else (some false))) = some r := by rw [if_pos rfl] at H; exact H
            clear H
            have H := H1
            clear H1
            replace H := Option.bind_eq_some_iff.mp H
            obtain ⟨t220, A360, H⟩ := H
            replace H : (if t220 = (t213.length : Int) then ((mask_Set_Nth.f a0 a3).bind fun t221 => ((diapauseref03_Nth.f kj5 a0 a3).bind fun t222 => (if t221 = t222 then ((mask_Set_First.f a0).bind fun t223 => ((diapauseref03_Nth.f kj5 a0 0).bind fun t224 => (some (t223 == t224)))) else (some false)))) else (some false)) = some r := H
            have A36 := Aside0.mk A360
            clear A360
            by_cases c37 : t220 = (t213.length : Int)
            · rw [if_pos c37] at H
              have c37b0 : (t220 == (t213.length : Int)) = true := beq_iff_eq.mpr c37
              have c37b1 : (t220 != (t213.length : Int)) = false := bne_eq_false_iff_eq.mpr c37
              clear c37
              replace H := Option.bind_eq_some_iff.mp H
              obtain ⟨t221, A380, H⟩ := H
              replace H : ((diapauseref03_Nth.f kj5 a0 a3).bind fun t222 => (if t221 = t222 then ((mask_Set_First.f a0).bind fun t223 => ((diapauseref03_Nth.f kj5 a0 0).bind fun t224 => (some (t223 == t224)))) else (some false))) = some r := H
              have A38 := Aside0.mk A380
              clear A380
              replace H := Option.bind_eq_some_iff.mp H
              obtain ⟨t222, A390, H⟩ := H
              replace H : (if t221 = t222 then ((mask_Set_First.f a0).bind fun t223 => ((diapauseref03_Nth.f kj5 a0 0).bind fun t224 => (some (t223 == t224)))) else (some false)) = some r := H
              have A39 := Aside0.mk A390
              clear A390
              by_cases c40 : t221 = t222
              · rw [if_pos c40] at H
                have c40b0 : (t221 == t222) = true := beq_iff_eq.mpr c40
                have c40b1 : (t221 != t222) = false := bne_eq_false_iff_eq.mpr c40
                clear c40
                replace H := Option.bind_eq_some_iff.mp H
                obtain ⟨t223, A410, H⟩ := H
                replace H : ((diapauseref03_Nth.f kj5 a0 0).bind fun t224 => (some (t223 == t224))) = some r := H
                have A41 := Aside0.mk A410
                clear A410
                replace H := Option.bind_eq_some_iff.mp H
                obtain ⟨t224, A420, H⟩ := H
                replace H : (some (t223 == t224)) = some r := H
                have A42 := Aside0.mk A420
                clear A420
                obtain rfl := Option.some.inj H
                go_wp2_with (first | ((with_reducible refine gate_callee (f := 30) rfl ?_); refine goesL_ (some 47) rfl rfl Tryd.func30 (by kernel_rfl) rfl #[.int .u64 a0] rfl (by (try simp only [List.map_toArray, List.map_cons, List.map_nil]); first | done | rfl | (simp only [List.length_drop, List.length_take]; rfl)) ?_; (with_reducible refine (diapauseref03_All.calls kj5 a0 t213 _ A31.out).mono ?_); rintro e w43 ⟨v214, rfl, ho0, hb⟩; refine ⟨_, rfl, ?_⟩; have n0_ := Aside0.mk (Kd.R_lower ho0 (below_size (by repeat (first | (with_reducible first | exact HB.out | apply below_alloc | apply pw_below_drewN | apply below_drew1) | exact HB.out)))); have n1_ := Aside0.mk (below_step (by repeat (first | (with_reducible first | exact HB.out | apply below_alloc | apply pw_below_drewN | apply below_drew1) | exact HB.out)) hb); clear HB; have HO215 := n0_; have HB := n1_; clear n0_ n1_; (try clear hb); (try clear hb2); (try clear hk); (try clear hi); (try clear ho0)) | (go_at_call 48; (with_reducible refine (mask_Set_All.calls a0 t216 _ (HT.out.below (by repeat (first | (with_reducible first | exact HB.out | apply below_alloc | apply pw_below_drewN | apply below_drew1) | exact HB.out))) A33.out).mono ?_); rintro e w44 ⟨v217, rfl, ho0, hb⟩; have n0_ := Aside0.mk (Kd.R_elder' (by (with_reducible repeat (first | apply Kd.R_alloc | apply Kd.R_drewN | apply Kd.R_drew)); exact HO215.out) (Kd.R_base ho0) hb); have n1_ := Aside0.mk (Kd.R_lower (Kd.R_new' ho0 (Kd.R_lt (by (with_reducible repeat (first | apply Kd.R_alloc | apply Kd.R_drewN | apply Kd.R_drew)); exact HO215.out))) (below_size (by repeat (first | (with_reducible first | exact HB.out | apply below_alloc | apply pw_below_drewN | apply below_drew1) | exact HB.out)))); have n2_ := Aside0.mk (below_step (by repeat (first | (with_reducible first | exact HB.out | apply below_alloc | apply pw_below_drewN | apply below_drew1) | exact HB.out)) hb); clear HO215; clear HB; have HO215 := n0_; have HO218 := n1_; have HB := n2_; clear n0_ n1_ n2_; (try clear hb); (try clear hb2); (try clear hk); (try clear hi); (try clear ho0); obtain ⟨Ao45, co45, eo45⟩ := Kd.R_slice HO218.out; subst eo45; obtain ⟨Ao46, co46, eo46⟩ := Kd.R_slice HO215.out; subst eo46) | (go_at_call 17; (with_reducible refine (diapauseref03_Same.calls kj5 _ _ t216 _ _ t213 true _ ?side1 ?side2 ?side3 ?side4 A34.out).mono ?_); (case side1 => repeat (first | exact (Kd.R_reads' HO218.out).2.2 | (with_reducible refine Kd.C_alloc ?_ _) | (with_reducible refine Kd.C_drewN ?_ _) | (with_reducible refine Kd.C_drew ?_))); (case side2 => exact (Kd.R_reads' HO218.out).2.1); (case side3 => repeat (first | exact (Kd.R_reads' HO215.out).2.2 | (with_reducible refine Kd.C_alloc ?_ _) | (with_reducible refine Kd.C_drewN ?_ _) | (with_reducible refine Kd.C_drew ?_))); (case side4 => exact (Kd.R_reads' HO215.out).2.1); rintro e w' ⟨rfl, ⟨nd, rfl⟩⟩) | (go_at_call 36; (with_reducible refine (mask_Set_Len.calls a0 t220 _ A36.out).mono ?_); rintro e w' ⟨rfl, ⟨nd, rfl⟩⟩) | (go_at_call 44; (with_reducible refine (mask_Set_Nth.calls a0 a3 t221 _ (HT.out.below (by repeat (first | (with_reducible first | exact HB.out | apply below_alloc | apply pw_below_drewN | apply below_drew1) | exact HB.out))) A38.out).mono ?_); rintro e w47 ⟨rfl, hb⟩; have n0_ := Aside0.mk (Kd.R_below (by (with_reducible repeat (first | apply Kd.R_alloc | apply Kd.R_drewN | apply Kd.R_drew)); exact HO215.out) hb); have n1_ := Aside0.mk (Kd.R_below (by (with_reducible repeat (first | apply Kd.R_alloc | apply Kd.R_drewN | apply Kd.R_drew)); exact HO218.out) hb); have n2_ := Aside0.mk (below_step (by repeat (first | (with_reducible first | exact HB.out | apply below_alloc | apply pw_below_drewN | apply below_drew1) | exact HB.out)) hb); clear HO215; clear HO218; clear HB; have HO215 := n0_; have HO218 := n1_; have HB := n2_; clear n0_ n1_ n2_; (try clear hb); (try clear hb2); (try clear hk); (try clear hi)) | (go_at_call 49; (with_reducible refine (diapauseref03_Nth.calls kj5 a0 a3 t222 _ A39.out).mono ?_); rintro e w48 ⟨rfl, hb⟩; have n0_ := Aside0.mk (Kd.R_below (by (with_reducible repeat (first | apply Kd.R_alloc | apply Kd.R_drewN | apply Kd.R_drew)); exact HO215.out) hb); have n1_ := Aside0.mk (Kd.R_below (by (with_reducible repeat (first | apply Kd.R_alloc | apply Kd.R_drewN | apply Kd.R_drew)); exact HO218.out) hb); have n2_ := Aside0.mk (below_step (by repeat (first | (with_reducible first | exact HB.out | apply below_alloc | apply pw_below_drewN | apply below_drew1) | exact HB.out)) hb); clear HO215; clear HO218; clear HB; have HO215 := n0_; have HO218 := n1_; have HB := n2_; clear n0_ n1_ n2_; (try clear hb); (try clear hb2); (try clear hk); (try clear hi)) | (go_at_call 45; (with_reducible refine (mask_Set_First.calls a0 t223 _ (HT.out.below (by repeat (first | (with_reducible first | exact HB.out | apply below_alloc | apply pw_below_drewN | apply below_drew1) | exact HB.out))) A41.out).mono ?_); rintro e w49 ⟨rfl, hb⟩; have n0_ := Aside0.mk (Kd.R_below (by (with_reducible repeat (first | apply Kd.R_alloc | apply Kd.R_drewN | apply Kd.R_drew)); exact HO215.out) hb); have n1_ := Aside0.mk (Kd.R_below (by (with_reducible repeat (first | apply Kd.R_alloc | apply Kd.R_drewN | apply Kd.R_drew)); exact HO218.out) hb); have n2_ := Aside0.mk (below_step (by repeat (first | (with_reducible first | exact HB.out | apply below_alloc | apply pw_below_drewN | apply below_drew1) | exact HB.out)) hb); clear HO215; clear HO218; clear HB; have HO215 := n0_; have HO218 := n1_; have HB := n2_; clear n0_ n1_ n2_; (try clear hb); (try clear hb2); (try clear hk); (try clear hi)) | (go_at_call 49; (with_reducible refine (diapauseref03_Nth.calls kj5 a0 0 t224 _ A42.out).mono ?_); rintro e w50 ⟨rfl, hb⟩; have n0_ := Aside0.mk (Kd.R_below (by (with_reducible repeat (first | apply Kd.R_alloc | apply Kd.R_drewN | apply Kd.R_drew)); exact HO215.out) hb); have n1_ := Aside0.mk (Kd.R_below (by (with_reducible repeat (first | apply Kd.R_alloc | apply Kd.R_drewN | apply Kd.R_drew)); exact HO218.out) hb); have n2_ := Aside0.mk (below_step (by repeat (first | (with_reducible first | exact HB.out | apply below_alloc | apply pw_below_drewN | apply below_drew1) | exact HB.out)) hb); clear HO215; clear HO218; clear HB; have HO215 := n0_; have HO218 := n1_; have HB := n2_; clear n0_ n1_ n2_; (try clear hb); (try clear hb2); (try clear hk); (try clear hi)))
                go_ret
                exact ⟨by first | rfl | (simp [errW_none, errW_some] <;> rfl) | (simp [*, errW_none, errW_some] <;> rfl), by repeat (first | (with_reducible first | exact HB.out | apply below_alloc | apply pw_below_drewN | apply below_drew1) | exact HB.out)⟩
              · rw [if_neg c40] at H
                have c40b0 : (t221 == t222) = false := beq_eq_false_iff_ne.mpr c40
                have c40b1 : (t221 != t222) = true := bne_iff_ne.mpr c40
                obtain rfl := Option.some.inj H
                go_wp2_with (first | ((with_reducible refine gate_callee (f := 30) rfl ?_); refine goesL_ (some 47) rfl rfl Tryd.func30 (by kernel_rfl) rfl #[.int .u64 a0] rfl (by (try simp only [List.map_toArray, List.map_cons, List.map_nil]); first | done | rfl | (simp only [List.length_drop, List.length_take]; rfl)) ?_; (with_reducible refine (diapauseref03_All.calls kj5 a0 t213 _ A31.out).mono ?_); rintro e w51 ⟨v214, rfl, ho0, hb⟩; refine ⟨_, rfl, ?_⟩; have n0_ := Aside0.mk (Kd.R_lower ho0 (below_size (by repeat (first | (with_reducible first | exact HB.out | apply below_alloc | apply pw_below_drewN | apply below_drew1) | exact HB.out)))); have n1_ := Aside0.mk (below_step (by repeat (first | (with_reducible first | exact HB.out | apply below_alloc | apply pw_below_drewN | apply below_drew1) | exact HB.out)) hb); clear HB; have HO215 := n0_; have HB := n1_; clear n0_ n1_; (try clear hb); (try clear hb2); (try clear hk); (try clear hi); (try clear ho0)) | (go_at_call 48; (with_reducible refine (mask_Set_All.calls a0 t216 _ (HT.out.below (by repeat (first | (with_reducible first | exact HB.out | apply below_alloc | apply pw_below_drewN | apply below_drew1) | exact HB.out))) A33.out).mono ?_); rintro e w52 ⟨v217, rfl, ho0, hb⟩; have n0_ := Aside0.mk (Kd.R_elder' (by (with_reducible repeat (first | apply Kd.R_alloc | apply Kd.R_drewN | apply Kd.R_drew)); exact HO215.out) (Kd.R_base ho0) hb); have n1_ := Aside0.mk (Kd.R_lower (Kd.R_new' ho0 (Kd.R_lt (by (with_reducible repeat (first | apply Kd.R_alloc | apply Kd.R_drewN | apply Kd.R_drew)); exact HO215.out))) (below_size (by repeat (first | (with_reducible first | exact HB.out | apply below_alloc | apply pw_below_drewN | apply below_drew1) | exact HB.out)))); have n2_ := Aside0.mk (below_step (by repeat (first | (with_reducible first | exact HB.out | apply below_alloc | apply pw_below_drewN | apply below_drew1) | exact HB.out)) hb); clear HO215; clear HB; have HO215 := n0_; have HO218 := n1_; have HB := n2_; clear n0_ n1_ n2_; (try clear hb); (try clear hb2); (try clear hk); (try clear hi); (try clear ho0); obtain ⟨Ao53, co53, eo53⟩ := Kd.R_slice HO218.out; subst eo53; obtain ⟨Ao54, co54, eo54⟩ := Kd.R_slice HO215.out; subst eo54) | (go_at_call 17; (with_reducible refine (diapauseref03_Same.calls kj5 _ _ t216 _ _ t213 true _ ?side1 ?side2 ?side3 ?side4 A34.out).mono ?_); (case side1 => repeat (first | exact (Kd.R_reads' HO218.out).2.2 | (with_reducible refine Kd.C_alloc ?_ _) | (with_reducible refine Kd.C_drewN ?_ _) | (with_reducible refine Kd.C_drew ?_))); (case side2 => exact (Kd.R_reads' HO218.out).2.1); (case side3 => repeat (first | exact (Kd.R_reads' HO215.out).2.2 | (with_reducible refine Kd.C_alloc ?_ _) | (with_reducible refine Kd.C_drewN ?_ _) | (with_reducible refine Kd.C_drew ?_))); (case side4 => exact (Kd.R_reads' HO215.out).2.1); rintro e w' ⟨rfl, ⟨nd, rfl⟩⟩) | (go_at_call 36; (with_reducible refine (mask_Set_Len.calls a0 t220 _ A36.out).mono ?_); rintro e w' ⟨rfl, ⟨nd, rfl⟩⟩) | (go_at_call 44; (with_reducible refine (mask_Set_Nth.calls a0 a3 t221 _ (HT.out.below (by repeat (first | (with_reducible first | exact HB.out | apply below_alloc | apply pw_below_drewN | apply below_drew1) | exact HB.out))) A38.out).mono ?_); rintro e w55 ⟨rfl, hb⟩; have n0_ := Aside0.mk (Kd.R_below (by (with_reducible repeat (first | apply Kd.R_alloc | apply Kd.R_drewN | apply Kd.R_drew)); exact HO215.out) hb); have n1_ := Aside0.mk (Kd.R_below (by (with_reducible repeat (first | apply Kd.R_alloc | apply Kd.R_drewN | apply Kd.R_drew)); exact HO218.out) hb); have n2_ := Aside0.mk (below_step (by repeat (first | (with_reducible first | exact HB.out | apply below_alloc | apply pw_below_drewN | apply below_drew1) | exact HB.out)) hb); clear HO215; clear HO218; clear HB; have HO215 := n0_; have HO218 := n1_; have HB := n2_; clear n0_ n1_ n2_; (try clear hb); (try clear hb2); (try clear hk); (try clear hi)) | (go_at_call 49; (with_reducible refine (diapauseref03_Nth.calls kj5 a0 a3 t222 _ A39.out).mono ?_); rintro e w56 ⟨rfl, hb⟩; have n0_ := Aside0.mk (Kd.R_below (by (with_reducible repeat (first | apply Kd.R_alloc | apply Kd.R_drewN | apply Kd.R_drew)); exact HO215.out) hb); have n1_ := Aside0.mk (Kd.R_below (by (with_reducible repeat (first | apply Kd.R_alloc | apply Kd.R_drewN | apply Kd.R_drew)); exact HO218.out) hb); have n2_ := Aside0.mk (below_step (by repeat (first | (with_reducible first | exact HB.out | apply below_alloc | apply pw_below_drewN | apply below_drew1) | exact HB.out)) hb); clear HO215; clear HO218; clear HB; have HO215 := n0_; have HO218 := n1_; have HB := n2_; clear n0_ n1_ n2_; (try clear hb); (try clear hb2); (try clear hk); (try clear hi)))
                go_ret
                exact ⟨by first | rfl | (simp [errW_none, errW_some] <;> rfl) | (simp [*, errW_none, errW_some] <;> rfl), by repeat (first | (with_reducible first | exact HB.out | apply below_alloc | apply pw_below_drewN | apply below_drew1) | exact HB.out)⟩
            · rw [if_neg c37] at H
              have c37b0 : (t220 == (t213.length : Int)) = false := beq_eq_false_iff_ne.mpr c37
              have c37b1 : (t220 != (t213.length : Int)) = true := bne_iff_ne.mpr c37
              obtain rfl := Option.some.inj H
              go_wp2_with (first | ((with_reducible refine gate_callee (f := 30) rfl ?_); refine goesL_ (some 47) rfl rfl Tryd.func30 (by kernel_rfl) rfl #[.int .u64 a0] rfl (by (try simp only [List.map_toArray, List.map_cons, List.map_nil]); first | done | rfl | (simp only [List.length_drop, List.length_take]; rfl)) ?_; (with_reducible refine (diapauseref03_All.calls kj5 a0 t213 _ A31.out).mono ?_); rintro e w57 ⟨v214, rfl, ho0, hb⟩; refine ⟨_, rfl, ?_⟩; have n0_ := Aside0.mk (Kd.R_lower ho0 (below_size (by repeat (first | (with_reducible first | exact HB.out | apply below_alloc | apply pw_below_drewN | apply below_drew1) | exact HB.out)))); have n1_ := Aside0.mk (below_step (by repeat (first | (with_reducible first | exact HB.out | apply below_alloc | apply pw_below_drewN | apply below_drew1) | exact HB.out)) hb); clear HB; have HO215 := n0_; have HB := n1_; clear n0_ n1_; (try clear hb); (try clear hb2); (try clear hk); (try clear hi); (try clear ho0)) | (go_at_call 48; (with_reducible refine (mask_Set_All.calls a0 t216 _ (HT.out.below (by repeat (first | (with_reducible first | exact HB.out | apply below_alloc | apply pw_below_drewN | apply below_drew1) | exact HB.out))) A33.out).mono ?_); rintro e w58 ⟨v217, rfl, ho0, hb⟩; have n0_ := Aside0.mk (Kd.R_elder' (by (with_reducible repeat (first | apply Kd.R_alloc | apply Kd.R_drewN | apply Kd.R_drew)); exact HO215.out) (Kd.R_base ho0) hb); have n1_ := Aside0.mk (Kd.R_lower (Kd.R_new' ho0 (Kd.R_lt (by (with_reducible repeat (first | apply Kd.R_alloc | apply Kd.R_drewN | apply Kd.R_drew)); exact HO215.out))) (below_size (by repeat (first | (with_reducible first | exact HB.out | apply below_alloc | apply pw_below_drewN | apply below_drew1) | exact HB.out)))); have n2_ := Aside0.mk (below_step (by repeat (first | (with_reducible first | exact HB.out | apply below_alloc | apply pw_below_drewN | apply below_drew1) | exact HB.out)) hb); clear HO215; clear HB; have HO215 := n0_; have HO218 := n1_; have HB := n2_; clear n0_ n1_ n2_; (try clear hb); (try clear hb2); (try clear hk); (try clear hi); (try clear ho0); obtain ⟨Ao59, co59, eo59⟩ := Kd.R_slice HO218.out; subst eo59; obtain ⟨Ao60, co60, eo60⟩ := Kd.R_slice HO215.out; subst eo60) | (go_at_call 17; (with_reducible refine (diapauseref03_Same.calls kj5 _ _ t216 _ _ t213 true _ ?side1 ?side2 ?side3 ?side4 A34.out).mono ?_); (case side1 => repeat (first | exact (Kd.R_reads' HO218.out).2.2 | (with_reducible refine Kd.C_alloc ?_ _) | (with_reducible refine Kd.C_drewN ?_ _) | (with_reducible refine Kd.C_drew ?_))); (case side2 => exact (Kd.R_reads' HO218.out).2.1); (case side3 => repeat (first | exact (Kd.R_reads' HO215.out).2.2 | (with_reducible refine Kd.C_alloc ?_ _) | (with_reducible refine Kd.C_drewN ?_ _) | (with_reducible refine Kd.C_drew ?_))); (case side4 => exact (Kd.R_reads' HO215.out).2.1); rintro e w' ⟨rfl, ⟨nd, rfl⟩⟩) | (go_at_call 36; (with_reducible refine (mask_Set_Len.calls a0 t220 _ A36.out).mono ?_); rintro e w' ⟨rfl, ⟨nd, rfl⟩⟩))
              go_ret
              exact ⟨by first | rfl | (simp [errW_none, errW_some] <;> rfl) | (simp [*, errW_none, errW_some] <;> rfl), by repeat (first | (with_reducible first | exact HB.out | apply below_alloc | apply pw_below_drewN | apply below_drew1) | exact HB.out)⟩
          · replace c35 := Bool.eq_false_iff.mpr c35
            subst c35
            have H1 : (some false) = some r := by rw [if_neg (show ¬ (false = true) by decide)] at H; exact H
            clear H
            have H := H1
            clear H1
            obtain rfl := Option.some.inj H
            go_wp2_with (first | ((with_reducible refine gate_callee (f := 30) rfl ?_); refine goesL_ (some 47) rfl rfl Tryd.func30 (by kernel_rfl) rfl #[.int .u64 a0] rfl (by (try simp only [List.map_toArray, List.map_cons, List.map_nil]); first | done | rfl | (simp only [List.length_drop, List.length_take]; rfl)) ?_; (with_reducible refine (diapauseref03_All.calls kj5 a0 t213 _ A31.out).mono ?_); rintro e w61 ⟨v214, rfl, ho0, hb⟩; refine ⟨_, rfl, ?_⟩; have n0_ := Aside0.mk (Kd.R_lower ho0 (below_size (by repeat (first | (with_reducible first | exact HB.out | apply below_alloc | apply pw_below_drewN | apply below_drew1) | exact HB.out)))); have n1_ := Aside0.mk (below_step (by repeat (first | (with_reducible first | exact HB.out | apply below_alloc | apply pw_below_drewN | apply below_drew1) | exact HB.out)) hb); clear HB; have HO215 := n0_; have HB := n1_; clear n0_ n1_; (try clear hb); (try clear hb2); (try clear hk); (try clear hi); (try clear ho0)) | (go_at_call 48; (with_reducible refine (mask_Set_All.calls a0 t216 _ (HT.out.below (by repeat (first | (with_reducible first | exact HB.out | apply below_alloc | apply pw_below_drewN | apply below_drew1) | exact HB.out))) A33.out).mono ?_); rintro e w62 ⟨v217, rfl, ho0, hb⟩; have n0_ := Aside0.mk (Kd.R_elder' (by (with_reducible repeat (first | apply Kd.R_alloc | apply Kd.R_drewN | apply Kd.R_drew)); exact HO215.out) (Kd.R_base ho0) hb); have n1_ := Aside0.mk (Kd.R_lower (Kd.R_new' ho0 (Kd.R_lt (by (with_reducible repeat (first | apply Kd.R_alloc | apply Kd.R_drewN | apply Kd.R_drew)); exact HO215.out))) (below_size (by repeat (first | (with_reducible first | exact HB.out | apply below_alloc | apply pw_below_drewN | apply below_drew1) | exact HB.out)))); have n2_ := Aside0.mk (below_step (by repeat (first | (with_reducible first | exact HB.out | apply below_alloc | apply pw_below_drewN | apply below_drew1) | exact HB.out)) hb); clear HO215; clear HB; have HO215 := n0_; have HO218 := n1_; have HB := n2_; clear n0_ n1_ n2_; (try clear hb); (try clear hb2); (try clear hk); (try clear hi); (try clear ho0); obtain ⟨Ao63, co63, eo63⟩ := Kd.R_slice HO218.out; subst eo63; obtain ⟨Ao64, co64, eo64⟩ := Kd.R_slice HO215.out; subst eo64) | (go_at_call 17; (with_reducible refine (diapauseref03_Same.calls kj5 _ _ t216 _ _ t213 false _ ?side1 ?side2 ?side3 ?side4 A34.out).mono ?_); (case side1 => repeat (first | exact (Kd.R_reads' HO218.out).2.2 | (with_reducible refine Kd.C_alloc ?_ _) | (with_reducible refine Kd.C_drewN ?_ _) | (with_reducible refine Kd.C_drew ?_))); (case side2 => exact (Kd.R_reads' HO218.out).2.1); (case side3 => repeat (first | exact (Kd.R_reads' HO215.out).2.2 | (with_reducible refine Kd.C_alloc ?_ _) | (with_reducible refine Kd.C_drewN ?_ _) | (with_reducible refine Kd.C_drew ?_))); (case side4 => exact (Kd.R_reads' HO215.out).2.1); rintro e w' ⟨rfl, ⟨nd, rfl⟩⟩))
            go_ret
            exact ⟨by first | rfl | (simp [errW_none, errW_some] <;> rfl) | (simp [*, errW_none, errW_some] <;> rfl), by repeat (first | (with_reducible first | exact HB.out | apply below_alloc | apply pw_below_drewN | apply below_drew1) | exact HB.out)⟩
        · replace c32 := Bool.eq_false_iff.mpr c32
          subst c32
          have H1 : (some false) = some r := by rw [if_neg (show ¬ (false = true) by decide)] at H; exact H
          clear H
          have H := H1
          clear H1
          obtain rfl := Option.some.inj H
          go_wp2_with (first | ((with_reducible refine gate_callee (f := 30) rfl ?_); refine goesL_ (some 47) rfl rfl Tryd.func30 (by kernel_rfl) rfl #[.int .u64 a0] rfl (by (try simp only [List.map_toArray, List.map_cons, List.map_nil]); first | done | rfl | (simp only [List.length_drop, List.length_take]; rfl)) ?_; (with_reducible refine (diapauseref03_All.calls kj5 a0 t213 _ A31.out).mono ?_); rintro e w65 ⟨v214, rfl, ho0, hb⟩; refine ⟨_, rfl, ?_⟩; have n0_ := Aside0.mk (Kd.R_lower ho0 (below_size (by repeat (first | (with_reducible first | exact HB.out | apply below_alloc | apply pw_below_drewN | apply below_drew1) | exact HB.out)))); have n1_ := Aside0.mk (below_step (by repeat (first | (with_reducible first | exact HB.out | apply below_alloc | apply pw_below_drewN | apply below_drew1) | exact HB.out)) hb); clear HB; have HO215 := n0_; have HB := n1_; clear n0_ n1_; (try clear hb); (try clear hb2); (try clear hk); (try clear hi); (try clear ho0)))
          go_ret
          exact ⟨by first | rfl | (simp [errW_none, errW_some] <;> rfl) | (simp [*, errW_none, errW_some] <;> rfl), by repeat (first | (with_reducible first | exact HB.out | apply below_alloc | apply pw_below_drewN | apply below_drew1) | exact HB.out)⟩

/-- THE ONE PURE STATEMENT of diapauselaw03_MaskTells: yours. -/
def diapauselaw03_MaskTells.Pure : Prop := ∀ (a0 : Int) (a1 : Int) (a2 : Int) (a3 : Int), (Lit.int .u64 a0).wf = true → (Lit.int .i64 a1).wf = true → (Lit.int .i64 a2).wf = true → (Lit.int .i64 a3).wf = true → ∃ k, diapauselaw03_MaskTells.f k a0 a1 a2 a3 = some true
theorem diapauselaw03_MaskTells.walk (P : diapauselaw03_MaskTells.Pure) (a0 : Int) (a1 : Int) (a2 : Int) (a3 : Int) (w : World) (hT : Lw w) (w0 : (Lit.int .u64 a0).wf = true) (w1 : (Lit.int .i64 a1).wf = true) (w2 : (Lit.int .i64 a2).wf = true) (w3 : (Lit.int .i64 a3).wf = true) :
    Calls Tryd.prog 15 #[.int .u64 a0, .int .i64 a1, .int .i64 a2, .int .i64 a3] w fun e w' => e = .returned (.bool true) ∧ Below w.heap.size w w' := by
  obtain ⟨k, h⟩ := P a0 a1 a2 a3 w0 w1 w2 w3
  refine (diapauselaw03_MaskTells.calls k a0 a1 a2 a3 true w hT h).mono ?_
  rintro e w' ⟨rfl, hd⟩
  exact ⟨rfl, hd⟩

/-! ### diapauseref03_Digits: function 68 -/
def diapauseref03_Digits.f : Nat → Int → Option (ByteArray)
  | 0, _ => none
  | k + 1, a0 => (some (([(wrap64 (48 + (Int.tmod a0 10))) % 256] : List Int) : List Int)).bind fun y225 => (if a0 ≥ 10 then ((diapauseref03_Digits.f k (wrap64 (Int.tdiv a0 10))).bind fun t228 => (if t228.size + (strOfNums y225).size ≤ 9223372036854775807 then (some (t228 ++ (strOfNums y225))) else (none))) else (some (strOfNums y225)))
theorem diapauseref03_Digits.mono_l : ∀ k, (∀ y0, LeO (diapauseref03_Digits.f k y0) (diapauseref03_Digits.f (k + 1) y0))
  | 0 => fun _ r h => by simp [diapauseref03_Digits.f] at h
  | k + 1 => by
    have ih0 := diapauseref03_Digits.mono_l k
    · intro y0
      unfold diapauseref03_Digits.f
      repeat' first
      | (with_reducible exact ih0 _)
      | (with_reducible exact LeO.refl _)
      | (with_reducible exact LeO.none _)
      | (with_reducible refine LeO.ite ?_ ?_)
      | (with_reducible refine LeO.bind ?_ (fun _ => ?_))
      | exact ih0 _
      | exact LeO.none _
      | refine LeO.ite ?_ ?_
      | refine LeO.bind ?_ (fun _ => ?_)
theorem diapauseref03_Digits.mono : ∀ a0 k, LeO (diapauseref03_Digits.f k a0) (diapauseref03_Digits.f (k + 1) a0) := by
  intro a0 k
  have ih0 := diapauseref03_Digits.mono_l k
  exact ih0 a0
set_option maxHeartbeats 8000000 in
set_option maxRecDepth 100000 in
theorem diapauseref03_Digits.calls (k : Nat) : ∀ (a0 : Int) (r : ByteArray) (w : World) (h : diapauseref03_Digits.f k a0 = some r),
    Calls Tryd.prog 68 #[.int .i64 a0] w fun e w' => e = .returned (.string r) ∧ Below w.heap.size w w' := by
  induction k using Nat.strongRecOn with
  | _ k ih =>
  intro a0 r w h
  cases k with
  | zero => exact absurd h (by simp [diapauseref03_Digits.f])
  | succ k =>
  simp only [diapauseref03_Digits.f] at h
  have HB := Aside0.mk (Below.refl w.heap.size w)
  have H : ((some (([(wrap64 (48 + (Int.tmod a0 10))) % 256] : List Int) : List Int)).bind fun y225 => (if a0 ≥ 10 then ((diapauseref03_Digits.f k (wrap64 (Int.tdiv a0 10))).bind fun t228 => (if t228.size + (strOfNums y225).size ≤ 9223372036854775807 then (some (t228 ++ (strOfNums y225))) else (none))) else (some (strOfNums y225)))) = some r := h
  clear h
  obtain ⟨y225, hy225⟩ : ∃ y_ : List Int, y_ = (([(wrap64 (48 + (Int.tmod a0 10))) % 256] : List Int)) := ⟨_, rfl⟩
  replace H : (if a0 ≥ 10 then ((diapauseref03_Digits.f k (wrap64 (Int.tdiv a0 10))).bind fun t228 => (if t228.size + (strOfNums y225).size ≤ 9223372036854775807 then (some (t228 ++ (strOfNums y225))) else (none))) else (some (strOfNums y225))) = some r := by first | (rw [hy225]; with_reducible exact H) | (have H2_ := (Option.bind_some _ _).symm.trans H; rw [hy225]; with_reducible exact H2_) | (have H2_ := (Option.bind_some _ _).symm.trans H; with_reducible exact H2_) | with_reducible exact H | (rw [hy225]; exact H) | exact H
  have Ny225 := Aside0.mk hy225
  clear hy225
  by_cases c2 : a0 ≥ 10
  · rw [if_pos c2] at H
    have c2b0 : decide (10 ≤ a0) = true := decide_eq_true c2
    clear c2
    replace H := Option.bind_eq_some_iff.mp H
    obtain ⟨t228, A30, H⟩ := H
    replace H : (if t228.size + (strOfNums y225).size ≤ 9223372036854775807 then (some (t228 ++ (strOfNums y225))) else (none)) = some r := H
    have A3 := Aside0.mk A30
    clear A30
    by_cases c4 : t228.size + (strOfNums y225).size ≤ 9223372036854775807
    · rw [if_pos c4] at H
      have c4b0 := eq_true c4
      have c4b1 : decide (t228.size + (strOfNums y225).size ≤ 9223372036854775807) = true := decide_eq_true c4
      try have c4b2 : (9223372036854775807 < t228.size + (strOfNums y225).size) = False := eq_false (Nat.not_lt.2 c4)
      obtain rfl := Option.some.inj H
      go_enter Tryd.func68, Tryd.ntmps68
      go_wp2_with (first | ((with_reducible refine gate_dst (N := 8) rfl ?_); refine Kd.R_lit (Kd.int .u8) _ 5 ?hg (N := 8) ?hd (xs := ([(wrap64 (48 + (Int.tmod a0 10))) % 256] : List Int)) (inner := [.int .u8 ((wrap64 (48 + (Int.tmod a0 10))) % 256)]) (ok := fun _ => True) (okp := fun _ => True) ?hr ?hp (fun _ hk => hk) trivial (Below.refl _ _) (Nat.le_refl _) (by simp) ?_; (case hd => rfl); (case hg => rfl); (case hr => first | (go_simp; done) | (go_simp; rfl)); (case hp => exact (Reps.one (show Kd.M (Kd.int .u8) _ _ _ ((wrap64 (48 + (Int.tmod a0 10))) % 256) [.int .u8 ((wrap64 (48 + (Int.tmod a0 10))) % 256)] from rfl) (Reps.none _ _))); intro v226 w5 ho6 hb hg_ hnew_; clear hg_ hnew_; (first | rw [← Ny225.out] at ho6 | (simp only [Int.reduceToNat] at ho6; rw [← Ny225.out] at ho6)); have n0_ := Aside0.mk (Kd.R_lower ho6 (below_size (by repeat (first | (with_reducible first | exact HB.out | apply below_alloc | apply pw_below_drewN | apply below_drew1) | exact HB.out)))); have n1_ := Aside0.mk (below_step (by repeat (first | (with_reducible first | exact HB.out | apply below_alloc | apply pw_below_drewN | apply below_drew1) | exact HB.out)) hb); clear HB; have HO227 := n0_; have HB := n1_; clear n0_ n1_; clear hb ho6; have hcv7 := own_string (P := Tryd.prog) Tryd.underlying41 Tryd.underlying5 Tryd.underlying9 (Kd.own_of_R HO227.out)) | ((with_reducible refine gate_callee (f := 68) rfl ?_); refine goesL_ (some 14) rfl rfl Tryd.func68 (by kernel_rfl) rfl #[.int .i64 (wrap64 (Int.tdiv a0 10))] rfl (by (try simp only [List.map_toArray, List.map_cons, List.map_nil]); first | done | rfl | (simp only [List.length_drop, List.length_take]; rfl)) ?_; (with_reducible refine (ih k (by omega) (wrap64 (Int.tdiv a0 10)) t228 _ A3.out).mono ?_); rintro e w8 ⟨rfl, hb⟩; refine ⟨_, rfl, ?_⟩; have n0_ := Aside0.mk (Kd.R_below (by (with_reducible repeat (first | apply Kd.R_alloc | apply Kd.R_drewN | apply Kd.R_drew)); exact HO227.out) hb); have n1_ := Aside0.mk (below_step (by repeat (first | (with_reducible first | exact HB.out | apply below_alloc | apply pw_below_drewN | apply below_drew1) | exact HB.out)) hb); clear HO227; clear HB; have HO227 := n0_; have HB := n1_; clear n0_ n1_; (try clear hb); (try clear hb2); (try clear hk); (try clear hi)))
      go_ret
      exact ⟨by first | rfl | (simp [errW_none, errW_some] <;> rfl) | (simp [*, errW_none, errW_some] <;> rfl), by repeat (first | (with_reducible first | exact HB.out | apply below_alloc | apply pw_below_drewN | apply below_drew1) | exact HB.out)⟩
    · rw [if_neg c4] at H
      exact absurd H (by simp)
  · rw [if_neg c2] at H
    have c2b0 : decide (10 ≤ a0) = false := decide_eq_false c2
    clear c2
    obtain rfl := Option.some.inj H
    go_enter Tryd.func68, Tryd.ntmps68
    go_wp2_with (first | ((with_reducible refine gate_dst (N := 8) rfl ?_); refine Kd.R_lit (Kd.int .u8) _ 5 ?hg (N := 8) ?hd (xs := ([(wrap64 (48 + (Int.tmod a0 10))) % 256] : List Int)) (inner := [.int .u8 ((wrap64 (48 + (Int.tmod a0 10))) % 256)]) (ok := fun _ => True) (okp := fun _ => True) ?hr ?hp (fun _ hk => hk) trivial (Below.refl _ _) (Nat.le_refl _) (by simp) ?_; (case hd => rfl); (case hg => rfl); (case hr => first | (go_simp; done) | (go_simp; rfl)); (case hp => exact (Reps.one (show Kd.M (Kd.int .u8) _ _ _ ((wrap64 (48 + (Int.tmod a0 10))) % 256) [.int .u8 ((wrap64 (48 + (Int.tmod a0 10))) % 256)] from rfl) (Reps.none _ _))); intro v226 w9 ho10 hb hg_ hnew_; clear hg_ hnew_; (first | rw [← Ny225.out] at ho10 | (simp only [Int.reduceToNat] at ho10; rw [← Ny225.out] at ho10)); have n0_ := Aside0.mk (Kd.R_lower ho10 (below_size (by repeat (first | (with_reducible first | exact HB.out | apply below_alloc | apply pw_below_drewN | apply below_drew1) | exact HB.out)))); have n1_ := Aside0.mk (below_step (by repeat (first | (with_reducible first | exact HB.out | apply below_alloc | apply pw_below_drewN | apply below_drew1) | exact HB.out)) hb); clear HB; have HO227 := n0_; have HB := n1_; clear n0_ n1_; clear hb ho10; have hcv11 := own_string (P := Tryd.prog) Tryd.underlying41 Tryd.underlying5 Tryd.underlying9 (Kd.own_of_R HO227.out)))
    go_ret
    exact ⟨by first | rfl | (simp [errW_none, errW_some] <;> rfl) | (simp [*, errW_none, errW_some] <;> rfl), by repeat (first | (with_reducible first | exact HB.out | apply below_alloc | apply pw_below_drewN | apply below_drew1) | exact HB.out)⟩

/-! ### diapauseref03_Text: function 43 -/
mutual
def diapauseref03_Text.l0 : Nat → Int → ByteArray → Int → Option (ByteArray)
  | 0, _, _, _ => none
  | k + 1, x0, x3, x4 => if x4 < 64 then ((diapauseref03_Has.f k x0 x4).bind fun t229 => (if t229 = true then (diapauseref03_Text.l1 k x0 x3 x4 x4) else (diapauseref03_Text.l0 k x0 x3 (wrap64 (x4 + 1))))) else (if x3.toList = ([] : List UInt8) then (some (⟨#[45]⟩ : ByteArray)) else (some x3))
def diapauseref03_Text.l1 : Nat → Int → ByteArray → Int → Int → Option (ByteArray)
  | 0, _, _, _, _ => none
  | k + 1, x0, x3, x4, x5 => (diapauseref03_Has.f k x0 (wrap64 (x5 + 1))).bind fun t230 => (if t230 = true then (diapauseref03_Text.l1 k x0 x3 x4 (wrap64 (x5 + 1))) else (if x3.toList = ([] : List UInt8) then (diapauseref03_Text.j2 k x0 x3 x4 x5) else (if x3.size + 1 ≤ 9223372036854775807 then (diapauseref03_Text.j2 k x0 (x3 ++ (⟨#[44]⟩ : ByteArray)) x4 x5) else (none))))
def diapauseref03_Text.j2 : Nat → Int → ByteArray → Int → Int → Option (ByteArray)
  | 0, _, _, _, _ => none
  | k + 1, x0, x3, x4, x5 => (diapauseref03_Digits.f k x4).bind fun t231 => (if x3.size + t231.size ≤ 9223372036854775807 then (if x5 > x4 then (if (x3 ++ t231).size + 1 ≤ 9223372036854775807 then ((diapauseref03_Digits.f k x5).bind fun t232 => (if ((x3 ++ t231) ++ (⟨#[45]⟩ : ByteArray)).size + t232.size ≤ 9223372036854775807 then (diapauseref03_Text.l0 k x0 (((x3 ++ t231) ++ (⟨#[45]⟩ : ByteArray)) ++ t232) (wrap64 (x5 + 1))) else (none))) else (none)) else (diapauseref03_Text.l0 k x0 (x3 ++ t231) (wrap64 (x5 + 1)))) else (none))
end
def diapauseref03_Text.f (k : Nat) (a0 : Int) : Option (ByteArray) := diapauseref03_Text.l0 k a0 (⟨#[]⟩ : ByteArray) 0
theorem diapauseref03_Text.mono_l : ∀ k, (∀ y0 y1 y2, LeO (diapauseref03_Text.l0 k y0 y1 y2) (diapauseref03_Text.l0 (k + 1) y0 y1 y2)) ∧ (∀ y0 y1 y2 y3, LeO (diapauseref03_Text.l1 k y0 y1 y2 y3) (diapauseref03_Text.l1 (k + 1) y0 y1 y2 y3)) ∧ (∀ y0 y1 y2 y3, LeO (diapauseref03_Text.j2 k y0 y1 y2 y3) (diapauseref03_Text.j2 (k + 1) y0 y1 y2 y3))
  | 0 => ⟨fun _ _ _ r h => by simp [diapauseref03_Text.l0] at h, fun _ _ _ _ r h => by simp [diapauseref03_Text.l1] at h, fun _ _ _ _ r h => by simp [diapauseref03_Text.j2] at h⟩
  | k + 1 => by
    obtain ⟨ih0, ih1, ih2⟩ := diapauseref03_Text.mono_l k
    refine ⟨?_, ?_, ?_⟩
    · intro y0 y1 y2
      unfold diapauseref03_Text.l0
      repeat' first
      | (with_reducible exact ih0 _ _ _)
      | (with_reducible exact ih1 _ _ _ _)
      | (with_reducible exact ih2 _ _ _ _)
      | (with_reducible exact diapauseref03_Digits.mono _ _)
      | (with_reducible exact diapauseref03_Has.mono _ _ _)
      | (with_reducible exact LeO.refl _)
      | (with_reducible exact LeO.none _)
      | (with_reducible refine LeO.ite ?_ ?_)
      | (with_reducible refine LeO.bind ?_ (fun _ => ?_))
      | exact ih0 _ _ _
      | exact ih1 _ _ _ _
      | exact ih2 _ _ _ _
      | exact diapauseref03_Digits.mono _ _
      | exact diapauseref03_Has.mono _ _ _
      | exact LeO.none _
      | refine LeO.ite ?_ ?_
      | refine LeO.bind ?_ (fun _ => ?_)
    · intro y0 y1 y2 y3
      unfold diapauseref03_Text.l1
      repeat' first
      | (with_reducible exact ih0 _ _ _)
      | (with_reducible exact ih1 _ _ _ _)
      | (with_reducible exact ih2 _ _ _ _)
      | (with_reducible exact diapauseref03_Digits.mono _ _)
      | (with_reducible exact diapauseref03_Has.mono _ _ _)
      | (with_reducible exact LeO.refl _)
      | (with_reducible exact LeO.none _)
      | (with_reducible refine LeO.ite ?_ ?_)
      | (with_reducible refine LeO.bind ?_ (fun _ => ?_))
      | exact ih0 _ _ _
      | exact ih1 _ _ _ _
      | exact ih2 _ _ _ _
      | exact diapauseref03_Digits.mono _ _
      | exact diapauseref03_Has.mono _ _ _
      | exact LeO.none _
      | refine LeO.ite ?_ ?_
      | refine LeO.bind ?_ (fun _ => ?_)
    · intro y0 y1 y2 y3
      unfold diapauseref03_Text.j2
      repeat' first
      | (with_reducible exact ih0 _ _ _)
      | (with_reducible exact ih1 _ _ _ _)
      | (with_reducible exact ih2 _ _ _ _)
      | (with_reducible exact diapauseref03_Digits.mono _ _)
      | (with_reducible exact diapauseref03_Has.mono _ _ _)
      | (with_reducible exact LeO.refl _)
      | (with_reducible exact LeO.none _)
      | (with_reducible refine LeO.ite ?_ ?_)
      | (with_reducible refine LeO.bind ?_ (fun _ => ?_))
      | exact ih0 _ _ _
      | exact ih1 _ _ _ _
      | exact ih2 _ _ _ _
      | exact diapauseref03_Digits.mono _ _
      | exact diapauseref03_Has.mono _ _ _
      | exact LeO.none _
      | refine LeO.ite ?_ ?_
      | refine LeO.bind ?_ (fun _ => ?_)
theorem diapauseref03_Text.mono : ∀ a0 k, LeO (diapauseref03_Text.f k a0) (diapauseref03_Text.f (k + 1) a0) := by
  intro a0 k
  obtain ⟨ih0, ih1, ih2⟩ := diapauseref03_Text.mono_l k
  unfold diapauseref03_Text.f
  repeat' first
      | (with_reducible exact ih0 _ _ _)
      | (with_reducible exact ih1 _ _ _ _)
      | (with_reducible exact ih2 _ _ _ _)
      | (with_reducible exact diapauseref03_Digits.mono _ _)
      | (with_reducible exact diapauseref03_Has.mono _ _ _)
      | (with_reducible exact LeO.refl _)
      | (with_reducible exact LeO.none _)
      | (with_reducible refine LeO.ite ?_ ?_)
      | (with_reducible refine LeO.bind ?_ (fun _ => ?_))
      | exact ih0 _ _ _
      | exact ih1 _ _ _ _
      | exact ih2 _ _ _ _
      | exact diapauseref03_Digits.mono _ _
      | exact diapauseref03_Has.mono _ _ _
      | exact LeO.none _
      | refine LeO.ite ?_ ?_
      | refine LeO.bind ?_ (fun _ => ?_)
set_option maxHeartbeats 8000000 in
set_option maxRecDepth 100000 in
theorem diapauseref03_Text.calls (k : Nat) (a0 : Int) (r : ByteArray) (w : World) (h : diapauseref03_Text.f k a0 = some r) :
    Calls Tryd.prog 43 #[.int .u64 a0] w fun e w' => e = .returned (.string r) ∧ Below w.heap.size w w' := by
  have HB := Aside0.mk (Below.refl w.heap.size w)
  have H : (diapauseref03_Text.l0 k a0 (⟨#[]⟩ : ByteArray) 0) = some r := h
  clear h
  have H' := Aside0.mk H
  clear H
  go_enter Tryd.func43, Tryd.ntmps43
  go_wp2
  go_loopg [3, 4] k (fun kq v3 v4 w' => ∃ (x3_1 : ByteArray) (x4_1 : Int), v3 = .string x3_1 ∧ v4 = .int .i64 x4_1 ∧ Aside0 (diapauseref03_Text.l0 kq a0 x3_1 x4_1 = some r) ∧ Aside0 (kq ≤ k) ∧ Aside0 (Below w.heap.size w w'))
  case atStart => exact ⟨((⟨#[]⟩ : ByteArray)), (0), (by first | rfl | (simp; done) | (simp [*]; done)), (by first | rfl | (simp; done) | (simp [*]; done)), H', ⟨Nat.le_refl _⟩, ⟨by repeat (first | (with_reducible first | exact HB.out | apply below_alloc | apply pw_below_drewN | apply below_drew1) | exact HB.out)⟩⟩
  case round =>
    clear H'
    obtain ⟨x3_1, x4_1, rfl, rfl, HA, HK1, HB⟩ := hrel
    cases gk with
    | zero => exact absurd HA.out (by simp [diapauseref03_Text.l0])
    | succ k1 =>
      have H := HA.out
      clear HA
      simp only [diapauseref03_Text.l0] at H
      by_cases c2 : x4_1 < 64
      · rw [if_pos c2] at H
        have c2b0 : decide (x4_1 < 64) = true := decide_eq_true c2
        clear c2
        replace H := Option.bind_eq_some_iff.mp H
        obtain ⟨t229, A30, H⟩ := H
        replace H : (if t229 = true then (diapauseref03_Text.l1 k1 a0 x3_1 x4_1 x4_1) else (diapauseref03_Text.l0 k1 a0 x3_1 (wrap64 (x4_1 + 1)))) = some r := H
        have A3 := Aside0.mk A30
        clear A30
        by_cases c4 : t229 = true
        · subst c4
          have H1 : (diapauseref03_Text.l1 k1 a0 x3_1 x4_1 x4_1) = some r := by rw [if_pos rfl] at H; exact H
          clear H
          have H := H1
          clear H1
          have H' := Aside0.mk H
          clear H
          go_wp2_with (first | ((with_reducible refine gate_callee (f := 28) rfl ?_); refine goesL_ (some 10) rfl rfl Tryd.func28 (by kernel_rfl) rfl #[.int .u64 a0, .int .i64 x4_1] rfl (by (try simp only [List.map_toArray, List.map_cons, List.map_nil]); first | done | rfl | (simp only [List.length_drop, List.length_take]; rfl)) ?_; (with_reducible refine (diapauseref03_Has.calls k1 a0 x4_1 true _ A3.out).mono ?_); rintro e w' ⟨rfl, ⟨nd, rfl⟩⟩; refine ⟨_, rfl, ?_⟩))
          go_loopg [5] k1 (fun kq v5 w' => ∃ (x5_2 : Int), v5 = .int .i64 x5_2 ∧ Aside0 (diapauseref03_Text.l1 kq a0 x3_1 x4_1 x5_2 = some r) ∧ Aside0 (kq ≤ k1) ∧ Aside0 (Below w.heap.size w w'))
          case atStart => exact ⟨(x4_1), (by first | rfl | (simp; done) | (simp [*]; done)), H', ⟨Nat.le_refl _⟩, ⟨by repeat (first | (with_reducible first | exact HB.out | apply below_alloc | apply pw_below_drewN | apply below_drew1) | exact HB.out)⟩⟩
          case round =>
            clear H'
            try clear c2
            try clear c2b0
            try clear p2
            try clear c4
            obtain ⟨x5_2, rfl, HA, HK2, HB⟩ := hrel
            cases gk with
            | zero => exact absurd HA.out (by simp [diapauseref03_Text.l1])
            | succ k2 =>
              have H := HA.out
              clear HA
              simp only [diapauseref03_Text.l1] at H
              replace H := Option.bind_eq_some_iff.mp H
              obtain ⟨t230, A50, H⟩ := H
              replace H : (if t230 = true then (diapauseref03_Text.l1 k2 a0 x3_1 x4_1 (wrap64 (x5_2 + 1))) else (if x3_1.toList = ([] : List UInt8) then (diapauseref03_Text.j2 k2 a0 x3_1 x4_1 x5_2) else (if x3_1.size + 1 ≤ 9223372036854775807 then (diapauseref03_Text.j2 k2 a0 (x3_1 ++ (⟨#[44]⟩ : ByteArray)) x4_1 x5_2) else (none)))) = some r := H
              have A5 := Aside0.mk A50
              clear A50
              by_cases c6 : t230 = true
              · subst c6
                have H1 : (diapauseref03_Text.l1 k2 a0 x3_1 x4_1 (wrap64 (x5_2 + 1))) = some r := by rw [if_pos rfl] at H; exact H
                clear H
                have H := H1
                clear H1
                have H' := Aside0.mk H
                clear H
                go_wp2_with (first | ((with_reducible refine gate_callee (f := 28) rfl ?_); refine goesL_ (some 18) rfl rfl Tryd.func28 (by kernel_rfl) rfl #[.int .u64 a0, .int .i64 (wrap64 (x5_2 + 1))] rfl (by (try simp only [List.map_toArray, List.map_cons, List.map_nil]); first | done | rfl | (simp only [List.length_drop, List.length_take]; rfl)) ?_; (with_reducible refine (diapauseref03_Has.calls k2 a0 (wrap64 (x5_2 + 1)) true _ A5.out).mono ?_); rintro e w' ⟨rfl, ⟨nd, rfl⟩⟩; refine ⟨_, rfl, ?_⟩))
                go_roundg k2
                case measure => have := HK1.out; have := HK2.out; omega
                case rel => exact ⟨(wrap64 (x5_2 + 1)), (by first | rfl | (simp; done) | (simp [*]; done)), H', ⟨by have := HK1.out; have := HK2.out; omega⟩, ⟨by repeat (first | (with_reducible first | exact HB.out | apply below_alloc | apply pw_below_drewN | apply below_drew1) | exact HB.out)⟩⟩
              · replace c6 := Bool.eq_false_iff.mpr c6
                subst c6
                have H1 : (if x3_1.toList = ([] : List UInt8) then (diapauseref03_Text.j2 k2 a0 x3_1 x4_1 x5_2) else (if x3_1.size + 1 ≤ 9223372036854775807 then (diapauseref03_Text.j2 k2 a0 (x3_1 ++ (⟨#[44]⟩ : ByteArray)) x4_1 x5_2) else (none))) = some r := by rw [if_neg (show ¬ (false = true) by decide)] at H; exact H
                clear H
                have H := H1
                clear H1
                have HC7 := Aside0.mk H
                clear H
                go_upto_if 22 with (first | ((with_reducible refine gate_callee (f := 28) rfl ?_); refine goesL_ (some 18) rfl rfl Tryd.func28 (by kernel_rfl) rfl #[.int .u64 a0, .int .i64 (wrap64 (x5_2 + 1))] rfl (by (try simp only [List.map_toArray, List.map_cons, List.map_nil]); first | done | rfl | (simp only [List.length_drop, List.length_take]; rfl)) ?_; (with_reducible refine (diapauseref03_Has.calls k2 a0 (wrap64 (x5_2 + 1)) false _ A5.out).mono ?_); rintro e w' ⟨rfl, ⟨nd, rfl⟩⟩; refine ⟨_, rfl, ?_⟩))
                (try simp only [Act.put, List.setIfInBounds_toArray, List.set_cons_zero, List.set_cons_succ])
                go_cut [3] (fun v3 wc => ∃ (kq : Nat) (x3_6 : ByteArray), v3 = .string x3_6 ∧ Aside0 (diapauseref03_Text.j2 kq a0 x3_6 x4_1 x5_2 = some r) ∧ Aside0 (kq ≤ k2) ∧ Aside0 (Below w.heap.size w wc))
                case first =>
                  have H := HC7.out
                  clear HC7
                  by_cases c8 : x3_1.toList = ([] : List UInt8)
                  · rw [if_pos c8] at H
                    have c8b0 : (x3_1.toList == ([] : List UInt8)) = true := beq_iff_eq.mpr c8
                    have c8b1 : (x3_1.toList != ([] : List UInt8)) = false := bne_eq_false_iff_eq.mpr c8
                    try have c8q : (x3_1.toList).isEmpty = true := List.isEmpty_iff.mpr c8
                    (try rw [c8q])
                    (try simp only [Bool.not_true, Bool.not_false])
                    clear c8
                    (first | rw [c8b0] | (simp only [i64_w, i32_w]; rw [c8b0]) | skip)
                    have H' := Aside0.mk H
                    clear H
                    go_wp2
                    go_meet
                    case rel => exact ⟨_, (x3_1), (by first | rfl | (simp; done) | (simp [*]; done)), H', ⟨by have := HK1.out; have := HK2.out; first | omega | exact Nat.le_refl _⟩, ⟨by repeat (first | (with_reducible first | exact HB.out | apply below_alloc | apply pw_below_drewN | apply below_drew1) | exact HB.out)⟩⟩
                  · rw [if_neg c8] at H
                    have c8b0 : (x3_1.toList == ([] : List UInt8)) = false := beq_eq_false_iff_ne.mpr c8
                    have c8b1 : (x3_1.toList != ([] : List UInt8)) = true := bne_iff_ne.mpr c8
                    try have c8q : (x3_1.toList).isEmpty = false := List.isEmpty_eq_false_iff.mpr c8
                    (try rw [c8q])
                    (try simp only [Bool.not_true, Bool.not_false])
                    (first | rw [c8b0] | (simp only [i64_w, i32_w]; rw [c8b0]) | skip)
                    by_cases c9 : x3_1.size + 1 ≤ 9223372036854775807
                    · rw [if_pos c9] at H
                      have c9b0 := eq_true c9
                      have c9b1 : decide (x3_1.size + 1 ≤ 9223372036854775807) = true := decide_eq_true c9
                      try have c9b2 : (9223372036854775807 < x3_1.size + 1) = False := eq_false (Nat.not_lt.2 c9)
                      have H' := Aside0.mk H
                      clear H
                      go_wp2
                      go_meet
                      case rel => exact ⟨_, (x3_1 ++ (⟨#[44]⟩ : ByteArray)), (by first | rfl | (simp; done) | (simp [*]; done)), H', ⟨by have := HK1.out; have := HK2.out; first | omega | exact Nat.le_refl _⟩, ⟨by repeat (first | (with_reducible first | exact HB.out | apply below_alloc | apply pw_below_drewN | apply below_drew1) | exact HB.out)⟩⟩
                    · rw [if_neg c9] at H
                      exact absurd H (by simp)
                case rest =>
                  clear HC7
                  try clear c2
                  try clear c2b0
                  try clear p2
                  try clear c4
                  try clear c6
                  try clear p6
                  try clear c8
                  try clear c8b0
                  try clear c8b1
                  try clear c9
                  try clear c9b0
                  try clear c9b1
                  try clear c9b2
                  try clear p2
                  obtain ⟨kq, x3_6, rfl, HA, HJ6, HB⟩ := hcut
                  cases kq with
                  | zero => exact absurd HA.out (by simp [diapauseref03_Text.j2])
                  | succ kj6 =>
                    have H := HA.out
                    clear HA
                    simp only [diapauseref03_Text.j2] at H
                    replace H := Option.bind_eq_some_iff.mp H
                    obtain ⟨t231, A100, H⟩ := H
                    replace H : (if x3_6.size + t231.size ≤ 9223372036854775807 then (if x5_2 > x4_1 then (if (x3_6 ++ t231).size + 1 ≤ 9223372036854775807 then ((diapauseref03_Digits.f kj6 x5_2).bind fun t232 => (if ((x3_6 ++ t231) ++ (⟨#[45]⟩ : ByteArray)).size + t232.size ≤ 9223372036854775807 then (diapauseref03_Text.l0 kj6 a0 (((x3_6 ++ t231) ++ (⟨#[45]⟩ : ByteArray)) ++ t232) (wrap64 (x5_2 + 1))) else (none))) else (none)) else (diapauseref03_Text.l0 kj6 a0 (x3_6 ++ t231) (wrap64 (x5_2 + 1)))) else (none)) = some r := H
                    have A10 := Aside0.mk A100
                    clear A100
                    by_cases c11 : x3_6.size + t231.size ≤ 9223372036854775807
                    · rw [if_pos c11] at H
                      have c11b0 := eq_true c11
                      have c11b1 : decide (x3_6.size + t231.size ≤ 9223372036854775807) = true := decide_eq_true c11
                      try have c11b2 : (9223372036854775807 < x3_6.size + t231.size) = False := eq_false (Nat.not_lt.2 c11)
                      by_cases c12 : x5_2 > x4_1
                      · rw [if_pos c12] at H
                        have c12b0 : decide (x4_1 < x5_2) = true := decide_eq_true c12
                        clear c12
                        by_cases c13 : (x3_6 ++ t231).size + 1 ≤ 9223372036854775807
                        · rw [if_pos c13] at H
                          have c13b0 := eq_true c13
                          have c13b1 : decide ((x3_6 ++ t231).size + 1 ≤ 9223372036854775807) = true := decide_eq_true c13
                          try have c13b2 : (9223372036854775807 < (x3_6 ++ t231).size + 1) = False := eq_false (Nat.not_lt.2 c13)
                          have c13q : x3_6.size + t231.size + 1 ≤ 9223372036854775807 := by have := c13; simp only [ByteArray.size_append] at this; exact this
                          try have c13q0 := eq_true c13q
                          try have c13q1 : decide (x3_6.size + t231.size + 1 ≤ 9223372036854775807) = true := decide_eq_true c13q
                          try have c13q2 : (9223372036854775807 < x3_6.size + t231.size + 1) = False := eq_false (Nat.not_lt.2 c13q)
                          replace H := Option.bind_eq_some_iff.mp H
                          obtain ⟨t232, A140, H⟩ := H
                          replace H : (if ((x3_6 ++ t231) ++ (⟨#[45]⟩ : ByteArray)).size + t232.size ≤ 9223372036854775807 then (diapauseref03_Text.l0 kj6 a0 (((x3_6 ++ t231) ++ (⟨#[45]⟩ : ByteArray)) ++ t232) (wrap64 (x5_2 + 1))) else (none)) = some r := H
                          have A14 := Aside0.mk A140
                          clear A140
                          by_cases c15 : ((x3_6 ++ t231) ++ (⟨#[45]⟩ : ByteArray)).size + t232.size ≤ 9223372036854775807
                          · rw [if_pos c15] at H
                            have c15b0 := eq_true c15
                            have c15b1 : decide (((x3_6 ++ t231) ++ (⟨#[45]⟩ : ByteArray)).size + t232.size ≤ 9223372036854775807) = true := decide_eq_true c15
                            try have c15b2 : (9223372036854775807 < ((x3_6 ++ t231) ++ (⟨#[45]⟩ : ByteArray)).size + t232.size) = False := eq_false (Nat.not_lt.2 c15)
                            have c15q : x3_6.size + t231.size + 1 + t232.size ≤ 9223372036854775807 := by have := c15; simp only [ByteArray.size_append] at this; exact this
                            try have c15q0 := eq_true c15q
                            try have c15q1 : decide (x3_6.size + t231.size + 1 + t232.size ≤ 9223372036854775807) = true := decide_eq_true c15q
                            try have c15q2 : (9223372036854775807 < x3_6.size + t231.size + 1 + t232.size) = False := eq_false (Nat.not_lt.2 c15q)
                            have H' := Aside0.mk H
                            clear H
                            go_wp2_with (first | ((with_reducible refine gate_callee (f := 68) rfl ?_); refine goesL_ (some 27) rfl rfl Tryd.func68 (by kernel_rfl) rfl #[.int .i64 x4_1] rfl (by (try simp only [List.map_toArray, List.map_cons, List.map_nil]); first | done | rfl | (simp only [List.length_drop, List.length_take]; rfl)) ?_; (with_reducible refine (diapauseref03_Digits.calls kj6 x4_1 t231 _ A10.out).mono ?_); rintro e w16 ⟨rfl, hb⟩; refine ⟨_, rfl, ?_⟩; have n0_ := Aside0.mk (below_step (by repeat (first | (with_reducible first | exact HB.out | apply below_alloc | apply pw_below_drewN | apply below_drew1) | exact HB.out)) hb); clear HB; have HB := n0_; clear n0_; (try clear hb); (try clear hb2); (try clear hk); (try clear hi)) | ((with_reducible refine gate_callee (f := 68) rfl ?_); refine goesL_ (some 35) rfl rfl Tryd.func68 (by kernel_rfl) rfl #[.int .i64 x5_2] rfl (by (try simp only [List.map_toArray, List.map_cons, List.map_nil]); first | done | rfl | (simp only [List.length_drop, List.length_take]; rfl)) ?_; (with_reducible refine (diapauseref03_Digits.calls kj6 x5_2 t232 _ A14.out).mono ?_); rintro e w17 ⟨rfl, hb⟩; refine ⟨_, rfl, ?_⟩; have n0_ := Aside0.mk (below_step (by repeat (first | (with_reducible first | exact HB.out | apply below_alloc | apply pw_below_drewN | apply below_drew1) | exact HB.out)) hb); clear HB; have HB := n0_; clear n0_; (try clear hb); (try clear hb2); (try clear hk); (try clear hi)))
                            go_roundg kj6
                            case measure => have := HK1.out; have := HK2.out; have := HJ6.out; omega
                            case rel => exact ⟨(((x3_6 ++ t231) ++ (⟨#[45]⟩ : ByteArray)) ++ t232), (wrap64 (x5_2 + 1)), (by first | rfl | (simp; done) | (simp [*]; done)), (by first | rfl | (simp; done) | (simp [*]; done)), H', ⟨by have := HK1.out; have := HK2.out; have := HJ6.out; omega⟩, ⟨by repeat (first | (with_reducible first | exact HB.out | apply below_alloc | apply pw_below_drewN | apply below_drew1) | exact HB.out)⟩⟩
                          · rw [if_neg c15] at H
                            exact absurd H (by simp)
                        · rw [if_neg c13] at H
                          exact absurd H (by simp)
                      · rw [if_neg c12] at H
                        have c12b0 : decide (x4_1 < x5_2) = false := decide_eq_false c12
                        clear c12
                        have H' := Aside0.mk H
                        clear H
                        go_wp2_with (first | ((with_reducible refine gate_callee (f := 68) rfl ?_); refine goesL_ (some 27) rfl rfl Tryd.func68 (by kernel_rfl) rfl #[.int .i64 x4_1] rfl (by (try simp only [List.map_toArray, List.map_cons, List.map_nil]); first | done | rfl | (simp only [List.length_drop, List.length_take]; rfl)) ?_; (with_reducible refine (diapauseref03_Digits.calls kj6 x4_1 t231 _ A10.out).mono ?_); rintro e w18 ⟨rfl, hb⟩; refine ⟨_, rfl, ?_⟩; have n0_ := Aside0.mk (below_step (by repeat (first | (with_reducible first | exact HB.out | apply below_alloc | apply pw_below_drewN | apply below_drew1) | exact HB.out)) hb); clear HB; have HB := n0_; clear n0_; (try clear hb); (try clear hb2); (try clear hk); (try clear hi)))
                        go_roundg kj6
                        case measure => have := HK1.out; have := HK2.out; have := HJ6.out; omega
                        case rel => exact ⟨(x3_6 ++ t231), (wrap64 (x5_2 + 1)), (by first | rfl | (simp; done) | (simp [*]; done)), (by first | rfl | (simp; done) | (simp [*]; done)), H', ⟨by have := HK1.out; have := HK2.out; have := HJ6.out; omega⟩, ⟨by repeat (first | (with_reducible first | exact HB.out | apply below_alloc | apply pw_below_drewN | apply below_drew1) | exact HB.out)⟩⟩
                    · rw [if_neg c11] at H
                      exact absurd H (by simp)
        · replace c4 := Bool.eq_false_iff.mpr c4
          subst c4
          have H1 : (diapauseref03_Text.l0 k1 a0 x3_1 (wrap64 (x4_1 + 1))) = some r := by rw [if_neg (show ¬ (false = true) by decide)] at H; exact H
          clear H
          have H := H1
          clear H1
          have H' := Aside0.mk H
          clear H
          go_wp2_with (first | ((with_reducible refine gate_callee (f := 28) rfl ?_); refine goesL_ (some 10) rfl rfl Tryd.func28 (by kernel_rfl) rfl #[.int .u64 a0, .int .i64 x4_1] rfl (by (try simp only [List.map_toArray, List.map_cons, List.map_nil]); first | done | rfl | (simp only [List.length_drop, List.length_take]; rfl)) ?_; (with_reducible refine (diapauseref03_Has.calls k1 a0 x4_1 false _ A3.out).mono ?_); rintro e w' ⟨rfl, ⟨nd, rfl⟩⟩; refine ⟨_, rfl, ?_⟩))
          go_roundg k1
          case measure => have := HK1.out; omega
          case rel => exact ⟨(x3_1), (wrap64 (x4_1 + 1)), (by first | rfl | (simp; done) | (simp [*]; done)), (by first | rfl | (simp; done) | (simp [*]; done)), H', ⟨by have := HK1.out; omega⟩, ⟨by repeat (first | (with_reducible first | exact HB.out | apply below_alloc | apply pw_below_drewN | apply below_drew1) | exact HB.out)⟩⟩
      · rw [if_neg c2] at H
        have c2b0 : decide (x4_1 < 64) = false := decide_eq_false c2
        clear c2
        by_cases c19 : x3_1.toList = ([] : List UInt8)
        · rw [if_pos c19] at H
          have c19b0 : (x3_1.toList == ([] : List UInt8)) = true := beq_iff_eq.mpr c19
          have c19b1 : (x3_1.toList != ([] : List UInt8)) = false := bne_eq_false_iff_eq.mpr c19
          try have c19q : (x3_1.toList).isEmpty = true := List.isEmpty_iff.mpr c19
          (try rw [c19q])
          (try simp only [Bool.not_true, Bool.not_false])
          clear c19
          obtain rfl := Option.some.inj H
          go_wp2
          go_ret
          exact ⟨by first | rfl | (simp [errW_none, errW_some] <;> rfl) | (simp [*, errW_none, errW_some] <;> rfl), by repeat (first | (with_reducible first | exact HB.out | apply below_alloc | apply pw_below_drewN | apply below_drew1) | exact HB.out)⟩
        · rw [if_neg c19] at H
          have c19b0 : (x3_1.toList == ([] : List UInt8)) = false := beq_eq_false_iff_ne.mpr c19
          have c19b1 : (x3_1.toList != ([] : List UInt8)) = true := bne_iff_ne.mpr c19
          try have c19q : (x3_1.toList).isEmpty = false := List.isEmpty_eq_false_iff.mpr c19
          (try rw [c19q])
          (try simp only [Bool.not_true, Bool.not_false])
          obtain rfl := Option.some.inj H
          go_wp2
          go_ret
          exact ⟨by first | rfl | (simp [errW_none, errW_some] <;> rfl) | (simp [*, errW_none, errW_some] <;> rfl), by repeat (first | (with_reducible first | exact HB.out | apply below_alloc | apply pw_below_drewN | apply below_drew1) | exact HB.out)⟩

end Go.Proofs.YtgkmipfcadiobaaDoor.GM
