-- Written by a program of this session's (giv.py), which runs the kit's print with contracts of this claim's own for some functions.
import Derived.Test.YtgkmipfcadiobaaDoorGMx0
import Derived.Test.YtgkmipfcadiobaaDoorGMx4
import Derived.Test.YtgkmipfcadiobaaDoorGMx5
namespace Go.Proofs.YtgkmipfcadiobaaDoor.GM
open Go.Proofs.YtgkmipfcadiobaaDoor.Given Go.Proofs.YtgkmipfcadiobaaDoor Go.Proofs.YtgkmipfcadiobaaDoor.Pl Go.RowKit Go.Proofs.YtgkmipfcadiobaaDoorW.PrintWords Go.Proofs.YtgkmipfcadiobaaDoorW.PrintLast Go.Proofs.YtgkmipfcadiobaaDoorW.PrintMore
attribute [local go_sem] max2_int min2_int max_two min_two max_three min_three max_four min_four   -- for this text's walks alone
set_option linter.unusedVariables false
set_option linter.unusedSimpArgs false

/-! ### diapauseref03_Parse: function 40 -/
mutual
def diapauseref03_Parse.l0 : Nat → ByteArray → List Int → Int → Int → Int → Option (Int × Int)
  | 0, _, _, _, _, _ => none
  | k + 1, x0, x4, x5, x6, x7 => if x7 ≤ (x0.size : Int) then (if x7 < (x0.size : Int) then (if 0 ≤ x7 then (diapauseref03_Parse.j1 k x0 x4 x5 x6 x7 (bt x0 x7)) else (none)) else (diapauseref03_Parse.j1 k x0 x4 x5 x6 x7 44)) else (if x0.toList = ([45] : List UInt8) then (diapauseref03_Parse.j7 k x0 ([] : List Int)) else (diapauseref03_Parse.j7 k x0 x4))
def diapauseref03_Parse.j1 : Nat → ByteArray → List Int → Int → Int → Int → Int → Option (Int × Int)
  | 0, _, _, _, _, _, _ => none
  | k + 1, x0, x4, x5, x6, x7, x8 => if x8 ≥ 48 then (if x8 ≤ 57 then (diapauseref03_Parse.j2 k x0 x4 x5 x6 x7 x8 (decide (x5 < 100))) else (diapauseref03_Parse.j2 k x0 x4 x5 x6 x7 x8 false)) else (diapauseref03_Parse.j2 k x0 x4 x5 x6 x7 x8 false)
def diapauseref03_Parse.j2 : Nat → ByteArray → List Int → Int → Int → Int → Int → Bool → Option (Int × Int)
  | 0, _, _, _, _, _, _, _ => none
  | k + 1, x0, x4, x5, x6, x7, x8, x33 => if x33 = true then (diapauseref03_Parse.j3 k x0 x4 (wrap64 ((wrap64 (10 * x5)) + ((x8 - 48) % 256))) x6 x7 x8) else (diapauseref03_Parse.j3 k x0 x4 x5 x6 x7 x8)
def diapauseref03_Parse.j3 : Nat → ByteArray → List Int → Int → Int → Int → Int → Option (Int × Int)
  | 0, _, _, _, _, _, _ => none
  | k + 1, x0, x4, x5, x6, x7, x8 => if x8 = 45 then (diapauseref03_Parse.j4 k x0 x4 0 x5 x7 x8) else (diapauseref03_Parse.j4 k x0 x4 x5 x6 x7 x8)
def diapauseref03_Parse.j4 : Nat → ByteArray → List Int → Int → Int → Int → Int → Option (Int × Int)
  | 0, _, _, _, _, _, _ => none
  | k + 1, x0, x4, x5, x6, x7, x8 => if x8 = 44 then (if x6 < 0 then (diapauseref03_Parse.j5 k x0 x4 x5 x5 x7) else (diapauseref03_Parse.j5 k x0 x4 x5 x6 x7)) else (diapauseref03_Parse.l0 k x0 x4 x5 x6 (wrap64 (x7 + 1)))
def diapauseref03_Parse.j5 : Nat → ByteArray → List Int → Int → Int → Int → Option (Int × Int)
  | 0, _, _, _, _, _ => none
  | k + 1, x0, x4, x5, x6, x7 => diapauseref03_Parse.l1 k x0 x4 x5 x7 x6
def diapauseref03_Parse.l1 : Nat → ByteArray → List Int → Int → Int → Int → Option (Int × Int)
  | 0, _, _, _, _, _ => none
  | k + 1, x0, x4, x5, x7, x9 => if x9 ≤ x5 then (if x9 < 64 then (if x4.length < 17592186044416 then (diapauseref03_Parse.l1 k x0 (x4 ++ [x9]) x5 x7 (wrap64 (x9 + 1))) else (none)) else (diapauseref03_Parse.l0 k x0 x4 0 (-1) (wrap64 (x7 + 1)))) else (diapauseref03_Parse.l0 k x0 x4 0 (-1) (wrap64 (x7 + 1)))
def diapauseref03_Parse.j7 : Nat → ByteArray → List Int → Option (Int × Int)
  | 0, _, _ => none
  | k + 1, x0, x4 => (diapauseref03_Of.f k x4).bind fun t236 => ((diapauseref03_Text.f k t236).bind fun t237 => (if t237.toList = x0.toList then (some (t236, 0)) else (some (0, 5))))
end
def diapauseref03_Parse.f (k : Nat) (a0 : ByteArray) : Option (Int × Int) := diapauseref03_Parse.l0 k a0 ([] : List Int) 0 (-1) 0
theorem diapauseref03_Parse.mono_l : ∀ k, (∀ y0 y1 y2 y3 y4, LeO (diapauseref03_Parse.l0 k y0 y1 y2 y3 y4) (diapauseref03_Parse.l0 (k + 1) y0 y1 y2 y3 y4)) ∧ (∀ y0 y1 y2 y3 y4 y5, LeO (diapauseref03_Parse.j1 k y0 y1 y2 y3 y4 y5) (diapauseref03_Parse.j1 (k + 1) y0 y1 y2 y3 y4 y5)) ∧ (∀ y0 y1 y2 y3 y4 y5 y6, LeO (diapauseref03_Parse.j2 k y0 y1 y2 y3 y4 y5 y6) (diapauseref03_Parse.j2 (k + 1) y0 y1 y2 y3 y4 y5 y6)) ∧ (∀ y0 y1 y2 y3 y4 y5, LeO (diapauseref03_Parse.j3 k y0 y1 y2 y3 y4 y5) (diapauseref03_Parse.j3 (k + 1) y0 y1 y2 y3 y4 y5)) ∧ (∀ y0 y1 y2 y3 y4 y5, LeO (diapauseref03_Parse.j4 k y0 y1 y2 y3 y4 y5) (diapauseref03_Parse.j4 (k + 1) y0 y1 y2 y3 y4 y5)) ∧ (∀ y0 y1 y2 y3 y4, LeO (diapauseref03_Parse.j5 k y0 y1 y2 y3 y4) (diapauseref03_Parse.j5 (k + 1) y0 y1 y2 y3 y4)) ∧ (∀ y0 y1 y2 y3 y4, LeO (diapauseref03_Parse.l1 k y0 y1 y2 y3 y4) (diapauseref03_Parse.l1 (k + 1) y0 y1 y2 y3 y4)) ∧ (∀ y0 y1, LeO (diapauseref03_Parse.j7 k y0 y1) (diapauseref03_Parse.j7 (k + 1) y0 y1))
  | 0 => ⟨fun _ _ _ _ _ r h => by simp [diapauseref03_Parse.l0] at h, fun _ _ _ _ _ _ r h => by simp [diapauseref03_Parse.j1] at h, fun _ _ _ _ _ _ _ r h => by simp [diapauseref03_Parse.j2] at h, fun _ _ _ _ _ _ r h => by simp [diapauseref03_Parse.j3] at h, fun _ _ _ _ _ _ r h => by simp [diapauseref03_Parse.j4] at h, fun _ _ _ _ _ r h => by simp [diapauseref03_Parse.j5] at h, fun _ _ _ _ _ r h => by simp [diapauseref03_Parse.l1] at h, fun _ _ r h => by simp [diapauseref03_Parse.j7] at h⟩
  | k + 1 => by
    obtain ⟨ih0, ih1, ih2, ih3, ih4, ih5, ih6, ih7⟩ := diapauseref03_Parse.mono_l k
    refine ⟨?_, ?_, ?_, ?_, ?_, ?_, ?_, ?_⟩
    · intro y0 y1 y2 y3 y4
      unfold diapauseref03_Parse.l0
      repeat' first
      | (with_reducible exact ih0 _ _ _ _ _)
      | (with_reducible exact ih1 _ _ _ _ _ _)
      | (with_reducible exact ih2 _ _ _ _ _ _ _)
      | (with_reducible exact ih3 _ _ _ _ _ _)
      | (with_reducible exact ih4 _ _ _ _ _ _)
      | (with_reducible exact ih5 _ _ _ _ _)
      | (with_reducible exact ih6 _ _ _ _ _)
      | (with_reducible exact ih7 _ _)
      | (with_reducible exact diapauseref03_Of.mono _ _)
      | (with_reducible exact diapauseref03_Text.mono _ _)
      | (with_reducible exact LeO.refl _)
      | (with_reducible exact LeO.none _)
      | (with_reducible refine LeO.ite ?_ ?_)
      | (with_reducible refine LeO.bind ?_ (fun _ => ?_))
      | exact ih0 _ _ _ _ _
      | exact ih1 _ _ _ _ _ _
      | exact ih2 _ _ _ _ _ _ _
      | exact ih3 _ _ _ _ _ _
      | exact ih4 _ _ _ _ _ _
      | exact ih5 _ _ _ _ _
      | exact ih6 _ _ _ _ _
      | exact ih7 _ _
      | exact diapauseref03_Of.mono _ _
      | exact diapauseref03_Text.mono _ _
      | exact LeO.none _
      | refine LeO.ite ?_ ?_
      | refine LeO.bind ?_ (fun _ => ?_)
    · intro y0 y1 y2 y3 y4 y5
      unfold diapauseref03_Parse.j1
      repeat' first
      | (with_reducible exact ih0 _ _ _ _ _)
      | (with_reducible exact ih1 _ _ _ _ _ _)
      | (with_reducible exact ih2 _ _ _ _ _ _ _)
      | (with_reducible exact ih3 _ _ _ _ _ _)
      | (with_reducible exact ih4 _ _ _ _ _ _)
      | (with_reducible exact ih5 _ _ _ _ _)
      | (with_reducible exact ih6 _ _ _ _ _)
      | (with_reducible exact ih7 _ _)
      | (with_reducible exact diapauseref03_Of.mono _ _)
      | (with_reducible exact diapauseref03_Text.mono _ _)
      | (with_reducible exact LeO.refl _)
      | (with_reducible exact LeO.none _)
      | (with_reducible refine LeO.ite ?_ ?_)
      | (with_reducible refine LeO.bind ?_ (fun _ => ?_))
      | exact ih0 _ _ _ _ _
      | exact ih1 _ _ _ _ _ _
      | exact ih2 _ _ _ _ _ _ _
      | exact ih3 _ _ _ _ _ _
      | exact ih4 _ _ _ _ _ _
      | exact ih5 _ _ _ _ _
      | exact ih6 _ _ _ _ _
      | exact ih7 _ _
      | exact diapauseref03_Of.mono _ _
      | exact diapauseref03_Text.mono _ _
      | exact LeO.none _
      | refine LeO.ite ?_ ?_
      | refine LeO.bind ?_ (fun _ => ?_)
    · intro y0 y1 y2 y3 y4 y5 y6
      unfold diapauseref03_Parse.j2
      repeat' first
      | (with_reducible exact ih0 _ _ _ _ _)
      | (with_reducible exact ih1 _ _ _ _ _ _)
      | (with_reducible exact ih2 _ _ _ _ _ _ _)
      | (with_reducible exact ih3 _ _ _ _ _ _)
      | (with_reducible exact ih4 _ _ _ _ _ _)
      | (with_reducible exact ih5 _ _ _ _ _)
      | (with_reducible exact ih6 _ _ _ _ _)
      | (with_reducible exact ih7 _ _)
      | (with_reducible exact diapauseref03_Of.mono _ _)
      | (with_reducible exact diapauseref03_Text.mono _ _)
      | (with_reducible exact LeO.refl _)
      | (with_reducible exact LeO.none _)
      | (with_reducible refine LeO.ite ?_ ?_)
      | (with_reducible refine LeO.bind ?_ (fun _ => ?_))
      | exact ih0 _ _ _ _ _
      | exact ih1 _ _ _ _ _ _
      | exact ih2 _ _ _ _ _ _ _
      | exact ih3 _ _ _ _ _ _
      | exact ih4 _ _ _ _ _ _
      | exact ih5 _ _ _ _ _
      | exact ih6 _ _ _ _ _
      | exact ih7 _ _
      | exact diapauseref03_Of.mono _ _
      | exact diapauseref03_Text.mono _ _
      | exact LeO.none _
      | refine LeO.ite ?_ ?_
      | refine LeO.bind ?_ (fun _ => ?_)
    · intro y0 y1 y2 y3 y4 y5
      unfold diapauseref03_Parse.j3
      repeat' first
      | (with_reducible exact ih0 _ _ _ _ _)
      | (with_reducible exact ih1 _ _ _ _ _ _)
      | (with_reducible exact ih2 _ _ _ _ _ _ _)
      | (with_reducible exact ih3 _ _ _ _ _ _)
      | (with_reducible exact ih4 _ _ _ _ _ _)
      | (with_reducible exact ih5 _ _ _ _ _)
      | (with_reducible exact ih6 _ _ _ _ _)
      | (with_reducible exact ih7 _ _)
      | (with_reducible exact diapauseref03_Of.mono _ _)
      | (with_reducible exact diapauseref03_Text.mono _ _)
      | (with_reducible exact LeO.refl _)
      | (with_reducible exact LeO.none _)
      | (with_reducible refine LeO.ite ?_ ?_)
      | (with_reducible refine LeO.bind ?_ (fun _ => ?_))
      | exact ih0 _ _ _ _ _
      | exact ih1 _ _ _ _ _ _
      | exact ih2 _ _ _ _ _ _ _
      | exact ih3 _ _ _ _ _ _
      | exact ih4 _ _ _ _ _ _
      | exact ih5 _ _ _ _ _
      | exact ih6 _ _ _ _ _
      | exact ih7 _ _
      | exact diapauseref03_Of.mono _ _
      | exact diapauseref03_Text.mono _ _
      | exact LeO.none _
      | refine LeO.ite ?_ ?_
      | refine LeO.bind ?_ (fun _ => ?_)
    · intro y0 y1 y2 y3 y4 y5
      unfold diapauseref03_Parse.j4
      repeat' first
      | (with_reducible exact ih0 _ _ _ _ _)
      | (with_reducible exact ih1 _ _ _ _ _ _)
      | (with_reducible exact ih2 _ _ _ _ _ _ _)
      | (with_reducible exact ih3 _ _ _ _ _ _)
      | (with_reducible exact ih4 _ _ _ _ _ _)
      | (with_reducible exact ih5 _ _ _ _ _)
      | (with_reducible exact ih6 _ _ _ _ _)
      | (with_reducible exact ih7 _ _)
      | (with_reducible exact diapauseref03_Of.mono _ _)
      | (with_reducible exact diapauseref03_Text.mono _ _)
      | (with_reducible exact LeO.refl _)
      | (with_reducible exact LeO.none _)
      | (with_reducible refine LeO.ite ?_ ?_)
      | (with_reducible refine LeO.bind ?_ (fun _ => ?_))
      | exact ih0 _ _ _ _ _
      | exact ih1 _ _ _ _ _ _
      | exact ih2 _ _ _ _ _ _ _
      | exact ih3 _ _ _ _ _ _
      | exact ih4 _ _ _ _ _ _
      | exact ih5 _ _ _ _ _
      | exact ih6 _ _ _ _ _
      | exact ih7 _ _
      | exact diapauseref03_Of.mono _ _
      | exact diapauseref03_Text.mono _ _
      | exact LeO.none _
      | refine LeO.ite ?_ ?_
      | refine LeO.bind ?_ (fun _ => ?_)
    · intro y0 y1 y2 y3 y4
      unfold diapauseref03_Parse.j5
      repeat' first
      | (with_reducible exact ih0 _ _ _ _ _)
      | (with_reducible exact ih1 _ _ _ _ _ _)
      | (with_reducible exact ih2 _ _ _ _ _ _ _)
      | (with_reducible exact ih3 _ _ _ _ _ _)
      | (with_reducible exact ih4 _ _ _ _ _ _)
      | (with_reducible exact ih5 _ _ _ _ _)
      | (with_reducible exact ih6 _ _ _ _ _)
      | (with_reducible exact ih7 _ _)
      | (with_reducible exact diapauseref03_Of.mono _ _)
      | (with_reducible exact diapauseref03_Text.mono _ _)
      | (with_reducible exact LeO.refl _)
      | (with_reducible exact LeO.none _)
      | (with_reducible refine LeO.ite ?_ ?_)
      | (with_reducible refine LeO.bind ?_ (fun _ => ?_))
      | exact ih0 _ _ _ _ _
      | exact ih1 _ _ _ _ _ _
      | exact ih2 _ _ _ _ _ _ _
      | exact ih3 _ _ _ _ _ _
      | exact ih4 _ _ _ _ _ _
      | exact ih5 _ _ _ _ _
      | exact ih6 _ _ _ _ _
      | exact ih7 _ _
      | exact diapauseref03_Of.mono _ _
      | exact diapauseref03_Text.mono _ _
      | exact LeO.none _
      | refine LeO.ite ?_ ?_
      | refine LeO.bind ?_ (fun _ => ?_)
    · intro y0 y1 y2 y3 y4
      unfold diapauseref03_Parse.l1
      repeat' first
      | (with_reducible exact ih0 _ _ _ _ _)
      | (with_reducible exact ih1 _ _ _ _ _ _)
      | (with_reducible exact ih2 _ _ _ _ _ _ _)
      | (with_reducible exact ih3 _ _ _ _ _ _)
      | (with_reducible exact ih4 _ _ _ _ _ _)
      | (with_reducible exact ih5 _ _ _ _ _)
      | (with_reducible exact ih6 _ _ _ _ _)
      | (with_reducible exact ih7 _ _)
      | (with_reducible exact diapauseref03_Of.mono _ _)
      | (with_reducible exact diapauseref03_Text.mono _ _)
      | (with_reducible exact LeO.refl _)
      | (with_reducible exact LeO.none _)
      | (with_reducible refine LeO.ite ?_ ?_)
      | (with_reducible refine LeO.bind ?_ (fun _ => ?_))
      | exact ih0 _ _ _ _ _
      | exact ih1 _ _ _ _ _ _
      | exact ih2 _ _ _ _ _ _ _
      | exact ih3 _ _ _ _ _ _
      | exact ih4 _ _ _ _ _ _
      | exact ih5 _ _ _ _ _
      | exact ih6 _ _ _ _ _
      | exact ih7 _ _
      | exact diapauseref03_Of.mono _ _
      | exact diapauseref03_Text.mono _ _
      | exact LeO.none _
      | refine LeO.ite ?_ ?_
      | refine LeO.bind ?_ (fun _ => ?_)
    · intro y0 y1
      unfold diapauseref03_Parse.j7
      repeat' first
      | (with_reducible exact ih0 _ _ _ _ _)
      | (with_reducible exact ih1 _ _ _ _ _ _)
      | (with_reducible exact ih2 _ _ _ _ _ _ _)
      | (with_reducible exact ih3 _ _ _ _ _ _)
      | (with_reducible exact ih4 _ _ _ _ _ _)
      | (with_reducible exact ih5 _ _ _ _ _)
      | (with_reducible exact ih6 _ _ _ _ _)
      | (with_reducible exact ih7 _ _)
      | (with_reducible exact diapauseref03_Of.mono _ _)
      | (with_reducible exact diapauseref03_Text.mono _ _)
      | (with_reducible exact LeO.refl _)
      | (with_reducible exact LeO.none _)
      | (with_reducible refine LeO.ite ?_ ?_)
      | (with_reducible refine LeO.bind ?_ (fun _ => ?_))
      | exact ih0 _ _ _ _ _
      | exact ih1 _ _ _ _ _ _
      | exact ih2 _ _ _ _ _ _ _
      | exact ih3 _ _ _ _ _ _
      | exact ih4 _ _ _ _ _ _
      | exact ih5 _ _ _ _ _
      | exact ih6 _ _ _ _ _
      | exact ih7 _ _
      | exact diapauseref03_Of.mono _ _
      | exact diapauseref03_Text.mono _ _
      | exact LeO.none _
      | refine LeO.ite ?_ ?_
      | refine LeO.bind ?_ (fun _ => ?_)
theorem diapauseref03_Parse.mono : ∀ a0 k, LeO (diapauseref03_Parse.f k a0) (diapauseref03_Parse.f (k + 1) a0) := by
  intro a0 k
  obtain ⟨ih0, ih1, ih2, ih3, ih4, ih5, ih6, ih7⟩ := diapauseref03_Parse.mono_l k
  unfold diapauseref03_Parse.f
  repeat' first
      | (with_reducible exact ih0 _ _ _ _ _)
      | (with_reducible exact ih1 _ _ _ _ _ _)
      | (with_reducible exact ih2 _ _ _ _ _ _ _)
      | (with_reducible exact ih3 _ _ _ _ _ _)
      | (with_reducible exact ih4 _ _ _ _ _ _)
      | (with_reducible exact ih5 _ _ _ _ _)
      | (with_reducible exact ih6 _ _ _ _ _)
      | (with_reducible exact ih7 _ _)
      | (with_reducible exact diapauseref03_Of.mono _ _)
      | (with_reducible exact diapauseref03_Text.mono _ _)
      | (with_reducible exact LeO.refl _)
      | (with_reducible exact LeO.none _)
      | (with_reducible refine LeO.ite ?_ ?_)
      | (with_reducible refine LeO.bind ?_ (fun _ => ?_))
      | exact ih0 _ _ _ _ _
      | exact ih1 _ _ _ _ _ _
      | exact ih2 _ _ _ _ _ _ _
      | exact ih3 _ _ _ _ _ _
      | exact ih4 _ _ _ _ _ _
      | exact ih5 _ _ _ _ _
      | exact ih6 _ _ _ _ _
      | exact ih7 _ _
      | exact diapauseref03_Of.mono _ _
      | exact diapauseref03_Text.mono _ _
      | exact LeO.none _
      | refine LeO.ite ?_ ?_
      | refine LeO.bind ?_ (fun _ => ?_)
set_option maxHeartbeats 8000000 in
set_option maxRecDepth 100000 in
theorem diapauseref03_Parse.calls (k : Nat) (a0 : ByteArray) (r1 : Int) (r2 : Int) (w : World) (h : diapauseref03_Parse.f k a0 = some (r1, r2)) :
    Calls Tryd.prog 40 #[.string a0] w fun e w' => e = .returned (.tuple #[.int .u64 r1, .int .i64 r2]) ∧ Below w.heap.size w w' := by
  have HB := Aside0.mk (Below.refl w.heap.size w)
  have H : (diapauseref03_Parse.l0 k a0 ([] : List Int) 0 (-1) 0) = some (r1, r2) := h
  clear h
  have H' := Aside0.mk H
  clear H
  go_enter Tryd.func40, Tryd.ntmps40
  go_wp2
  go_loopg [4, 5, 6, 7] k (fun kq v4 v5 v6 v7 w' => ∃ (x4_1 : List Int) (x5_1 : Int) (x6_1 : Int) (x7_1 : Int), v5 = .int .i64 x5_1 ∧ v6 = .int .i64 x6_1 ∧ v7 = .int .i64 x7_1 ∧ Aside0 (diapauseref03_Parse.l0 kq a0 x4_1 x5_1 x6_1 x7_1 = some (r1, r2)) ∧ Aside0 (kq ≤ k) ∧ Aside0 (Kd.R (Kd.int .i64) 3 w' w.heap.size (fun _ => True) v4 x4_1) ∧ Aside0 (Below w.heap.size w w'))
  case atStart => exact ⟨(([] : List Int)), (0), ((-1)), (0), (by first | rfl | (simp; done) | (simp [*]; done)), (by first | rfl | (simp; done) | (simp [*]; done)), (by first | rfl | (simp; done) | (simp [*]; done)), H', ⟨Nat.le_refl _⟩, ⟨by first | exact Kd.R_nil _ _ _ _ _ | exact Kd.N_nil _ _ _ _ _ | exact Kd.V_nil _ _ _ _ _ | exact Kd.Q_nil _ _ _ _ _ | exact Kd.S_nil _ _ _ _ _⟩, ⟨by repeat (first | (with_reducible first | exact HB.out | apply below_alloc | apply pw_below_drewN | apply below_drew1) | exact HB.out)⟩⟩
  case round =>
    clear H'
    obtain ⟨x4_1, x5_1, x6_1, x7_1, rfl, rfl, rfl, HA, HK1, HO_4, HB⟩ := hrel
    cases gk with
    | zero => exact absurd HA.out (by simp [diapauseref03_Parse.l0])
    | succ k1 =>
      have H := HA.out
      clear HA
      simp only [diapauseref03_Parse.l0] at H
      by_cases c2 : x7_1 ≤ (a0.size : Int)
      · rw [if_pos c2] at H
        have c2b0 : decide (x7_1 ≤ (a0.size : Int)) = true := decide_eq_true c2
        clear c2
        have HC3 := Aside0.mk H
        clear H
        go_upto_if 20 with (fail)
        go_cut [8] (fun v8 wc => ∃ (kq : Nat) (x8_2 : Int), v8 = .int .u8 x8_2 ∧ Aside0 (diapauseref03_Parse.j1 kq a0 x4_1 x5_1 x6_1 x7_1 x8_2 = some (r1, r2)) ∧ Aside0 (kq ≤ k1) ∧ Aside0 (Kd.R (Kd.int .i64) 3 wc w.heap.size (fun _ => True) u4 x4_1) ∧ Aside0 (Below w.heap.size w wc))
        case first =>
          have H := HC3.out
          clear HC3
          by_cases c4 : x7_1 < (a0.size : Int)
          · rw [if_pos c4] at H
            have c4b0 : decide (x7_1 < (a0.size : Int)) = true := decide_eq_true c4
            clear c4
            (first | rw [c4b0] | (simp only [i64_w, i32_w]; rw [c4b0]) | skip)
            by_cases c5 : 0 ≤ x7_1
            · rw [if_pos c5] at H
              have c5b0 : decide (0 ≤ x7_1) = true := decide_eq_true c5
              clear c5
              have H' := Aside0.mk H
              clear H
              have p6 : 0 ≤ (x7_1 : Int) := of_decide_eq_true (by first | (with_reducible assumption) | assumption)
              have q6 : x7_1 < (a0.size : Int) := of_decide_eq_true (by first | (with_reducible assumption) | assumption)
              have hx6 := bt_at a0 x7_1
              replace p6 := eq_true p6
              replace q6 := eq_true q6
              go_wp2
              go_meet
              case rel => exact ⟨_, (bt a0 x7_1), (by first | rfl | (simp; done) | (simp [*]; done)), H', ⟨by have := HK1.out; first | omega | exact Nat.le_refl _⟩, ⟨by (with_reducible repeat (first | apply Kd.R_alloc | apply Kd.R_drewN | apply Kd.R_drew)); exact HO_4.out⟩, ⟨by repeat (first | (with_reducible first | exact HB.out | apply below_alloc | apply pw_below_drewN | apply below_drew1) | exact HB.out)⟩⟩
            · rw [if_neg c5] at H
              exact absurd H (by simp)
          · rw [if_neg c4] at H
            have c4b0 : decide (x7_1 < (a0.size : Int)) = false := decide_eq_false c4
            clear c4
            (first | rw [c4b0] | (simp only [i64_w, i32_w]; rw [c4b0]) | skip)
            have H' := Aside0.mk H
            clear H
            go_wp2
            go_meet
            case rel => exact ⟨_, (44), (by first | rfl | (simp; done) | (simp [*]; done)), H', ⟨by have := HK1.out; first | omega | exact Nat.le_refl _⟩, ⟨by (with_reducible repeat (first | apply Kd.R_alloc | apply Kd.R_drewN | apply Kd.R_drew)); exact HO_4.out⟩, ⟨by repeat (first | (with_reducible first | exact HB.out | apply below_alloc | apply pw_below_drewN | apply below_drew1) | exact HB.out)⟩⟩
        case rest =>
          clear HC3
          try clear c2
          try clear c2b0
          try clear p2
          try clear c4
          try clear c4b0
          try clear c5
          try clear c5b0
          try clear p6
          try clear q6
          try clear hx6
          try clear p6
          try clear q6
          obtain ⟨kq, x8_2, rfl, HA, HJ2, HO_4, HB⟩ := hcut
          cases kq with
          | zero => exact absurd HA.out (by simp [diapauseref03_Parse.j1])
          | succ kj2 =>
            have H := HA.out
            clear HA
            simp only [diapauseref03_Parse.j1] at H
            have HC7 := Aside0.mk H
            clear H
            go_upto_region 10 with (fail)
            go_cut [33] (fun v33 wc => ∃ (kq : Nat) (x33_6 : Bool), v33 = .bool x33_6 ∧ Aside0 (diapauseref03_Parse.j2 kq a0 x4_1 x5_1 x6_1 x7_1 x8_2 x33_6 = some (r1, r2)) ∧ Aside0 (kq ≤ kj2) ∧ Aside0 (Kd.R (Kd.int .i64) 3 wc w.heap.size (fun _ => True) u4 x4_1) ∧ Aside0 (Below w.heap.size w wc))
            case first =>
              have H := HC7.out
              clear HC7
              by_cases c8 : x8_2 ≥ 48
              · rw [if_pos c8] at H
                have c8b0 : decide (48 ≤ x8_2) = true := decide_eq_true c8
                clear c8
                (first | rw [c8b0] | (simp only [i64_w, i32_w]; rw [c8b0]) | skip)
                by_cases c9 : x8_2 ≤ 57
                · rw [if_pos c9] at H
                  have c9b0 : decide (x8_2 ≤ 57) = true := decide_eq_true c9
                  clear c9
                  have H' := Aside0.mk H
                  clear H
                  go_wp2
                  go_meet
                  case rel => exact ⟨_, (decide (x5_1 < 100)), (by first | rfl | (simp; done) | (simp [*]; done)), H', ⟨by have := HK1.out; have := HJ2.out; first | omega | exact Nat.le_refl _⟩, ⟨by (with_reducible repeat (first | apply Kd.R_alloc | apply Kd.R_drewN | apply Kd.R_drew)); exact HO_4.out⟩, ⟨by repeat (first | (with_reducible first | exact HB.out | apply below_alloc | apply pw_below_drewN | apply below_drew1) | exact HB.out)⟩⟩
                · rw [if_neg c9] at H
                  have c9b0 : decide (x8_2 ≤ 57) = false := decide_eq_false c9
                  clear c9
                  have H' := Aside0.mk H
                  clear H
                  go_wp2
                  go_meet
                  case rel => exact ⟨_, (false), (by first | rfl | (simp; done) | (simp [*]; done)), H', ⟨by have := HK1.out; have := HJ2.out; first | omega | exact Nat.le_refl _⟩, ⟨by (with_reducible repeat (first | apply Kd.R_alloc | apply Kd.R_drewN | apply Kd.R_drew)); exact HO_4.out⟩, ⟨by repeat (first | (with_reducible first | exact HB.out | apply below_alloc | apply pw_below_drewN | apply below_drew1) | exact HB.out)⟩⟩
              · rw [if_neg c8] at H
                have c8b0 : decide (48 ≤ x8_2) = false := decide_eq_false c8
                clear c8
                (first | rw [c8b0] | (simp only [i64_w, i32_w]; rw [c8b0]) | skip)
                have H' := Aside0.mk H
                clear H
                go_wp2
                go_meet
                case rel => exact ⟨_, (false), (by first | rfl | (simp; done) | (simp [*]; done)), H', ⟨by have := HK1.out; have := HJ2.out; first | omega | exact Nat.le_refl _⟩, ⟨by (with_reducible repeat (first | apply Kd.R_alloc | apply Kd.R_drewN | apply Kd.R_drew)); exact HO_4.out⟩, ⟨by repeat (first | (with_reducible first | exact HB.out | apply below_alloc | apply pw_below_drewN | apply below_drew1) | exact HB.out)⟩⟩
            case rest =>
              clear HC7
              try clear c2
              try clear c2b0
              try clear p2
              try clear c4
              try clear c4b0
              try clear c5
              try clear c5b0
              try clear p6
              try clear q6
              try clear hx6
              try clear c8
              try clear c8b0
              try clear c9
              try clear c9b0
              try clear p2
              try clear p6
              try clear q6
              obtain ⟨kq, x33_6, rfl, HA, HJ6, HO_4, HB⟩ := hcut
              cases kq with
              | zero => exact absurd HA.out (by simp [diapauseref03_Parse.j2])
              | succ kj6 =>
                have H := HA.out
                clear HA
                simp only [diapauseref03_Parse.j2] at H
                have HC10 := Aside0.mk H
                clear H
                go_upto_if 33 with (fail)
                go_cut [5] (fun v5 wc => ∃ (kq : Nat) (x5_9 : Int), v5 = .int .i64 x5_9 ∧ Aside0 (diapauseref03_Parse.j3 kq a0 x4_1 x5_9 x6_1 x7_1 x8_2 = some (r1, r2)) ∧ Aside0 (kq ≤ kj6) ∧ Aside0 (Kd.R (Kd.int .i64) 3 wc w.heap.size (fun _ => True) u4 x4_1) ∧ Aside0 (Below w.heap.size w wc))
                case first =>
                  have H := HC10.out
                  clear HC10
                  by_cases c11 : x33_6 = true
                  · subst c11
                    have H1 : (diapauseref03_Parse.j3 kj6 a0 x4_1 (wrap64 ((wrap64 (10 * x5_1)) + ((x8_2 - 48) % 256))) x6_1 x7_1 x8_2) = some (r1, r2) := by rw [if_pos rfl] at H; exact H
                    clear H
                    have H := H1
                    clear H1
                    have H' := Aside0.mk H
                    clear H
                    go_wp2
                    go_meet
                    case rel => exact ⟨_, (wrap64 ((wrap64 (10 * x5_1)) + ((x8_2 - 48) % 256))), (by first | rfl | (simp; done) | (simp [*]; done)), H', ⟨by have := HK1.out; have := HJ2.out; have := HJ6.out; first | omega | exact Nat.le_refl _⟩, ⟨by (with_reducible repeat (first | apply Kd.R_alloc | apply Kd.R_drewN | apply Kd.R_drew)); exact HO_4.out⟩, ⟨by repeat (first | (with_reducible first | exact HB.out | apply below_alloc | apply pw_below_drewN | apply below_drew1) | exact HB.out)⟩⟩
                  · replace c11 := Bool.eq_false_iff.mpr c11
                    subst c11
                    have H1 : (diapauseref03_Parse.j3 kj6 a0 x4_1 x5_1 x6_1 x7_1 x8_2) = some (r1, r2) := by rw [if_neg (show ¬ (false = true) by decide)] at H; exact H
                    clear H
                    have H := H1
                    clear H1
                    have H' := Aside0.mk H
                    clear H
                    go_wp2
                    go_meet
                    case rel => exact ⟨_, (x5_1), (by first | rfl | (simp; done) | (simp [*]; done)), H', ⟨by have := HK1.out; have := HJ2.out; have := HJ6.out; first | omega | exact Nat.le_refl _⟩, ⟨by (with_reducible repeat (first | apply Kd.R_alloc | apply Kd.R_drewN | apply Kd.R_drew)); exact HO_4.out⟩, ⟨by repeat (first | (with_reducible first | exact HB.out | apply below_alloc | apply pw_below_drewN | apply below_drew1) | exact HB.out)⟩⟩
                case rest =>
                  clear HC10
                  try clear c1
                  try clear c2
                  try clear c2b0
                  try clear p2
                  try clear c4
                  try clear c4b0
                  try clear c5
                  try clear c5b0
                  try clear p6
                  try clear q6
                  try clear hx6
                  try clear c8
                  try clear c8b0
                  try clear c9
                  try clear c9b0
                  try clear c11
                  try clear p2
                  try clear p6
                  try clear q6
                  obtain ⟨kq, x5_9, rfl, HA, HJ9, HO_4, HB⟩ := hcut
                  cases kq with
                  | zero => exact absurd HA.out (by simp [diapauseref03_Parse.j3])
                  | succ kj9 =>
                    have H := HA.out
                    clear HA
                    simp only [diapauseref03_Parse.j3] at H
                    have HC12 := Aside0.mk H
                    clear H
                    go_upto_if 41 with (fail)
                    go_cut [5, 6] (fun v5 v6 wc => ∃ (kq : Nat) (x5_11 : Int) (x6_11 : Int), v5 = .int .i64 x5_11 ∧ v6 = .int .i64 x6_11 ∧ Aside0 (diapauseref03_Parse.j4 kq a0 x4_1 x5_11 x6_11 x7_1 x8_2 = some (r1, r2)) ∧ Aside0 (kq ≤ kj9) ∧ Aside0 (Kd.R (Kd.int .i64) 3 wc w.heap.size (fun _ => True) u4 x4_1) ∧ Aside0 (Below w.heap.size w wc))
                    case first =>
                      have H := HC12.out
                      clear HC12
                      by_cases c13 : x8_2 = 45
                      · rw [if_pos c13] at H
                        have c13b0 : (x8_2 == 45) = true := beq_iff_eq.mpr c13
                        have c13b1 : (x8_2 != 45) = false := bne_eq_false_iff_eq.mpr c13
                        clear c13
                        (first | rw [c13b0] | (simp only [i64_w, i32_w]; rw [c13b0]) | skip)
                        have H' := Aside0.mk H
                        clear H
                        go_wp2
                        go_meet
                        case rel => exact ⟨_, (0), (x5_9), (by first | rfl | (simp; done) | (simp [*]; done)), (by first | rfl | (simp; done) | (simp [*]; done)), H', ⟨by have := HK1.out; have := HJ2.out; have := HJ6.out; have := HJ9.out; first | omega | exact Nat.le_refl _⟩, ⟨by (with_reducible repeat (first | apply Kd.R_alloc | apply Kd.R_drewN | apply Kd.R_drew)); exact HO_4.out⟩, ⟨by repeat (first | (with_reducible first | exact HB.out | apply below_alloc | apply pw_below_drewN | apply below_drew1) | exact HB.out)⟩⟩
                      · rw [if_neg c13] at H
                        have c13b0 : (x8_2 == 45) = false := beq_eq_false_iff_ne.mpr c13
                        have c13b1 : (x8_2 != 45) = true := bne_iff_ne.mpr c13
                        (first | rw [c13b0] | (simp only [i64_w, i32_w]; rw [c13b0]) | skip)
                        have H' := Aside0.mk H
                        clear H
                        go_wp2
                        go_meet
                        case rel => exact ⟨_, (x5_9), (x6_1), (by first | rfl | (simp; done) | (simp [*]; done)), (by first | rfl | (simp; done) | (simp [*]; done)), H', ⟨by have := HK1.out; have := HJ2.out; have := HJ6.out; have := HJ9.out; first | omega | exact Nat.le_refl _⟩, ⟨by (with_reducible repeat (first | apply Kd.R_alloc | apply Kd.R_drewN | apply Kd.R_drew)); exact HO_4.out⟩, ⟨by repeat (first | (with_reducible first | exact HB.out | apply below_alloc | apply pw_below_drewN | apply below_drew1) | exact HB.out)⟩⟩
                    case rest =>
                      clear HC12
                      try clear c1
                      try clear c2
                      try clear c2b0
                      try clear p2
                      try clear c4
                      try clear c4b0
                      try clear c5
                      try clear c5b0
                      try clear p6
                      try clear q6
                      try clear hx6
                      try clear c8
                      try clear c8b0
                      try clear c9
                      try clear c9b0
                      try clear c11
                      try clear c13
                      try clear c13b0
                      try clear c13b1
                      try clear p2
                      try clear p6
                      try clear q6
                      obtain ⟨kq, x5_11, x6_11, rfl, rfl, HA, HJ11, HO_4, HB⟩ := hcut
                      cases kq with
                      | zero => exact absurd HA.out (by simp [diapauseref03_Parse.j4])
                      | succ kj11 =>
                        have H := HA.out
                        clear HA
                        simp only [diapauseref03_Parse.j4] at H
                        by_cases c14 : x8_2 = 44
                        · rw [if_pos c14] at H
                          have c14b0 : (x8_2 == 44) = true := beq_iff_eq.mpr c14
                          have c14b1 : (x8_2 != 44) = false := bne_eq_false_iff_eq.mpr c14
                          clear c14
                          have HC15 := Aside0.mk H
                          clear H
                          go_upto_if 46 with (fail)
                          go_cut [6] (fun v6 wc => ∃ (kq : Nat) (x6_14 : Int), v6 = .int .i64 x6_14 ∧ Aside0 (diapauseref03_Parse.j5 kq a0 x4_1 x5_11 x6_14 x7_1 = some (r1, r2)) ∧ Aside0 (kq ≤ kj11) ∧ Aside0 (Kd.R (Kd.int .i64) 3 wc w.heap.size (fun _ => True) u4 x4_1) ∧ Aside0 (Below w.heap.size w wc))
                          case first =>
                            have H := HC15.out
                            clear HC15
                            by_cases c16 : x6_11 < 0
                            · rw [if_pos c16] at H
                              have c16b0 : decide (x6_11 < 0) = true := decide_eq_true c16
                              clear c16
                              (first | rw [c16b0] | (simp only [i64_w, i32_w]; rw [c16b0]) | skip)
                              have H' := Aside0.mk H
                              clear H
                              go_wp2
                              go_meet
                              case rel => exact ⟨_, (x5_11), (by first | rfl | (simp; done) | (simp [*]; done)), H', ⟨by have := HK1.out; have := HJ2.out; have := HJ6.out; have := HJ9.out; have := HJ11.out; first | omega | exact Nat.le_refl _⟩, ⟨by (with_reducible repeat (first | apply Kd.R_alloc | apply Kd.R_drewN | apply Kd.R_drew)); exact HO_4.out⟩, ⟨by repeat (first | (with_reducible first | exact HB.out | apply below_alloc | apply pw_below_drewN | apply below_drew1) | exact HB.out)⟩⟩
                            · rw [if_neg c16] at H
                              have c16b0 : decide (x6_11 < 0) = false := decide_eq_false c16
                              clear c16
                              (first | rw [c16b0] | (simp only [i64_w, i32_w]; rw [c16b0]) | skip)
                              have H' := Aside0.mk H
                              clear H
                              go_wp2
                              go_meet
                              case rel => exact ⟨_, (x6_11), (by first | rfl | (simp; done) | (simp [*]; done)), H', ⟨by have := HK1.out; have := HJ2.out; have := HJ6.out; have := HJ9.out; have := HJ11.out; first | omega | exact Nat.le_refl _⟩, ⟨by (with_reducible repeat (first | apply Kd.R_alloc | apply Kd.R_drewN | apply Kd.R_drew)); exact HO_4.out⟩, ⟨by repeat (first | (with_reducible first | exact HB.out | apply below_alloc | apply pw_below_drewN | apply below_drew1) | exact HB.out)⟩⟩
                          case rest =>
                            clear HC15
                            try clear c1
                            try clear c2
                            try clear c2b0
                            try clear p2
                            try clear c4
                            try clear c4b0
                            try clear c5
                            try clear c5b0
                            try clear p6
                            try clear q6
                            try clear hx6
                            try clear c8
                            try clear c8b0
                            try clear c9
                            try clear c9b0
                            try clear c11
                            try clear c13
                            try clear c13b0
                            try clear c13b1
                            try clear c14
                            try clear c14b0
                            try clear c14b1
                            try clear c16
                            try clear c16b0
                            try clear p2
                            try clear p6
                            try clear q6
                            obtain ⟨kq, x6_14, rfl, HA, HJ14, HO_4, HB⟩ := hcut
                            cases kq with
                            | zero => exact absurd HA.out (by simp [diapauseref03_Parse.j5])
                            | succ kj14 =>
                              have H := HA.out
                              clear HA
                              simp only [diapauseref03_Parse.j5] at H
                              have H' := Aside0.mk H
                              clear H
                              go_wp2
                              go_loopg [4, 9] kj14 (fun kq v4 v9 w' => ∃ (x4_7 : List Int) (x9_7 : Int), v9 = .int .i64 x9_7 ∧ Aside0 (diapauseref03_Parse.l1 kq a0 x4_7 x5_11 x7_1 x9_7 = some (r1, r2)) ∧ Aside0 (kq ≤ kj14) ∧ Aside0 (Kd.R (Kd.int .i64) 3 w' w.heap.size (fun _ => True) v4 x4_7) ∧ Aside0 (Below w.heap.size w w'))
                              case atStart => exact ⟨(x4_1), (x6_14), (by first | rfl | (simp; done) | (simp [*]; done)), H', ⟨Nat.le_refl _⟩, ⟨by (with_reducible repeat (first | apply Kd.R_alloc | apply Kd.R_drewN | apply Kd.R_drew)); exact HO_4.out⟩, ⟨by repeat (first | (with_reducible first | exact HB.out | apply below_alloc | apply pw_below_drewN | apply below_drew1) | exact HB.out)⟩⟩
                              case round =>
                                clear H'
                                try clear c1
                                try clear c2
                                try clear c2b0
                                try clear p2
                                try clear c4
                                try clear c4b0
                                try clear c5
                                try clear c5b0
                                try clear p6
                                try clear q6
                                try clear hx6
                                try clear c8
                                try clear c8b0
                                try clear c9
                                try clear c9b0
                                try clear c11
                                try clear c13
                                try clear c13b0
                                try clear c13b1
                                try clear c14
                                try clear c14b0
                                try clear c14b1
                                try clear c16
                                try clear c16b0
                                try clear p2
                                try clear p6
                                try clear q6
                                obtain ⟨x4_7, x9_7, rfl, HA, HK7, HO_4, HB⟩ := hrel
                                cases gk with
                                | zero => exact absurd HA.out (by simp [diapauseref03_Parse.l1])
                                | succ k7 =>
                                  have H := HA.out
                                  clear HA
                                  simp only [diapauseref03_Parse.l1] at H
                                  by_cases c17 : x9_7 ≤ x5_11
                                  · rw [if_pos c17] at H
                                    have c17b0 : decide (x9_7 ≤ x5_11) = true := decide_eq_true c17
                                    clear c17
                                    by_cases c18 : x9_7 < 64
                                    · rw [if_pos c18] at H
                                      have c18b0 : decide (x9_7 < 64) = true := decide_eq_true c18
                                      clear c18
                                      by_cases c19 : x4_7.length < 17592186044416
                                      · rw [if_pos c19] at H
                                        have LMc19 := Aside0.mk c19
                                        clear c19
                                        obtain ⟨y233, hy233⟩ : ∃ y_ : List Int, y_ = (x4_7 ++ [x9_7]) := ⟨_, rfl⟩
                                        replace H : (diapauseref03_Parse.l1 k7 a0 y233 x5_11 x7_1 (wrap64 (x9_7 + 1))) = some (r1, r2) := by first | (rw [hy233]; with_reducible exact H) | (have H2_ := (Option.bind_some _ _).symm.trans H; rw [hy233]; with_reducible exact H2_) | (have H2_ := (Option.bind_some _ _).symm.trans H; with_reducible exact H2_) | with_reducible exact H | (rw [hy233]; exact H) | exact H
                                        have Ny233 := Aside0.mk hy233
                                        clear hy233
                                        have H' := Aside0.mk H
                                        clear H
                                        go_wp2_with (first | ((with_reducible refine gate_builtin (b := .append) (xs := #[.tmp 58, .tmp 60]) rfl ?_); at_builtin; refine Kd.R_append (Kd.int .i64) (w0 := w) w.heap.size rfl (.tmp 58) (.tmp 60) 24 3 (.int .i64 0) 8 rfl Tryd.underlying24 info3 rfl (by decide) (by omega) u4 x4_7 x9_7 [.int .i64 x9_7] (fun _ => True) (fun _ => False) rfl rfl ?aP (fun _ hk => hk.elim) ?aF ?aO ?aB ?aS ?aL ?_; (case aP => exact rfl); (case aB => exact (by repeat (first | (with_reducible first | exact HB.out | apply below_alloc | apply pw_below_drewN | apply below_drew1) | exact HB.out))); (case aF => exact (fun _ _ => trivial)); (case aO => exact (by (with_reducible repeat (first | apply Kd.R_alloc | apply Kd.R_drewN | apply Kd.R_drew)); exact HO_4.out)); (case aS => exact (below_size (by repeat (first | (with_reducible first | exact HB.out | apply below_alloc | apply pw_below_drewN | apply below_drew1) | exact HB.out)))); (case aL => have := LMc19.out; omega); intro v234 w20 ho hb hg hat; rw [← Ny233.out] at ho; have n0_ := Aside0.mk (hb); have n1_ := Aside0.mk (ho); clear HB; clear HO_4; have HB := n0_; have HO235 := n1_; clear n0_ n1_; clear ho hb hg hat))
                                        go_roundg k7
                                        case measure => have := HK1.out; have := HJ2.out; have := HJ6.out; have := HJ9.out; have := HJ11.out; have := HJ14.out; have := HK7.out; omega
                                        case rel => exact ⟨(y233), (wrap64 (x9_7 + 1)), (by first | rfl | (simp; done) | (simp [*]; done)), H', ⟨by have := HK1.out; have := HJ2.out; have := HJ6.out; have := HJ9.out; have := HJ11.out; have := HJ14.out; have := HK7.out; omega⟩, ⟨by (with_reducible repeat (first | apply Kd.R_alloc | apply Kd.R_drewN | apply Kd.R_drew)); exact HO235.out⟩, ⟨by repeat (first | (with_reducible first | exact HB.out | apply below_alloc | apply pw_below_drewN | apply below_drew1) | exact HB.out)⟩⟩
                                      · rw [if_neg c19] at H
                                        exact absurd H (by simp)
                                    · rw [if_neg c18] at H
                                      have c18b0 : decide (x9_7 < 64) = false := decide_eq_false c18
                                      clear c18
                                      have H' := Aside0.mk H
                                      clear H
                                      go_wp2
                                      go_roundg k7
                                      case measure => have := HK1.out; have := HJ2.out; have := HJ6.out; have := HJ9.out; have := HJ11.out; have := HJ14.out; have := HK7.out; omega
                                      case rel => exact ⟨(x4_7), (0), ((-1)), (wrap64 (x7_1 + 1)), (by first | rfl | (simp; done) | (simp [*]; done)), (by first | rfl | (simp; done) | (simp [*]; done)), (by first | rfl | (simp; done) | (simp [*]; done)), H', ⟨by have := HK1.out; have := HJ2.out; have := HJ6.out; have := HJ9.out; have := HJ11.out; have := HJ14.out; have := HK7.out; omega⟩, ⟨by (with_reducible repeat (first | apply Kd.R_alloc | apply Kd.R_drewN | apply Kd.R_drew)); exact HO_4.out⟩, ⟨by repeat (first | (with_reducible first | exact HB.out | apply below_alloc | apply pw_below_drewN | apply below_drew1) | exact HB.out)⟩⟩
                                  · rw [if_neg c17] at H
                                    have c17b0 : decide (x9_7 ≤ x5_11) = false := decide_eq_false c17
                                    clear c17
                                    have H' := Aside0.mk H
                                    clear H
                                    go_wp2
                                    go_roundg k7
                                    case measure => have := HK1.out; have := HJ2.out; have := HJ6.out; have := HJ9.out; have := HJ11.out; have := HJ14.out; have := HK7.out; omega
                                    case rel => exact ⟨(x4_7), (0), ((-1)), (wrap64 (x7_1 + 1)), (by first | rfl | (simp; done) | (simp [*]; done)), (by first | rfl | (simp; done) | (simp [*]; done)), (by first | rfl | (simp; done) | (simp [*]; done)), H', ⟨by have := HK1.out; have := HJ2.out; have := HJ6.out; have := HJ9.out; have := HJ11.out; have := HJ14.out; have := HK7.out; omega⟩, ⟨by (with_reducible repeat (first | apply Kd.R_alloc | apply Kd.R_drewN | apply Kd.R_drew)); exact HO_4.out⟩, ⟨by repeat (first | (with_reducible first | exact HB.out | apply below_alloc | apply pw_below_drewN | apply below_drew1) | exact HB.out)⟩⟩
                        · rw [if_neg c14] at H
                          have c14b0 : (x8_2 == 44) = false := beq_eq_false_iff_ne.mpr c14
                          have c14b1 : (x8_2 != 44) = true := bne_iff_ne.mpr c14
                          have H' := Aside0.mk H
                          clear H
                          go_wp2
                          go_roundg kj11
                          case measure => have := HK1.out; have := HJ2.out; have := HJ6.out; have := HJ9.out; have := HJ11.out; omega
                          case rel => exact ⟨(x4_1), (x5_11), (x6_11), (wrap64 (x7_1 + 1)), (by first | rfl | (simp; done) | (simp [*]; done)), (by first | rfl | (simp; done) | (simp [*]; done)), (by first | rfl | (simp; done) | (simp [*]; done)), H', ⟨by have := HK1.out; have := HJ2.out; have := HJ6.out; have := HJ9.out; have := HJ11.out; omega⟩, ⟨by (with_reducible repeat (first | apply Kd.R_alloc | apply Kd.R_drewN | apply Kd.R_drew)); exact HO_4.out⟩, ⟨by repeat (first | (with_reducible first | exact HB.out | apply below_alloc | apply pw_below_drewN | apply below_drew1) | exact HB.out)⟩⟩
      · rw [if_neg c2] at H
        have c2b0 : decide (x7_1 ≤ (a0.size : Int)) = false := decide_eq_false c2
        clear c2
        have HC21 := Aside0.mk H
        clear H
        go_upto_if 63 with (fail)
        go_cut [4] (fun v4 wc => ∃ (kq : Nat) (x4_20 : List Int), Aside0 (diapauseref03_Parse.j7 kq a0 x4_20 = some (r1, r2)) ∧ Aside0 (kq ≤ k1) ∧ Aside0 (Kd.R (Kd.int .i64) 3 wc w.heap.size (fun _ => True) v4 x4_20) ∧ Aside0 (Below w.heap.size w wc))
        case first =>
          have H := HC21.out
          clear HC21
          by_cases c22 : a0.toList = ([45] : List UInt8)
          · rw [if_pos c22] at H
            have c22b0 : (a0.toList == ([45] : List UInt8)) = true := beq_iff_eq.mpr c22
            have c22b1 : (a0.toList != ([45] : List UInt8)) = false := bne_eq_false_iff_eq.mpr c22
            clear c22
            (first | rw [c22b0] | (simp only [i64_w, i32_w]; rw [c22b0]) | skip)
            have H' := Aside0.mk H
            clear H
            go_wp2
            go_meet
            case rel => exact ⟨_, (([] : List Int)), H', ⟨by have := HK1.out; first | omega | exact Nat.le_refl _⟩, ⟨by first | exact Kd.R_nil _ _ _ _ _ | exact Kd.N_nil _ _ _ _ _ | exact Kd.V_nil _ _ _ _ _ | exact Kd.Q_nil _ _ _ _ _ | exact Kd.S_nil _ _ _ _ _⟩, ⟨by repeat (first | (with_reducible first | exact HB.out | apply below_alloc | apply pw_below_drewN | apply below_drew1) | exact HB.out)⟩⟩
          · rw [if_neg c22] at H
            have c22b0 : (a0.toList == ([45] : List UInt8)) = false := beq_eq_false_iff_ne.mpr c22
            have c22b1 : (a0.toList != ([45] : List UInt8)) = true := bne_iff_ne.mpr c22
            (first | rw [c22b0] | (simp only [i64_w, i32_w]; rw [c22b0]) | skip)
            have H' := Aside0.mk H
            clear H
            go_wp2
            go_meet
            case rel => exact ⟨_, (x4_1), H', ⟨by have := HK1.out; first | omega | exact Nat.le_refl _⟩, ⟨by (with_reducible repeat (first | apply Kd.R_alloc | apply Kd.R_drewN | apply Kd.R_drew)); exact HO_4.out⟩, ⟨by repeat (first | (with_reducible first | exact HB.out | apply below_alloc | apply pw_below_drewN | apply below_drew1) | exact HB.out)⟩⟩
        case rest =>
          clear HC21
          try clear c1
          try clear c2
          try clear c2b0
          try clear p2
          try clear c4
          try clear c4b0
          try clear c5
          try clear c5b0
          try clear p6
          try clear q6
          try clear hx6
          try clear c8
          try clear c8b0
          try clear c9
          try clear c9b0
          try clear c11
          try clear c13
          try clear c13b0
          try clear c13b1
          try clear c14
          try clear c14b0
          try clear c14b1
          try clear c16
          try clear c16b0
          try clear c17
          try clear c17b0
          try clear c18
          try clear c18b0
          try clear c19
          try clear c22
          try clear c22b0
          try clear c22b1
          try clear p2
          try clear p6
          try clear q6
          obtain ⟨kq, x4_20, HA, HJ20, HO_4, HB⟩ := hcut
          cases kq with
          | zero => exact absurd HA.out (by simp [diapauseref03_Parse.j7])
          | succ kj20 =>
            have H := HA.out
            clear HA
            simp only [diapauseref03_Parse.j7] at H
            replace H := Option.bind_eq_some_iff.mp H
            obtain ⟨t236, A230, H⟩ := H
            replace H : ((diapauseref03_Text.f kj20 t236).bind fun t237 => (if t237.toList = a0.toList then (some (t236, 0)) else (some (0, 5)))) = some (r1, r2) := H
            have A23 := Aside0.mk A230
            clear A230
            replace H := Option.bind_eq_some_iff.mp H
            obtain ⟨t237, A240, H⟩ := H
            replace H : (if t237.toList = a0.toList then (some (t236, 0)) else (some (0, 5))) = some (r1, r2) := H
            have A24 := Aside0.mk A240
            clear A240
            by_cases c25 : t237.toList = a0.toList
            · rw [if_pos c25] at H
              have c25b0 : (t237.toList == a0.toList) = true := beq_iff_eq.mpr c25
              have c25b1 : (t237.toList != a0.toList) = false := bne_eq_false_iff_eq.mpr c25
              clear c25
              simp only [Option.some.injEq, Prod.mk.injEq] at H
              obtain ⟨rfl, rfl⟩ := H
              obtain ⟨Ao26, co26, eo26⟩ := Kd.R_slice HO_4.out
              subst eo26
              go_wp2_with (first | ((with_reducible refine gate_callee (f := 67) rfl ?_); refine goesL_ (some 65) rfl rfl Tryd.func67 (by kernel_rfl) rfl #[.slice Ao26 x4_20.length co26] rfl (by (try simp only [List.map_toArray, List.map_cons, List.map_nil]); first | done | rfl | (simp only [List.length_drop, List.length_take]; rfl)) ?_; (with_reducible refine (diapauseref03_Of.calls kj20 _ _ x4_20 t236 _ ?side1 ?side2 A23.out).mono ?_); (case side1 => repeat (first | exact (Kd.R_reads' HO_4.out).2.2 | (with_reducible refine Kd.C_alloc ?_ _) | (with_reducible refine Kd.C_drewN ?_ _) | (with_reducible refine Kd.C_drew ?_))); (case side2 => exact (Kd.R_reads' HO_4.out).2.1); rintro e w' ⟨rfl, ⟨nd, rfl⟩⟩; refine ⟨_, rfl, ?_⟩) | ((with_reducible refine gate_callee (f := 43) rfl ?_); refine goesL_ (some 67) rfl rfl Tryd.func43 (by kernel_rfl) rfl #[.int .u64 t236] rfl (by (try simp only [List.map_toArray, List.map_cons, List.map_nil]); first | done | rfl | (simp only [List.length_drop, List.length_take]; rfl)) ?_; (with_reducible refine (diapauseref03_Text.calls kj20 t236 t237 _ A24.out).mono ?_); rintro e w27 ⟨rfl, hb⟩; refine ⟨_, rfl, ?_⟩; have n0_ := Aside0.mk (Kd.R_below (by (with_reducible repeat (first | apply Kd.R_alloc | apply Kd.R_drewN | apply Kd.R_drew)); exact HO_4.out) hb); have n1_ := Aside0.mk (below_step (by repeat (first | (with_reducible first | exact HB.out | apply below_alloc | apply pw_below_drewN | apply below_drew1) | exact HB.out)) hb); clear HO_4; clear HB; have HO_4 := n0_; have HB := n1_; clear n0_ n1_; (try clear hb); (try clear hb2); (try clear hk); (try clear hi)))
              go_ret2
              exact ⟨by first | rfl | (simp [errW_none, errW_some] <;> rfl) | (simp [*, errW_none, errW_some] <;> rfl), by repeat (first | (with_reducible first | exact HB.out | apply below_alloc | apply pw_below_drewN | apply below_drew1) | exact HB.out)⟩
            · rw [if_neg c25] at H
              have c25b0 : (t237.toList == a0.toList) = false := beq_eq_false_iff_ne.mpr c25
              have c25b1 : (t237.toList != a0.toList) = true := bne_iff_ne.mpr c25
              simp only [Option.some.injEq, Prod.mk.injEq] at H
              obtain ⟨rfl, rfl⟩ := H
              obtain ⟨Ao28, co28, eo28⟩ := Kd.R_slice HO_4.out
              subst eo28
              go_wp2_with (first | ((with_reducible refine gate_callee (f := 67) rfl ?_); refine goesL_ (some 65) rfl rfl Tryd.func67 (by kernel_rfl) rfl #[.slice Ao28 x4_20.length co28] rfl (by (try simp only [List.map_toArray, List.map_cons, List.map_nil]); first | done | rfl | (simp only [List.length_drop, List.length_take]; rfl)) ?_; (with_reducible refine (diapauseref03_Of.calls kj20 _ _ x4_20 t236 _ ?side1 ?side2 A23.out).mono ?_); (case side1 => repeat (first | exact (Kd.R_reads' HO_4.out).2.2 | (with_reducible refine Kd.C_alloc ?_ _) | (with_reducible refine Kd.C_drewN ?_ _) | (with_reducible refine Kd.C_drew ?_))); (case side2 => exact (Kd.R_reads' HO_4.out).2.1); rintro e w' ⟨rfl, ⟨nd, rfl⟩⟩; refine ⟨_, rfl, ?_⟩) | ((with_reducible refine gate_callee (f := 43) rfl ?_); refine goesL_ (some 67) rfl rfl Tryd.func43 (by kernel_rfl) rfl #[.int .u64 t236] rfl (by (try simp only [List.map_toArray, List.map_cons, List.map_nil]); first | done | rfl | (simp only [List.length_drop, List.length_take]; rfl)) ?_; (with_reducible refine (diapauseref03_Text.calls kj20 t236 t237 _ A24.out).mono ?_); rintro e w29 ⟨rfl, hb⟩; refine ⟨_, rfl, ?_⟩; have n0_ := Aside0.mk (Kd.R_below (by (with_reducible repeat (first | apply Kd.R_alloc | apply Kd.R_drewN | apply Kd.R_drew)); exact HO_4.out) hb); have n1_ := Aside0.mk (below_step (by repeat (first | (with_reducible first | exact HB.out | apply below_alloc | apply pw_below_drewN | apply below_drew1) | exact HB.out)) hb); clear HO_4; clear HB; have HO_4 := n0_; have HB := n1_; clear n0_ n1_; (try clear hb); (try clear hb2); (try clear hk); (try clear hi)))
              go_ret2
              exact ⟨by first | rfl | (simp [errW_none, errW_some] <;> rfl) | (simp [*, errW_none, errW_some] <;> rfl), by repeat (first | (with_reducible first | exact HB.out | apply below_alloc | apply pw_below_drewN | apply below_drew1) | exact HB.out)⟩

end Go.Proofs.YtgkmipfcadiobaaDoor.GM
