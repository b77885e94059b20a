-- Began as the print's row text of this law; card.py turned it to the row's listed variables.
import Derived.Test.YtgkmipfcadiobaaDoorGMx1
import Derived.Test.YtgkmipfcadiobaaDoorLawsA
import Derived.Test.YtgkmipfcadiobaaDoorLaidM
import Derived.Test.YtgkmipfcadiobaaDoorTie
import Derived.Test.YtgkmipfcadiobaaDoorCards
import Derived.SevenTiedAt
import Derived.WalkKit
import Derived.ProofKit
import Derived.OpenShut
import Derived.ShutString
import Derived.ChangeOld
import Derived.Below
import Derived.SizedLaws
namespace Go.Proofs.YtgkmipfcadiobaaDoor.maskUps
open Go.ChangeShapes Go.WideShapes Go.ChangeAt Go.RowKit
open Go.ChangeMaps (open_string shut_string)
set_option linter.unusedVariables false
theorem own : ownKnob Tryd.prog.godebug = none := by kernel_rfl
set_option maxRecDepth 100000 in
theorem lifted (os : Os) (started : os.Started) (H : Type) (enc : TypeId × Value → H) :
    ReturnsInHanded {} Tryd.checked os 10 .any (fun w args => (Rows.maskUpsSpec.pre enc Tryd.prog Tryd.f10 Rows.maskUpsRow.domain false w args ∧ laidMetH Tryd.prog Rows.maskUpsRow.laid w) ∧ sizedMet enc Tryd.prog Tryd.f10 (OpenSpec.ofChange Rows.maskUpsSpec) false w args)
      (Rows.maskUpsSpec.post enc Tryd.prog Tryd.f10 false true false false) := by
  refine lift_laid (C := Tryd.checked) (X := fun w => laidMetH Tryd.prog Rows.maskUpsRow.laid w) (fun _ _ hh h => h.of_heap hh) own started (by kernel_rfl) Tryd.func10
    (ChangeSpec.witness_shaped (enc := enc) (C := Tryd.checked) (os := os) (X := fun w _ => laidMetH Tryd.prog Rows.maskUpsRow.laid w) false (startM os) #[.int .i64 0, .int .i64 0] 8 (World.laidAll_os _ _ _)
      (start_shaped os _) (by kernel_rfl) (by kernel_rfl) (by kernel_rfl) (start_laid os _)) ?_
  intro W base args ds gs before hval0 hW hsz0 hL hShape
  have hT := lw_of_laid hL hShape
  have hsz : (DataW.weightsEach Tryd.prog (Tryd.f10.params.toList ++ Rows.maskUpsSpec.plain.varTypes Tryd.prog) (ds ++ gs)).all (· ≤ reachBytes) = true := hsz0
  have hval : ∀ (j : Nat) t v, Tryd.f10.params[j]? = some t → args[j]? = some v → Value.okWide Tryd.prog W .any base t v := hval0
  have hW' := hW
  obtain ⟨p, q, hA0, hV, rfl, hfz, hnd⟩ := hW
  have hA : DataW.TrodAll enc Tryd.prog W 0 (fun _ => true) true Tryd.f10.params.toList args.toList ds p := hA0
  rw [Tryd.params10] at hA hval hsz
  obtain ⟨v0, vs0, d0, ds0, p0, q0, hargs, rfl, rfl, h0, r0⟩ := trodAll_cons hA
  obtain ⟨v1, vs1, d1, ds1, p1, q1, rfl, rfl, rfl, h1, r1⟩ := trodAll_cons r0
  obtain ⟨rfl, rfl, rfl⟩ := trodAll_nil r1
  obtain rfl : args = #[v0, v1] := by cases args; simp_all
  obtain ⟨rfl, rfl⟩ := trodVars_none hV
  obtain ⟨a0, rfl, rfl, rfl, w0⟩ := open_int Tryd.underlying3 (hval 0 3 v0 rfl rfl) h0
  obtain ⟨a1, rfl, rfl, rfl, w1⟩ := open_int Tryd.underlying3 (hval 1 3 v1 rfl rfl) h1
  clear hA0 hval0 hsz0 hsz
  refine (GM.diapauselaw03_MaskUps.walk GM.maskUps_pure a0 a1 W hT w0 w1).mono fun e W' ⟨he, bel⟩ => ?_
  subst he
  exact ⟨_, rfl, _, _, _, [], _, [], hW', trodAll_mk1 (shut_bool Tryd.underlying4 _), (trodAll_cons_mk (shut_int Tryd.underlying3 w0) (trodAll_cons_mk (shut_int Tryd.underlying3 w1) trodAll_mk0)), rfl, bel.frame _, fun h => by cases h⟩
theorem over : Rows.maskUpsRow.holds Tryd.pinned (OpenSpec.ofChange Rows.maskUpsSpec) :=
  OpenClaim.holds_of_wide 10 Tryd.f10 rfl rfl rfl rfl rfl rfl rfl ⟨rfl, rfl, rfl, rfl, rfl⟩ rfl rfl rfl rfl rfl (by kernel_rfl) Tryd.func10 (by kernel_rfl)
    (of_decide_eq_true (by kernel_rfl)) (by unfold Func.isWrapper; first | (rw [if_pos (by decide +kernel)]; kernel_rfl) | (rw [if_neg (by decide +kernel)]; exact ⟨rfl, rfl⟩))
    (fun os started H enc _ => lifted os started H enc)
theorem proved : Rows.MaskUpsSaid := over
#print axioms proved
end Go.Proofs.YtgkmipfcadiobaaDoor.maskUps
namespace Go.Proofs.YtgkmipfcadiobaaDoor
/-- The row, under a short name, for the claim. -/
theorem maskUps_holds : Rows.MaskUpsSaid := maskUps.proved
/-- The tied card. -/
theorem maskUps_card : Rows.MaskUpsCardSaid :=
  Claim7.holds_tied_plain_at .later [] [.data, .data, .data, .data, .sentinel, .sentinel, .pinned] true (true, "20a779397a74c75e4e62cd72d9f1930ea5766453bb15a2b14861958d78deaed0") true
    maskUps_holds (fun _ h => by cases h) (by kernel_rfl) (fun _ h => by cases h) maskUps_row_tie rfl ⟨rfl, rfl⟩ (by kernel_rfl) rfl
    (fun f fn hf hfn => by
      obtain rfl : f = 10 := Option.some.inj ((show Tryd.prog.funcNamed "diapause/diapauselaw03.MaskUps" = some 10 by kernel_rfl).symm.trans hf) |>.symm
      obtain rfl : fn = Tryd.f10 := (Option.some.inj (Tryd.func10.symm.trans hfn)).symm
      exact ⟨by kernel_rfl, fun j t ht => by
        rw [Tryd.params10] at ht
        have hm : t ∈ [3, 3] := by simpa using Array.mem_of_getElem? ht
        have hall : ([3, 3].all fun u => !Tryd.prog.wantsStandIn u) = true := by kernel_rfl
        exact (show Tryd.prog.wantsStandIn t = false by simpa using List.all_eq_true.1 hall t hm)⟩)
    (by kernel_rfl)
#print axioms maskUps_card
end Go.Proofs.YtgkmipfcadiobaaDoor
