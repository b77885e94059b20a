/- The row of LoadMoves under what it lists, and the tied card: out of the contract of the Go function and its plain law. -/
import Derived.Test.YtgkmipfcadiobaaDoorRefV
import Derived.Test.YtgkmipfcadiobaaDoorLaidL
import Derived.Test.YtgkmipfcadiobaaDoorTie
import Derived.Test.YtgkmipfcadiobaaDoorCards
import Derived.SevenTiedAt
import Derived.WalkKit
import Derived.ProofKit
import Derived.OpenShut
import Derived.ShutString
import Derived.ChangeOld
import Derived.Below
import Derived.SizedLaws
namespace Go.Proofs.YtgkmipfcadiobaaDoor.loadMoves
open Go.ChangeShapes Go.WideShapes Go.ChangeAt Go.RowKit
set_option linter.unusedVariables false
theorem own : ownKnob Tryd.prog.godebug = none := by kernel_rfl
theorem laidOut : laidOutB Tryd.prog = true := by kernel_rfl
set_option maxRecDepth 100000 in
theorem lifted (os : Os) (started : os.Started) (H : Type) (enc : TypeId × Value → H) :
    ReturnsInHanded {} Tryd.checked os 4 .any (fun w args => (Rows.loadMovesSpec.pre enc Tryd.prog Tryd.f4 Rows.loadMovesRow.domain false w args ∧ laidMetH Tryd.prog Rows.loadMovesRow.laid w) ∧ sizedMet enc Tryd.prog Tryd.f4 (OpenSpec.ofChange Rows.loadMovesSpec) false w args)
      (Rows.loadMovesSpec.post enc Tryd.prog Tryd.f4 false true false false) := by
  refine lift_laid (C := Tryd.checked) (X := fun w => laidMetH Tryd.prog Rows.loadMovesRow.laid w) (fun _ _ hh h => h.of_heap hh) own started (by kernel_rfl) Tryd.func4
    (ChangeSpec.witness_shaped (enc := enc) (C := Tryd.checked) (os := os) (X := fun w _ => laidMetH Tryd.prog Rows.loadMovesRow.laid w) false (startL os) #[.slice none 0 0, .int .u64 0] 8 (World.laidAll_os _ _ _)
      (start_shaped os _) (by kernel_rfl) (by kernel_rfl) (by kernel_rfl) (start_laid os _)) ?_
  intro W base args ds gs before hval0 hW hsz0 hL hShape
  have hT := lt_of_laid hL
  have hsz : (DataW.weightsEach Tryd.prog (Tryd.f4.params.toList ++ Rows.loadMovesSpec.plain.varTypes Tryd.prog) (ds ++ gs)).all (· ≤ reachBytes) = true := hsz0
  have hval : ∀ (j : Nat) t v, Tryd.f4.params[j]? = some t → args[j]? = some v → Value.okWide Tryd.prog W .any base t v := hval0
  have hW' := hW
  obtain ⟨p, q, hA0, hV, rfl, hfz, hnd⟩ := hW
  have hA : DataW.TrodAll enc Tryd.prog W 0 (fun _ => true) true Tryd.f4.params.toList args.toList ds p := hA0
  rw [Tryd.params4] at hA hval hsz
  obtain ⟨v0, vs0, d0, ds0, p0, q0, hargs, rfl, rfl, h0, r0⟩ := trodAll_cons hA
  obtain ⟨v1, vs1, d1, ds1, p1, q1, rfl, rfl, rfl, h1, r1⟩ := trodAll_cons r0
  obtain ⟨rfl, rfl, rfl⟩ := trodAll_nil r1
  obtain rfl : args = #[v0, v1] := by cases args; simp_all
  obtain ⟨rfl, rfl⟩ := trodVars_none hV
  obtain ⟨a0, len0, cap0, rfl⟩ := okWide_slice Tryd.underlying22 (hval 0 22 v0 rfl rfl)
  have k0 := h0
  have lt0 : ∀ x ∈ p0, x.block < W.heap.size := by obtain ⟨m, hm⟩ := k0; exact DataW.trod_lt m _ _ _ hm
  obtain ⟨l0, hr0, rfl, hc0, w0⟩ := (by obtain ⟨fuel, hf⟩ := h0; exact seats_in (by simpa [Value.cells] using hf) : ∃ l : List GA.S38, Go.Proofs.YtgkmipfcadiobaaDoorW.PrintWords.Kd.C GA.k38 W a0 l.length l ∧ len0 = l.length ∧ l.length ≤ cap0 ∧ ∀ s ∈ l, okSeat s)
  obtain ⟨a1, rfl, rfl, rfl, w1⟩ := open_int Tryd.underlying23 (hval 1 23 v1 rfl rfl) h1
  clear hA0 hval0 hsz0 hsz
  obtain ⟨k, hk⟩ := GV.loadMoves_pure l0 a1 hr0.2.1 w0 w1
  refine (GV.diapauselaw15_LoadMoves.calls k a0 cap0 l0 a1 true W hT hr0 hc0 hk).mono ?_
  rintro e W' ⟨rfl, bel⟩
  exact ⟨_, rfl, _, _, _, [], _, [], hW', trodAll_mk1 (shut_bool Tryd.underlying4 _), (trodAll_cons_mk (Below.trod laidOut (by kernel_rfl) (of_decide_eq_true (by kernel_rfl)) k0 bel lt0) (trodAll_cons_mk (shut_int Tryd.underlying23 w1) trodAll_mk0)), rfl, bel.frame _, fun h => by cases h⟩
theorem over : Rows.loadMovesRow.holds Tryd.pinned (OpenSpec.ofChange Rows.loadMovesSpec) :=
  OpenClaim.holds_of_wide 4 Tryd.f4 rfl rfl rfl rfl rfl rfl rfl ⟨rfl, rfl, rfl, rfl, rfl⟩ rfl rfl rfl rfl rfl (by kernel_rfl) Tryd.func4 (by kernel_rfl)
    (of_decide_eq_true (by kernel_rfl)) (by unfold Func.isWrapper; first | (rw [if_pos (by decide +kernel)]; kernel_rfl) | (rw [if_neg (by decide +kernel)]; exact ⟨rfl, rfl⟩))
    (fun os started H enc _ => lifted os started H enc)
theorem proved : Rows.LoadMovesSaid := over
#print axioms proved
end Go.Proofs.YtgkmipfcadiobaaDoor.loadMoves
namespace Go.Proofs.YtgkmipfcadiobaaDoor
/-- The row, under a short name, for the claim. -/
theorem loadMoves_holds : Rows.LoadMovesSaid := loadMoves.proved
/-- The tied card. -/
theorem loadMoves_card : Rows.LoadMovesCardSaid :=
  Claim7.holds_tied_plain_at .later [] [.data] true (true, "20a779397a74c75e4e62cd72d9f1930ea5766453bb15a2b14861958d78deaed0") true
    loadMoves_holds (fun _ h => by cases h) (by kernel_rfl) (fun _ h => by cases h) loadMoves_row_tie rfl ⟨rfl, rfl⟩ (by kernel_rfl) rfl
    (fun f fn hf hfn => by
      obtain rfl : f = 4 := Option.some.inj ((show Tryd.prog.funcNamed "diapause/diapauselaw15.LoadMoves" = some 4 by kernel_rfl).symm.trans hf) |>.symm
      obtain rfl : fn = Tryd.f4 := (Option.some.inj (Tryd.func4.symm.trans hfn)).symm
      exact ⟨by kernel_rfl, fun j t ht => by
        rw [Tryd.params4] at ht
        have hm : t ∈ [22, 23] := by simpa using Array.mem_of_getElem? ht
        have hall : ([22, 23].all fun u => !Tryd.prog.wantsStandIn u) = true := by kernel_rfl
        exact (show Tryd.prog.wantsStandIn t = false by simpa using List.all_eq_true.1 hall t hm)⟩)
    (by kernel_rfl)
#print axioms loadMoves_card
end Go.Proofs.YtgkmipfcadiobaaDoor
