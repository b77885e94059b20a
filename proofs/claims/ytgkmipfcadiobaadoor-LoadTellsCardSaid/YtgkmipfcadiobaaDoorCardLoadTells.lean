/- The row of LoadTells under what it lists, and the tied card: out of the contract of the Go function and its plain law. -/
import Derived.Test.YtgkmipfcadiobaaDoorRefL
import Derived.Test.YtgkmipfcadiobaaDoorLaidL
import Derived.Test.YtgkmipfcadiobaaDoorTie
import Derived.Test.YtgkmipfcadiobaaDoorCards
import Derived.SevenTiedAt
import Derived.WalkKit
import Derived.ProofKit
import Derived.OpenShut
import Derived.ShutString
import Derived.ChangeOld
import Derived.Below
import Derived.SizedLaws
namespace Go.Proofs.YtgkmipfcadiobaaDoor.loadTells
open Go.ChangeShapes Go.WideShapes Go.ChangeAt Go.RowKit
set_option linter.unusedVariables false
theorem own : ownKnob Tryd.prog.godebug = none := by kernel_rfl
theorem laidOut : laidOutB Tryd.prog = true := by kernel_rfl
set_option maxRecDepth 100000 in
theorem lifted (os : Os) (started : os.Started) (H : Type) (enc : TypeId × Value → H) :
    ReturnsInHanded {} Tryd.checked os 3 .any (fun w args => (Rows.loadTellsSpec.pre enc Tryd.prog Tryd.f3 Rows.loadTellsRow.domain false w args ∧ laidMetH Tryd.prog Rows.loadTellsRow.laid w) ∧ sizedMet enc Tryd.prog Tryd.f3 (OpenSpec.ofChange Rows.loadTellsSpec) false w args)
      (Rows.loadTellsSpec.post enc Tryd.prog Tryd.f3 false true false false) := by
  refine lift_laid (C := Tryd.checked) (X := fun w => laidMetH Tryd.prog Rows.loadTellsRow.laid w) (fun _ _ hh h => h.of_heap hh) own started (by kernel_rfl) Tryd.func3
    (ChangeSpec.witness_shaped (enc := enc) (C := Tryd.checked) (os := os) (X := fun w _ => laidMetH Tryd.prog Rows.loadTellsRow.laid w) false (startL os) #[.slice none 0 0, .int .i64 0, .int .u64 0, .slice none 0 0] 8 (World.laidAll_os _ _ _)
      (start_shaped os _) (by kernel_rfl) (by kernel_rfl) (by kernel_rfl) (start_laid os _)) ?_
  intro W base args ds gs before hval0 hW hsz0 hL hShape
  have hT := lt_of_laid hL
  have hsz : (DataW.weightsEach Tryd.prog (Tryd.f3.params.toList ++ Rows.loadTellsSpec.plain.varTypes Tryd.prog) (ds ++ gs)).all (· ≤ reachBytes) = true := hsz0
  have hval : ∀ (j : Nat) t v, Tryd.f3.params[j]? = some t → args[j]? = some v → Value.okWide Tryd.prog W .any base t v := hval0
  have hW' := hW
  obtain ⟨p, q, hA0, hV, rfl, hfz, hnd⟩ := hW
  have hA : DataW.TrodAll enc Tryd.prog W 0 (fun _ => true) true Tryd.f3.params.toList args.toList ds p := hA0
  rw [Tryd.params3] at hA hval hsz
  obtain ⟨v0, vs0, d0, ds0, p0, q0, hargs, rfl, rfl, h0, r0⟩ := trodAll_cons hA
  obtain ⟨v1, vs1, d1, ds1, p1, q1, rfl, rfl, rfl, h1, r1⟩ := trodAll_cons r0
  obtain ⟨v2, vs2, d2, ds2, p2, q2, rfl, rfl, rfl, h2, r2⟩ := trodAll_cons r1
  obtain ⟨v3, vs3, d3, ds3, p3, q3, rfl, rfl, rfl, h3, r3⟩ := trodAll_cons r2
  obtain ⟨rfl, rfl, rfl⟩ := trodAll_nil r3
  obtain rfl : args = #[v0, v1, v2, v3] := by cases args; simp_all
  obtain ⟨rfl, rfl⟩ := trodVars_none hV
  obtain ⟨a0, len0, cap0, rfl⟩ := okWide_slice Tryd.underlying22 (hval 0 22 v0 rfl rfl)
  have k0 := h0
  have lt0 : ∀ x ∈ p0, x.block < W.heap.size := by obtain ⟨m, hm⟩ := k0; exact DataW.trod_lt m _ _ _ hm
  obtain ⟨l0, hr0, rfl, hc0, w0⟩ := (by obtain ⟨fuel, hf⟩ := h0; exact seats_in (by simpa [Value.cells] using hf) : ∃ l : List GA.S38, Go.Proofs.YtgkmipfcadiobaaDoorW.PrintWords.Kd.C GA.k38 W a0 l.length l ∧ len0 = l.length ∧ l.length ≤ cap0 ∧ ∀ s ∈ l, okSeat s)
  obtain ⟨a1, rfl, rfl, rfl, w1⟩ := open_int Tryd.underlying3 (hval 1 3 v1 rfl rfl) h1
  obtain ⟨a2, rfl, rfl, rfl, w2⟩ := open_int Tryd.underlying23 (hval 2 23 v2 rfl rfl) h2
  obtain ⟨a3, len3, cap3, rfl⟩ := okWide_slice Tryd.underlying24 (hval 3 24 v3 rfl rfl)
  have k3 := h3
  have lt3 : ∀ x ∈ p3, x.block < W.heap.size := by obtain ⟨m, hm⟩ := k3; exact DataW.trod_lt m _ _ _ hm
  obtain ⟨l3, hr3, rfl, hc3, w3⟩ := (by obtain ⟨fuel, hf⟩ := h3; exact ints_in Tryd.underlying24 Tryd.underlying3 (by kernel_rfl) (by simpa [Value.cells] using hf) : ∃ l : List Int, Go.Proofs.YtgkmipfcadiobaaDoorW.PrintWords.Kd.C (Go.Proofs.YtgkmipfcadiobaaDoorW.PrintWords.Kd.int .i64) W a3 l.length l ∧ len3 = l.length ∧ l.length ≤ cap3 ∧ ∀ x ∈ l, (Lit.int .i64 x).wf = true)
  clear hA0 hval0 hsz0 hsz
  obtain ⟨k, hk⟩ := GL.loadTells_pure l0 a1 a2 l3 w2
  refine (GL.diapauselaw15_LoadTells.calls k a0 cap0 l0 a1 a2 a3 cap3 l3 true W hT hr0 hc0 hr3 hc3 hk).mono ?_
  rintro e W' ⟨rfl, bel⟩
  exact ⟨_, rfl, _, _, _, [], _, [], hW', trodAll_mk1 (shut_bool Tryd.underlying4 _), (trodAll_cons_mk (Below.trod laidOut (by kernel_rfl) (of_decide_eq_true (by kernel_rfl)) k0 bel lt0) (trodAll_cons_mk (shut_int Tryd.underlying3 w1) (trodAll_cons_mk (shut_int Tryd.underlying23 w2) (trodAll_cons_mk (Below.trod laidOut (by kernel_rfl) (of_decide_eq_true (by kernel_rfl)) k3 bel lt3) trodAll_mk0)))), rfl, bel.frame _, fun h => by cases h⟩
theorem over : Rows.loadTellsRow.holds Tryd.pinned (OpenSpec.ofChange Rows.loadTellsSpec) :=
  OpenClaim.holds_of_wide 3 Tryd.f3 rfl rfl rfl rfl rfl rfl rfl ⟨rfl, rfl, rfl, rfl, rfl⟩ rfl rfl rfl rfl rfl (by kernel_rfl) Tryd.func3 (by kernel_rfl)
    (of_decide_eq_true (by kernel_rfl)) (by unfold Func.isWrapper; first | (rw [if_pos (by decide +kernel)]; kernel_rfl) | (rw [if_neg (by decide +kernel)]; exact ⟨rfl, rfl⟩))
    (fun os started H enc _ => lifted os started H enc)
theorem proved : Rows.LoadTellsSaid := over
#print axioms proved
end Go.Proofs.YtgkmipfcadiobaaDoor.loadTells
namespace Go.Proofs.YtgkmipfcadiobaaDoor
/-- The row, under a short name, for the claim. -/
theorem loadTells_holds : Rows.LoadTellsSaid := loadTells.proved
/-- The tied card. -/
theorem loadTells_card : Rows.LoadTellsCardSaid :=
  Claim7.holds_tied_plain_at .later [] [.data] true (true, "20a779397a74c75e4e62cd72d9f1930ea5766453bb15a2b14861958d78deaed0") true
    loadTells_holds (fun _ h => by cases h) (by kernel_rfl) (fun _ h => by cases h) loadTells_row_tie rfl ⟨rfl, rfl⟩ (by kernel_rfl) rfl
    (fun f fn hf hfn => by
      obtain rfl : f = 3 := Option.some.inj ((show Tryd.prog.funcNamed "diapause/diapauselaw15.LoadTells" = some 3 by kernel_rfl).symm.trans hf) |>.symm
      obtain rfl : fn = Tryd.f3 := (Option.some.inj (Tryd.func3.symm.trans hfn)).symm
      exact ⟨by kernel_rfl, fun j t ht => by
        rw [Tryd.params3] at ht
        have hm : t ∈ [22, 3, 23, 24] := by simpa using Array.mem_of_getElem? ht
        have hall : ([22, 3, 23, 24].all fun u => !Tryd.prog.wantsStandIn u) = true := by kernel_rfl
        exact (show Tryd.prog.wantsStandIn t = false by simpa using List.all_eq_true.1 hall t hm)⟩)
    (by kernel_rfl)
#print axioms loadTells_card
end Go.Proofs.YtgkmipfcadiobaaDoor
