/- The row of BandBounds: out of the contract of the Go function and its plain law; no conditions. -/
import Derived.Test.YtcchnefndcnnnaaRows
import Derived.Test.YtcchnefndcnnnaaPBandBoundsx3
import Derived.Test.YtcchnefndcnnnaaPureBandBounds
import Derived.WalkKit
import Derived.ProofKit
import Derived.OpenShut
import Derived.ShutString
import Derived.ChangeOld
import Derived.Below
import Derived.SizedLaws
import Derived.Deep.Grids
namespace Go.Proofs.Ytcchnefndcnnnaa.bandBoundsRow
open Go.ChangeShapes Go.WideShapes Go.ChangeAt Go.RowKit Go.Deep
open Go.Proofs.YtcchnefndcnnnaaW.PrintWords
set_option linter.unusedVariables false
theorem own : ownKnob Try.prog.godebug = none := by kernel_rfl
theorem laidOut : laidOutB Try.prog = true := by kernel_rfl
theorem reads_bools {w : World} {a : Addr} {len : Nat} {B : Nat → Bool} (hl : len ≤ 9223372036854775807) (hc : ∀ i, i < len → w.cell? (a.add i) = some (.bool (B i))) : Kd.C Kd.bool w (some a) ((List.range len).map B).length ((List.range len).map B) := by
  refine ⟨rfl, by simpa using hl, fun _ => ⟨a, rfl, fun j p hj => ?_⟩⟩
  have hjl : j < len := by have := (List.getElem?_eq_some_iff.1 hj).1; simpa using this
  refine ⟨[.bool p], rfl, rfl, fun i u hi => ?_⟩
  have : i = 0 := by have := (List.getElem?_eq_some_iff.1 hi).1; simp at this; omega
  subst this
  simp at hi
  subst hi
  have hp : p = B j := by simp [hjl] at hj; exact hj.symm
  rw [hp]
  have := hc j hjl
  show w.cell? (a.add (j * 1 + 0)) = _
  rw [Nat.mul_one, Nat.add_zero]
  exact this
set_option maxRecDepth 100000 in
theorem lifted (os : Os) (started : os.Started) (H : Type) (enc : TypeId × Value → H) :
    ReturnsInHanded {} Try.checked os 9 .any (Rows.bandBoundsSpec.pre6 enc Try.prog Try.f9 Rows.bandBoundsRow.domain false) (Rows.bandBoundsSpec.post enc Try.prog Try.f9 false true false false) := by
  refine returnsInHanded_of_change_sized (C := Try.checked) own started (by kernel_rfl) Try.func9
    (ChangeSpec.witness6 (enc := enc) (C := Try.checked) false ⟨#[], #[.int .u16 0, .int .u16 0, .slice none 0 0], []⟩ 8 (by kernel_rfl) (by kernel_rfl) (by kernel_rfl) (by kernel_rfl)) ?_
  intro W base args ds gs before hval0 hW hcnd hsz0 _
  have hval : ∀ (j : Nat) t v, Try.f9.params[j]? = some t → args[j]? = some v → Value.okWide Try.prog W .any base t v := hval0
  have hW' := hW
  obtain ⟨p, q, hA0, hV, rfl, hfz, hnd⟩ := hW
  have hA : DataW.TrodAll enc Try.prog W 0 (fun _ => true) true Try.f9.params.toList args.toList ds p := hA0
  rw [Try.params9] at hA hval
  obtain ⟨v0, vs0, d0, ds0, p0, q0, hargs, rfl, rfl, h0, r0⟩ := trodAll_cons hA
  obtain ⟨v1, vs1, d1, ds1, p1, q1, rfl, rfl, rfl, h1, r1⟩ := trodAll_cons r0
  obtain ⟨v2, vs2, d2, ds2, p2, q2, rfl, rfl, rfl, h2, r2⟩ := trodAll_cons r1
  obtain ⟨rfl, rfl, rfl⟩ := trodAll_nil r2
  obtain rfl : args = #[v0, v1, v2] := by cases args; simp_all
  obtain ⟨rfl, rfl⟩ := trodVars_none hV
  obtain ⟨a0, rfl, rfl, rfl, w0⟩ := open_int Try.underlying31 (hval 0 31 v0 rfl rfl) h0
  obtain ⟨a1, rfl, rfl, rfl, w1⟩ := open_int Try.underlying31 (hval 1 31 v1 rfl rfl) h1
  obtain ⟨a2, len2, cap2, rfl⟩ := okWide_slice Try.underlying37 (hval 2 37 v2 rfl rfl)
  have k2 := h2
  have lt2 : ∀ x ∈ p2, x.block < W.heap.size := by obtain ⟨m, hm⟩ := k2; exact DataW.trod_lt m _ _ _ hm
  obtain ⟨z2, hz2, rfl, hl2⟩ : ∃ zs : List Bool, Kd.C Kd.bool W a2 zs.length zs ∧ len2 = zs.length ∧ zs.length ≤ cap2 := by
    obtain ⟨fuel, hf⟩ := h2
    rcases open_bools Try.underlying37 Try.underlying4 (by kernel_rfl) hf with ⟨hcs, _⟩ | ⟨x, l, c, B, hcs, _, hl, hm, _, hcell⟩
    · simp [Value.cells] at hcs
      obtain ⟨rfl, rfl, rfl⟩ := hcs
      exact ⟨[], ⟨rfl, by simp, fun h => by simp at h⟩, rfl, Nat.le_refl _⟩
    · simp [Value.cells] at hcs
      obtain ⟨rfl, rfl, rfl⟩ := hcs
      unfold maxLen at hm
      exact ⟨(List.range len2).map B, reads_bools (by omega) (fun i hi => hcell i (by omega)), by simp, by simpa using hl⟩
  clear hA0 hval0 hsz0
  refine (Exists.elim (Pure.BandBounds a0 a1 z2 w0 w1) fun k hk => PBandBounds.diapauselaw08_BandBounds.calls k a0 a1 a2 cap2 z2 true W hz2 hl2 hk).mono fun e W' ⟨he, bel⟩ => ?_
  subst he
  exact ⟨_, rfl, _, _, _, [], _, [], hW', trodAll_mk1 (shut_bool Try.underlying4 _), (trodAll_cons_mk (shut_int Try.underlying31 w0) (trodAll_cons_mk (shut_int Try.underlying31 w1) (trodAll_cons_mk (Below.trod laidOut (by kernel_rfl) (of_decide_eq_true (by kernel_rfl)) k2 bel lt2) trodAll_mk0))), rfl, bel.frame _, fun h => by cases h⟩
theorem over : Rows.bandBoundsRow.holds Try.pinned (OpenSpec.ofChange Rows.bandBoundsSpec) :=
  OpenClaim.holds_of_wide 9 Try.f9 rfl rfl rfl rfl rfl rfl rfl ⟨rfl, rfl, rfl, rfl, rfl⟩ rfl rfl rfl rfl rfl (by kernel_rfl) Try.func9 (by kernel_rfl)
    (of_decide_eq_true (by kernel_rfl)) (by unfold Func.isWrapper; rw [if_neg (of_decide_eq_false (by kernel_rfl))]; exact ⟨rfl, rfl⟩)
    (fun os started H enc _ => lifted os started H enc)
end Go.Proofs.Ytcchnefndcnnnaa.bandBoundsRow
namespace Go.Proofs.Ytcchnefndcnnnaa
theorem bandBounds_holds : Rows.BandBoundsSaid := bandBoundsRow.over
end Go.Proofs.Ytcchnefndcnnnaa
