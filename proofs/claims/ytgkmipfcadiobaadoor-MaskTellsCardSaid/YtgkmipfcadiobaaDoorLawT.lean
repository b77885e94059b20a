/- Plain law of MaskTells over the printed readings. -/
import Derived.Test.YtgkmipfcadiobaaDoorRefA
import Derived.Test.YtgkmipfcadiobaaDoorGMx5
set_option linter.unusedVariables false
namespace Go.Proofs.YtgkmipfcadiobaaDoor.GM
open Go Go.RowKit Go.Proofs.YtgkmipfcadiobaaDoor Pl Go.Proofs.YtgkmipfcadiobaaDoorW.PrintWords Go.Proofs.YtgkmipfcadiobaaDoorW.PrintMore Given
theorem mAll_f (x : Nat) (hx : x < U64) : mask_Set_All.f (x : Int) = some (ofNs (cores x)) := by
  unfold mask_Set_All.f
  rw [if_pos (by unfold U64 at hx; omega)]
  rfl
theorem first_f (x : Nat) (hx : x < U64) : mask_Set_First.f (x : Int) = some (nthOf x 0) := by
  unfold mask_Set_First.f
  rw [nth_f x hx]
  rfl
theorem maskTells_pure : diapauselaw03_MaskTells.Pure := by
  intro s c n i hs hc hn hi
  obtain ⟨x, rfl, hx⟩ := bnd_u64 hs
  obtain ⟨K0, h0⟩ := awake_ev
  obtain ⟨K1, h1⟩ := up_r n
  obtain ⟨K2, h2⟩ := with_r x hx c true
  obtain ⟨K3, h3⟩ := with_r x hx c false
  have hl := cores_length x
  refine ⟨K0 + K1 + K2 + K3 + 300 + 1, ?_⟩
  unfold diapauselaw03_MaskTells.f
  rw [h0 _ (by omega), bs, up_f, bs, h1 _ (by omega), bs, if_pos rfl, has_f x hx, bs, has_r _ (by omega) x hx, bs, bne_self_eq_false, if_neg (by decide), with_f x hx, bs, h2 _ (by omega), bs, if_pos rfl, if_pos rfl, without_f x hx, bs, h3 _ (by omega), bs, if_neg (by decide), bne_self_eq_false]
  rw [diapauselaw03_MaskTells.j0, if_neg (by decide), all_r _ (by omega) x hx, bs, if_pos rfl, mAll_f x hx, bs, same_r _ (by rw [ofNs_length]; omega) _ (by rw [ofNs_length]; omega), bs, if_pos rfl, len_f x hx, bs, ofNs_length, if_pos rfl, nth_f x hx, bs, nth_r _ (by omega) x hx, bs, if_pos rfl, first_f x hx, bs, nth_r _ (by omega) x hx, bs, beq_self_eq_true]
end Go.Proofs.YtgkmipfcadiobaaDoor.GM
