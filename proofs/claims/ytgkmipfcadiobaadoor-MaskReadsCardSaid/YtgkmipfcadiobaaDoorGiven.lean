/- The contracts of (mask.Set).All, Nth and Text, mask.span and strings.Split, in the shape of the printed ones; the library's variables lie as the rows list them (Lw). -/
import Derived.Test.YtgkmipfcadiobaaDoorSpan
import Derived.Lib.SplitLaws
import Derived.Lib.ReplaceLaws
import Derived.Test.YtgkmipfcadiobaaDoorWWords
import Derived.Test.YtgkmipfcadiobaaDoorWLast
import Derived.Test.YtgkmipfcadiobaaDoorWMore
set_option linter.unusedVariables false
namespace Go.Proofs.YtgkmipfcadiobaaDoor.Given
open Go.RowKit Go.Proofs.YtgkmipfcadiobaaDoorW.PrintWords Go.Proofs.YtgkmipfcadiobaaDoorW.PrintLast Go.Proofs.YtgkmipfcadiobaaDoorW.PrintMore
open Go.Proofs.YtgkmipfcadiobaaDoor Pl

def mask_Set_All.f (a0 : Int) : Option (List Int) := if 0 ≤ a0 ∧ a0 < 18446744073709551616 then some ((cores a0.toNat).map fun c : Nat => (c : Int)) else none
theorem mask_Set_All.calls (a0 : Int) (r : List Int) (w : World) (hT : Lw w) (h : mask_Set_All.f a0 = some r) :
    Calls Tryd.prog 48 #[.int .u64 a0] w fun e w' => ∃ v0_ : Value, e = .returned (v0_) ∧ Kd.R (Kd.int .i64) 3 w' w.heap.size (fun _ => True) v0_ r ∧ Below w.heap.size w w' := by
  unfold mask_Set_All.f at h
  split at h
  · rename_i hb
    obtain rfl := Option.some.inj h
    obtain ⟨x, rfl⟩ := Int.eq_ofNat_of_zero_le hb.1
    have hx : x < 18446744073709551616 := by omega
    refine (callsIn_wide.1 (all_in 3 (by omega) x hx w hT.tab)).mono fun e w' ⟨v, he, ho, hbl⟩ => ⟨v, he, Kd.R_of_own ?_ ?_, hbl⟩
    · have e1 : encs (Value.int .i64) ((cores (x : Int).toNat).map fun c : Nat => (c : Int)) = ints (cores x) := by simp [encs, ints]
      rw [e1]; simpa using ho
    · intro _ _; trivial
  · cases h

def mask_Set_Nth.f (a0 : Int) (a1 : Int) : Option (Int) := if 0 ≤ a0 ∧ a0 < 18446744073709551616 then some (nthOf a0.toNat a1) else none
theorem mask_Set_Nth.calls (a0 : Int) (a1 : Int) (r : Int) (w : World) (hT : Lw w) (h : mask_Set_Nth.f a0 a1 = some r) :
    Calls Tryd.prog 44 #[.int .u64 a0, .int .i64 a1] w fun e w' => e = .returned (.int .i64 r) ∧ Below w.heap.size w w' := by
  unfold mask_Set_Nth.f at h
  split at h
  · rename_i hb
    obtain rfl := Option.some.inj h
    obtain ⟨x, rfl⟩ := Int.eq_ofNat_of_zero_le hb.1
    exact callsIn_wide.1 (nth_in 3 (by omega) x (by omega) a1 w hT.tab)
  · cases h

def mask_Set_Text.f (a0 : Int) : Option (ByteArray) := if 0 ≤ a0 ∧ a0 < 18446744073709551616 then some (textB a0.toNat) else none
theorem mask_Set_Text.calls (a0 : Int) (r : ByteArray) (w : World) (hT : Lw w) (h : mask_Set_Text.f a0 = some r) :
    Calls Tryd.prog 34 #[.int .u64 a0] w fun e w' => e = .returned (.string r) ∧ Below w.heap.size w w' := by
  unfold mask_Set_Text.f at h
  split at h
  · rename_i hb
    obtain rfl := Option.some.inj h
    obtain ⟨x, rfl⟩ := Int.eq_ofNat_of_zero_le hb.1
    exact callsIn_wide.1 (text_in 3 (by omega) x (by omega) w hT.tab)
  · cases h

def mask_span.f (a0 : ByteArray) : Option (Int × Int × Bool) := if a0.size ≤ 1000000 then some (atoiV (endsL a0.data.toList).1, atoiV (endsL a0.data.toList).2, spanOk a0.data.toList) else none
theorem mask_span.calls (a0 : ByteArray) (r1 : Int) (r2 : Int) (r3 : Bool) (w : World) (hT : Lw w) (h : mask_span.f a0 = some (r1, r2, r3)) :
    Calls Tryd.prog 60 #[.string a0] w fun e w' => e = .returned (.tuple #[.int .i64 r1, .int .i64 r2, .bool r3]) ∧ Below w.heap.size w w' := by
  unfold mask_span.f at h
  split at h
  · rename_i hb
    simp only [Option.some.injEq, Prod.mk.injEq] at h
    obtain ⟨rfl, rfl, rfl⟩ := h
    exact span_calls a0 hb w hT
  · cases h

def strings_Split.f (a0 : ByteArray) (a1 : ByteArray) : Option (List ByteArray) := if a0.size ≤ 1000000 ∧ 1 ≤ a1.size then some (Lib.splitB a1 0 (Lib.countB a0 a1) a0) else none
theorem strings_Split.calls (a0 : ByteArray) (a1 : ByteArray) (r : List ByteArray) (w : World) (hT : Lw w) (h : strings_Split.f a0 a1 = some r) :
    Calls Tryd.prog 59 #[.string a0, .string a1] w fun e w' => ∃ v0_ : Value, e = .returned (v0_) ∧ Kd.R Kd.string 9 w' w.heap.size (fun _ => True) v0_ r ∧ Below w.heap.size w w' := by
  unfold strings_Split.f at h
  split at h
  · rename_i hb
    obtain rfl := Option.some.inj h
    obtain ⟨m, hm⟩ := hT.mlen
    refine (Tryd.strings_Split a0 a1 m w (by omega) hm hb.2).mono fun e w' ⟨he, hw⟩ => ⟨_, he, Kd.R_of_own ?_ ?_, ?_⟩
    · have hl := Lib.splitB_all a1 hb.2 0 (Lib.countB a0 a1) a0 rfl
      have hc := Lib.countB_mul_le a1 hb.2 a0.size a0 (Nat.le_refl _)
      have hc' : Lib.countB a0 a1 ≤ a0.size := Nat.le_trans (Nat.le_mul_of_pos_right _ (by omega)) hc
      rw [hl, hw]
      refine ⟨by simp [encs, hl], .inr ⟨w.heap.size, Lib.countB a0 a1 + 1, ((Lib.splitB a1 0 (Lib.countB a0 a1) a0).map Value.string).toArray, rfl, Nat.le_refl _, World.alloc_heap_new _ _, Nat.le_refl _, by unfold maxLen; omega, by simp [hl], ?_⟩⟩
      rw [List.take_of_length_le (by simp [hl])]
      simp [encs]
    · intro _ _; trivial
    · rw [hw]; exact (Below.refl _ w).alloc (Nat.le_refl _) _
  · cases h
end Go.Proofs.YtgkmipfcadiobaaDoor.Given
