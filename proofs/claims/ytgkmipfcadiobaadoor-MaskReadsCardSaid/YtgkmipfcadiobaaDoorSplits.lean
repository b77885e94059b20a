/- Plain: a text that is joined by commas is split into what was joined; the parts of a split are no longer than the text. -/
import Derived.Test.YtgkmipfcadiobaaDoorSets
import Derived.Lib.SplitLaws
set_option linter.unusedVariables false
namespace Go.Proofs.YtgkmipfcadiobaaDoor.Pl
open Go Go.RowKit
theorem index_none : ∀ (l : List UInt8) (c : UInt8), c ∉ l → Lib.index l [c] = -1
  | [], c, _ => by simp [Lib.index]
  | b :: l, c, h => by
    have h1 : ¬ b = c := fun e => h (by simp [e])
    have ih := index_none l c (fun m => h (List.mem_cons_of_mem _ m))
    unfold Lib.index
    rw [ih]
    simp [List.isPrefixOf, Ne.symm h1]
theorem index_at : ∀ (l r : List UInt8) (c : UInt8), c ∉ l → Lib.index (l ++ c :: r) [c] = (l.length : Int)
  | [], r, c, _ => by rw [List.nil_append, Lib.index]; simp [List.isPrefixOf]
  | b :: l, r, c, h => by
    have h1 : ¬ b = c := fun e => h (by simp [e])
    have ih := index_at l r c (fun m => h (List.mem_cons_of_mem _ m))
    rw [List.cons_append, Lib.index, ih]
    rw [if_neg (by simp [List.isPrefixOf, Ne.symm h1]), if_neg (by first | (simp; done) | (simp; omega))]
    simp
theorem joined (x y : List UInt8) (r : List (List UInt8)) (c : UInt8) : Lib.join (x :: y :: r) [c] = x ++ c :: Lib.join (y :: r) [c] := by
  rw [Lib.join_cons, Lib.join_cons]
  simp [Lib.joinTail]
theorem splitK_join (c : UInt8) : ∀ (ss : List (List UInt8)), ss ≠ [] → (∀ s ∈ ss, c ∉ s) → Lib.splitK [c] 0 (ss.length - 1) (Lib.join ss [c]) = ss
  | [], h, _ => absurd rfl h
  | [x], _, h => by rw [Lib.join_one]; rfl
  | x :: y :: r, _, h => by
    have ih := splitK_join c (y :: r) (by simp) (fun s hs => h s (List.mem_cons_of_mem _ hs))
    rw [joined]
    simp only [List.length_cons, Nat.add_sub_cancel] at ih ⊢
    have hi := index_at x (Lib.join (y :: r) [c]) c (h x List.mem_cons_self)
    rw [Lib.splitK, hi, if_neg (by first | (simp; done) | (simp; omega))]
    simp [ih]
theorem count_join (c : UInt8) : ∀ (ss : List (List UInt8)), (∀ s ∈ ss, c ∉ s) → (Lib.join ss [c]).count c = ss.length - 1
  | [], _ => by simp [Lib.join_nil]
  | [x], h => by rw [Lib.join_one, List.count_eq_zero.2 (h x List.mem_cons_self)]; rfl
  | x :: y :: r, h => by
    have ih := count_join c (y :: r) (fun s hs => h s (List.mem_cons_of_mem _ hs))
    rw [joined, List.count_append, List.count_cons_self, ih, List.count_eq_zero.2 (h x List.mem_cons_self)]
    simp
theorem mk_data (b : ByteArray) (l : List UInt8) (h : b.data.toList = l) : b = ⟨l.toArray⟩ := by
  apply ByteArray.ext
  simp [← h]
theorem splitB_join (ss : List (List UInt8)) (h0 : ss ≠ []) (h : ∀ s ∈ ss, (44 : UInt8) ∉ s) (t : ByteArray) (ht : t.data.toList = Lib.join ss [44]) :
    Lib.splitB ⟨#[44]⟩ 0 (Lib.countB t ⟨#[44]⟩) t = ss.map fun l => (⟨l.toArray⟩ : ByteArray) := by
  have hd := Lib.splitB_data ⟨#[44]⟩ 0 (Lib.countB t ⟨#[44]⟩) t
  have hc : Lib.countB t ⟨#[44]⟩ = ss.length - 1 := by
    show Lib.count t.data.toList [44] = _
    rw [Lib.count_one, ht, count_join 44 ss h]
  rw [hc] at hd ⊢
  rw [ht] at hd
  have hk : Lib.splitK (⟨#[44]⟩ : ByteArray).data.toList 0 (ss.length - 1) (Lib.join ss [44]) = ss := splitK_join 44 ss h0 h
  rw [hk] at hd
  generalize Lib.splitB ⟨#[44]⟩ 0 (ss.length - 1) t = bs at hd
  rw [← hd, List.map_map]
  have : ∀ b : ByteArray, ((fun l : List UInt8 => (⟨l.toArray⟩ : ByteArray)) ∘ fun x : ByteArray => x.data.toList) b = b := fun b => (mk_data b _ rfl).symm
  rw [List.map_congr_left (g := id) (fun b _ => this b), List.map_id]
theorem splitB_size (sep : ByteArray) : ∀ (k : Nat) (s p : ByteArray), p ∈ Lib.splitB sep 0 k s → p.size ≤ s.size
  | 0, s, p, h => by rw [Lib.splitB_zero] at h; rw [List.mem_singleton.1 h]; exact Nat.le_refl _
  | k + 1, s, p, h => by
    unfold Lib.splitB at h
    split at h
    · rw [List.mem_singleton.1 h]; exact Nat.le_refl _
    · rcases List.mem_cons.1 h with rfl | h
      · rw [ByteArray.size_extract]; omega
      · have := splitB_size sep k _ p h
        rw [ByteArray.size_extract] at this
        omega
end Go.Proofs.YtgkmipfcadiobaaDoor.Pl
