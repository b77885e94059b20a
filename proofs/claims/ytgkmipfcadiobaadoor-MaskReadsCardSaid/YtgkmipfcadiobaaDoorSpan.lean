/- What the library's variables hold (Lw), and the contracts of mask.span and of what it calls; the variables of the library lie as the rows list them. -/
import Derived.Test.YtgkmipfcadiobaaDoorTextW
import Derived.WideLaws
import Derived.Lib.AtoiErrMem
import Derived.WalkSpells
import Derived.WalkLawsBesides
set_option linter.unusedSimpArgs false
namespace Go.Proofs.YtgkmipfcadiobaaDoor
open Go.RowKit Go.Shelf Pl

/-- The library's variables: the table of package math/bits; bytealg.MaxLen holds some int; strconv.ErrSyntax and ErrRange hold errors. -/
structure Lw (w : World) : Prop where
  tab : TabAt 0 Lib.deBruijn64tab w
  mlen : ∃ m : Int, w.cell? ⟨1, 0, none⟩ = some (.int .i64 m)
  syn : ∃ ev, w.cell? ⟨2, 0, none⟩ = some ev ∧ (ev = .nilIface ∨ ∃ te pe, ev = .iface te pe)
  rng : ∃ ev, w.cell? ⟨3, 0, none⟩ = some ev ∧ (ev = .nilIface ∨ ∃ te pe, ev = .iface te pe)
theorem Lw.below {w W : World} (h : Lw w) (hb : Below w.heap.size w W) : Lw W := by
  obtain ⟨m, hm⟩ := h.mlen
  obtain ⟨e1, h1, k1⟩ := h.syn
  obtain ⟨e2, h2, k2⟩ := h.rng
  exact ⟨tabAt_below (tabAt_lt h.tab) h.tab hb, ⟨m, (hb.cell (p := ⟨1, 0, none⟩) (World.block_lt_of_cell? w _ hm)).trans hm⟩, ⟨e1, (hb.cell (p := ⟨2, 0, none⟩) (World.block_lt_of_cell? w _ h1)).trans h1, k1⟩, ⟨e2, (hb.cell (p := ⟨3, 0, none⟩) (World.block_lt_of_cell? w _ h2)).trans h2, k2⟩⟩
theorem Lw.drewN {w : World} (h : Lw w) (n : Nat) : Lw (w.drewN n) := h.below (below_drewN (Below.refl _ w) n)

def atoiV (l : List UInt8) : Int := match Lib.atoiAll l with
  | .ok v => v
  | .range => Lib.atoiSat l
  | _ => 0
def atoiOk (l : List UInt8) : Bool := match Lib.atoiAll l with
  | .ok _ => true
  | _ => false
theorem atoi_ok (s : ByteArray) (hs : s.size ≤ 1000000) (h : atoiOk s.data.toList = true) (w : World) :
    Calls Tryd.prog 74 #[.string s] w fun e w' => e = .returned (.tuple #[.int .i64 (atoiV s.data.toList), .nilIface]) ∧ Below w.heap.size w w' := by
  unfold atoiOk at h
  unfold atoiV
  cases ha : Lib.atoiAll s.data.toList with
  | ok v =>
    refine (Tryd.strconv_Atoi_ok s (by omega) v ha w).mono fun e w' ⟨he, hw⟩ => ⟨he, ?_⟩
    rcases hw with rfl | ⟨t, rfl⟩
    · exact Below.refl _ _
    · exact Lib.bytesWorld_below w 5 t
  | range => rw [ha] at h; cases h
  | _ => rw [ha] at h; cases h
theorem atoi_no (s : ByteArray) (hs : s.size ≤ 1000000) (h : atoiOk s.data.toList = false) (w : World) (hL : Lw w) :
    Calls Tryd.prog 74 #[.string s] w fun e w' => (∃ N, e = .returned (.tuple #[.int .i64 (atoiV s.data.toList), .iface 124 (.pointer (some ⟨N, 0, none⟩))])) ∧ Below w.heap.size w w' := by
  unfold atoiOk at h
  unfold atoiV
  cases ha : Lib.atoiAll s.data.toList with
  | ok v => rw [ha] at h; cases h
  | range =>
    obtain ⟨ev, h1, h2⟩ := hL.rng
    exact (Tryd.strconv_Atoi_range s (by omega) ha ev w h1 h2).mono fun e w' ⟨N, he, _, _, hb⟩ => ⟨⟨N, he⟩, hb⟩
  | _ =>
    obtain ⟨ev, h1, h2⟩ := hL.syn
    exact (Any.strconv_Atoi_syntax Tryd.laysC172 s (by omega) ha ev w h1 h2).mono fun e w' ⟨N, he, _, _, hb⟩ => ⟨⟨N, he⟩, hb⟩

theorem cut_calls (s : ByteArray) (hs : s.size ≤ 1000000) (w : World) (hL : Lw w) :
    Calls Tryd.prog 73 #[.string s, .string ⟨#[45]⟩] w fun e w' => e = .returned (.tuple #[.string ⟨(Lib.cut s.data.toList [45]).1.toArray⟩, .string ⟨(Lib.cut s.data.toList [45]).2.1.toArray⟩, .bool (Lib.cut s.data.toList [45]).2.2]) ∧ Below w.heap.size w w' := by
  obtain ⟨m, hm⟩ := hL.mlen
  exact (Tryd.strings_Cut s ⟨#[45]⟩ m w (by omega) hm).mono fun e w' ⟨he, n, hw⟩ => ⟨he, by rw [hw]; exact below_drewN (Below.refl _ w) n⟩

/-- A run's two ends, as texts. -/
def endsL (l : List UInt8) : List UInt8 × List UInt8 := ((Lib.cut l [45]).1, if (Lib.cut l [45]).2.2 = true then (Lib.cut l [45]).2.1 else (Lib.cut l [45]).1)
def spanOk (l : List UInt8) : Bool := atoiOk (endsL l).1 && (atoiOk (endsL l).2 && (decide (0 ≤ atoiV (endsL l).1) && decide (atoiV (endsL l).2 < 64)))
theorem cut_le (l : List UInt8) : (Lib.cut l [45]).1.length ≤ l.length ∧ (Lib.cut l [45]).2.1.length ≤ l.length := by
  unfold Lib.cut
  split <;> simp <;> omega
theorem atoiL (l : List UInt8) (hs : l.length ≤ 1000000) (w : World) (hL : Lw w) :
    Calls Tryd.prog 74 #[.string ⟨l.toArray⟩] w fun e w' => (atoiOk l = true ∧ e = .returned (.tuple #[.int .i64 (atoiV l), .nilIface]) ∨ atoiOk l = false ∧ ∃ N, e = .returned (.tuple #[.int .i64 (atoiV l), .iface 124 (.pointer (some ⟨N, 0, none⟩))])) ∧ Below w.heap.size w w' := by
  have e1 : (⟨l.toArray⟩ : ByteArray).data.toList = l := by simp
  have e2 : (⟨l.toArray⟩ : ByteArray).size ≤ 1000000 := by show l.toArray.size ≤ _; simpa using hs
  cases h : atoiOk l with
  | true => exact (atoi_ok ⟨l.toArray⟩ e2 (by rw [e1]; exact h) w).mono fun e w' hh => ⟨.inl ⟨rfl, by rw [e1] at hh; exact hh.1⟩, hh.2⟩
  | false => exact (atoi_no ⟨l.toArray⟩ e2 (by rw [e1]; exact h) w hL).mono fun e w' hh => ⟨.inr ⟨rfl, by rw [e1] at hh; exact hh.1⟩, hh.2⟩
theorem ret3b {a b : Value} {x y : Bool} (h : x = y) : Ending.returned (.tuple #[a, b, .bool x]) = .returned (.tuple #[a, b, .bool y]) := by rw [h]
set_option maxHeartbeats 1000000 in
theorem span_core (s a b : ByteArray) (va vb : Int) (oa ob is : Bool) (w : World) (hL : Lw w)
    (C : ∀ W, Lw W → Calls Tryd.prog 73 #[.string s, .string ⟨#[45]⟩] W fun e w' => e = .returned (.tuple #[.string a, .string b, .bool is]) ∧ Below W.heap.size W w')
    (A : ∀ W, Lw W → Calls Tryd.prog 74 #[.string a] W fun e w' => (oa = true ∧ e = .returned (.tuple #[.int .i64 va, .nilIface]) ∨ oa = false ∧ ∃ N, e = .returned (.tuple #[.int .i64 va, .iface 124 (.pointer (some ⟨N, 0, none⟩))])) ∧ Below W.heap.size W w')
    (B : ∀ W, Lw W → Calls Tryd.prog 74 #[.string (if is = true then b else a)] W fun e w' => (ob = true ∧ e = .returned (.tuple #[.int .i64 vb, .nilIface]) ∨ ob = false ∧ ∃ N, e = .returned (.tuple #[.int .i64 vb, .iface 124 (.pointer (some ⟨N, 0, none⟩))])) ∧ Below W.heap.size W w') :
    Calls Tryd.prog 60 #[.string s] w fun e w' => e = .returned (.tuple #[.int .i64 va, .int .i64 vb, .bool (oa && (ob && (decide (0 ≤ va) && decide (vb < 64))))]) ∧ Below w.heap.size w w' := by
  have HC := Lib.hid C
  have HA := Lib.hid A
  have HB := Lib.hid B
  have HL := Lib.hid hL
  clear C A B hL
  cases is
  all_goals
    go_enter Tryd.func60, Tryd.ntmps60
    go_wp2_with fail
    refine (HC.out _ HL.out).mono ?_
    rintro e w1 ⟨rfl, hb1⟩
    have H1 := Lib.hid hb1
    clear hb1
    go_wp2_with fail
    refine (HA.out _ (HL.out.below H1.out)).mono ?_
    rintro e w2 ⟨he, hb2⟩
    have H2 := Lib.hid (H1.out.trans (hb2.mono H1.out.size))
    clear hb2
    rcases he with ⟨rfl, rfl⟩ | ⟨rfl, N, rfl⟩
  all_goals
    go_wp2_with fail
    refine (HB.out _ (HL.out.below H2.out)).mono ?_
    rintro e w3 ⟨he, hb3⟩
    have H3 := Lib.hid (H2.out.trans (hb3.mono H2.out.size))
    clear hb3
    rcases he with ⟨rfl, rfl⟩ | ⟨rfl, M, rfl⟩
  all_goals
    go_wp2
  all_goals
    go_ret3
    first
      | exact ⟨ret3b (by first | rfl | (simp; done) | (simp only [Bool.and_eq_true, Bool.true_and, Bool.false_and, decide_eq_true_eq, decide_eq_false_iff_not, Bool.false_eq, Bool.true_eq, Bool.and_eq_false_imp]; omega) | (symm; simp; omega) | (simp; omega)), H3.out⟩
theorem span_calls (s : ByteArray) (hs : s.size ≤ 1000000) (w : World) (hL : Lw w) :
    Calls Tryd.prog 60 #[.string s] w fun e w' => e = .returned (.tuple #[.int .i64 (atoiV (endsL s.data.toList).1), .int .i64 (atoiV (endsL s.data.toList).2), .bool (spanOk s.data.toList)]) ∧ Below w.heap.size w w' := by
  have hl : s.data.toList.length ≤ 1000000 := by simpa using hs
  have hc := cut_le s.data.toList
  have h2 : (endsL s.data.toList).2.length ≤ 1000000 := by unfold endsL; split <;> simp only <;> omega
  refine span_core s ⟨(Lib.cut s.data.toList [45]).1.toArray⟩ ⟨(Lib.cut s.data.toList [45]).2.1.toArray⟩ _ _ _ _ (Lib.cut s.data.toList [45]).2.2 w hL (fun W h => cut_calls s hs W h) (fun W h => atoiL _ (by omega) W h) (fun W h => ?_)
  have := atoiL (endsL s.data.toList).2 h2 W h
  have e : (if (Lib.cut s.data.toList [45]).2.2 = true then (⟨(Lib.cut s.data.toList [45]).2.1.toArray⟩ : ByteArray) else ⟨(Lib.cut s.data.toList [45]).1.toArray⟩) = ⟨(endsL s.data.toList).2.toArray⟩ := by unfold endsL; split <;> rfl
  rw [e]
  exact this
end Go.Proofs.YtgkmipfcadiobaaDoor
