/- The closures that load.Balance hands to the library: their contracts; and the sorts of nothing. slices.SortStableFunc of nothing. slices.Clone, and the two sorts of load.Balance, in the words of the rows that a call owns. A slice of seats that comes in, opened. Plain laws of load.Loads and load.Choose, as printed. -/
import Derived.Test.YtgkmipfcadiobaaDoorLE
import Derived.Test.YtgkmipfcadiobaaDoorGAx1
import Derived.Test.YtgkmipfcadiobaaDoorShelf
import Derived.Sort.Grow
import Derived.Laws.OwnMore
import Derived.ProofKit
import Derived.ChangeOld
import Derived.Deep.SlicePairs
import Derived.Deep.Strs
set_option linter.unusedVariables false
namespace Go.Proofs.YtgkmipfcadiobaaDoor
open Go Go.Shelf Go.RowKit Go.Lib Go.Sort
open Go.Proofs.YtgkmipfcadiobaaDoor.GA (S38 z38 k38)
instance : Inhabited S38 := ⟨z38⟩
def encS (s : S38) : List Value := [.int .i64 s.f0, .int .i64 s.f1, .int .u64 s.f2]
def cfS (x y : S38) : Int := Lib.compareInt x.f0 y.f0
theorem cmpId (x y : S38) (w : World) : Calls Tryd.prog 55 #[.agg (encS x).toArray, .agg (encS y).toArray] w fun e w' => e = .returned (.int .i64 (cfS x y)) ∧ ∃ q os', w' = grow (w.drewN q) os' := by
  unfold encS cfS
  go_enter Tryd.func55, Tryd.ntmps55
  go_wp2_with (go_at_call 52; refine Calls.mono (Tryd.cmp_Compare_int _ _ _) ?_; rintro e w' ⟨rfl, rfl⟩)
  go_ret
  exact ⟨rfl, 0, #[_, _], by rw [alloc_eq_grow, alloc_eq_grow, grow_grow]; rfl⟩
theorem cmpId_lays (blk off size : Nat) (w : World) : CmpLays Tryd.prog 55 #[] encS 3 cfS blk off size w := by
  intro m os dk _ x y
  exact cmpId x y _
def encC (c : Fin 64) : Value := .int .i64 ((c.val : Nat) : Int)
/-- The loads' cells, behind a closure's captured variable. -/
structure LoadsAt (w : World) (c lb cap : Nat) (l : List Int) : Prop where
  len : l.length = 64
  box : w.cell? ⟨c, 0, none⟩ = some (.slice (some ⟨lb, 0, none⟩) 64 cap)
  row : ∀ i, i < 64 → w.cell? ⟨lb, i, none⟩ = some (.int .i64 (l.getD i 0))
theorem cmpLoad (c lb cap : Nat) (l : List Int) (x y : Nat) (hx : x < 64) (hy : y < 64) (w : World) (h : LoadsAt w c lb cap l) :
    Calls Tryd.prog 51 #[.int .i64 (x : Nat), .int .i64 (y : Nat), .pointer (some ⟨c, 0, none⟩)] w fun e w' => e = .returned (.int .i64 (Lib.compareInt (l.getD y 0) (l.getD x 0))) ∧ ∃ q os', w' = grow (w.drewN q) os' := by
  have mixed : Tryd.prog.follows .mixedOrders = true := by kernel_rfl
  have cls : ∀ (a : Addr) (v : Value), w.cell? a = some v → ∀ n os', (grow (w.drewN n) os').cell? a = some v := fun a v ha n os' => by
    rw [cell?_grow _ _ _ (by exact World.block_lt_of_cell? w _ ha)]; exact ha
  have hb := cls _ _ h.box
  have c1 := cls _ _ (h.row x hx)
  have c2 := cls _ _ (h.row y hy)
  have n1 : ((x : Int)).toNat = x := by omega
  have n2 : ((y : Int)).toNat = y := by omega
  have b1 : (x : Int) < 64 := by omega
  have b2 : (y : Int) < 64 := by omega
  have p1 : (0 : Int) ≤ (x : Int) := by omega
  have p2 : (0 : Int) ≤ (y : Int) := by omega
  clear h cls
  generalize l.getD x 0 = vx at *
  generalize l.getD y 0 = vy at *
  have hc : ∀ n os', Calls Tryd.prog 52 #[.int .i64 vy, .int .i64 vx] (grow (w.drewN n) os') fun e w' => e = .returned (.int .i64 (Lib.compareInt vy vx)) ∧ ∃ q os'', w' = grow ((grow (w.drewN n) os').drewN q) os'' := fun n os' =>
    Calls.mono (Tryd.cmp_Compare_int vy vx _) (fun e w' ⟨he, hw⟩ => ⟨he, 0, #[], by rw [hw, grow_empty]; rfl⟩)
  go_enter Tryd.func51, Tryd.ntmps51
  go_wp2_with fail
  go_quiet_grown (first | (go_at_call 52; refine Calls.grown_of (hc _ _)))
  go_wp2
  go_ret
  exact ⟨rfl, _, _, rfl⟩
def cfC (l : List Int) (x y : Fin 64) : Int := Lib.compareInt (l.getD y.val 0) (l.getD x.val 0)
theorem LoadsAt.on {w : World} {c lb cap : Nat} {l : List Int} (h : LoadsAt w c lb cap l) {blk off : Nat} (hc : c ≠ blk) (hl : lb ≠ blk) (enc : Fin 64 → Value) (m : Nat) (dk : Array (Fin 64)) (os : Array Obj) : LoadsAt (sortWorld enc w blk off m dk os) c lb cap l := by
  have key : ∀ (a : Addr) (v : Value), a.block ≠ blk → w.cell? a = some v → (sortWorld enc w blk off m dk os).cell? a = some v := fun a v ha hv => by
    unfold sortWorld
    have h1 : (putRow enc (Sort.ahead w m) blk off dk).cell? a = some v := by rw [cell?_putRow_other _ _ _ _ _ _ (.inl ha)]; exact hv
    rw [cell?_grow _ _ _ (World.block_lt_of_cell? _ _ h1)]
    exact h1
  exact ⟨h.len, key _ _ hc h.box, fun i hi => key _ _ hl (h.row i hi)⟩
theorem cmpLoad_lays (w : World) (c lb cap : Nat) (l : List Int) (h : LoadsAt w c lb cap l) (blk off size : Nat) (hc : c ≠ blk) (hl : lb ≠ blk) :
    CmpLays1 Tryd.prog 51 #[.pointer (some ⟨c, 0, none⟩)] encC (cfC l) blk off size w := by
  intro m os dk _ x y
  exact cmpLoad c lb cap l x.val y.val x.isLt y.isLt _ (h.on hc hl encC m dk os)
theorem ltOf_swo {α : Type} (f : α → Int) : SWO (ltOf fun x y => Lib.compareInt (f x) (f y)) := by
  have key : ∀ a b : Int, decide (Lib.compareInt a b < 0) = decide (a < b) := fun a b => by
    unfold Lib.compareInt
    rcases Int.lt_trichotomy a b with h | h | h
    · simp [h]
    · subst h; simp
    · have : ¬ a < b := by omega
      simp [this, h]
  constructor
  · intro x; simp [ltOf, key]
  · intro x y z h1 h2; simp only [ltOf, key, decide_eq_true_eq] at *; omega
  · intro x y z h1 h2; simp only [ltOf, key, decide_eq_false_iff_not] at *; omega
theorem cfS_swo : SWO (ltOf cfS) := ltOf_swo (fun x : S38 => x.f0)
theorem cfC_swo (l : List Int) : SWO (ltOf (cfC l)) := by
  have h := ltOf_swo (fun x : Fin 64 => l.getD x.val 0)
  exact ⟨fun x => h.irrefl x, fun x y z h1 h2 => h.trans z y x h2 h1, fun x y z h1 h2 => h.ntrans z y x h2 h1⟩
end Go.Proofs.YtgkmipfcadiobaaDoor
set_option linter.unusedVariables false
namespace Go.Proofs.YtgkmipfcadiobaaDoor
open Go Go.Shelf Go.RowKit Go.Lib Go.Sort
set_option maxRecDepth 1000000 in
theorem insNil81 (fv : Value) (w : World) : Calls Tryd.prog 81 #[.slice none 0 0, .int .i64 0, .int .i64 0, fv] w fun e w' => e = .returned (.tuple #[]) ∧ w' = w := by
  go_enter Tryd.func81, Tryd.ntmps81
  go_wp2
  refine wp_loop_rounds 1 ?_
  rw [rounds_succ]
  go_wp2
  go_end0
  exact ⟨rfl, rfl⟩
set_option maxRecDepth 1000000 in
theorem insNil83 (fv : Value) (w : World) : Calls Tryd.prog 83 #[.slice none 0 0, .int .i64 0, .int .i64 0, fv] w fun e w' => e = .returned (.tuple #[]) ∧ w' = w := by
  go_enter Tryd.func83, Tryd.ntmps83
  go_wp2
  refine wp_loop_rounds 1 ?_
  rw [rounds_succ]
  go_wp2
  go_end0
  exact ⟨rfl, rfl⟩
set_option maxRecDepth 1000000 in
theorem sortNil1 (fv : Value) (w : World) : Calls Tryd.prog 50 #[.slice none 0 0, fv] w fun e w' => e = .returned (.tuple #[]) ∧ w' = w := by
  have C : Calls Tryd.prog 69 #[.slice none 0 0, .int .i64 0, fv] w fun e w' => e = .returned (.tuple #[]) ∧ w' = w := by
    go_enter Tryd.func69, Tryd.ntmps69
    go_wp2
    refine wp_loop_rounds 1 ?_
    rw [rounds_succ]
    go_wp2_with (go_at_call 81; refine Calls.mono (insNil81 fv w) ?_; rintro e w' ⟨rfl, rfl⟩)
    refine wp_loop_rounds 1 ?_
    rw [rounds_succ]
    go_wp2
    go_end0
    exact ⟨rfl, rfl⟩
  have HC := (show Hid _ from C)
  clear C
  go_enter Tryd.func50, Tryd.ntmps50
  go_wp2_with (go_at_call 69; refine Calls.mono (Hid.out HC) ?_; rintro e w' ⟨rfl, rfl⟩)
  go_end0
  exact ⟨rfl, rfl⟩
set_option maxRecDepth 1000000 in
theorem sortNilQ (fv : Value) (w : World) : Calls Tryd.prog 54 #[.slice none 0 0, fv] w fun e w' => e = .returned (.tuple #[]) ∧ w' = w := by
  have C : Calls Tryd.prog 71 #[.slice none 0 0, .int .i64 0, fv] w fun e w' => e = .returned (.tuple #[]) ∧ w' = w := by
    go_enter Tryd.func71, Tryd.ntmps71
    go_wp2
    refine wp_loop_rounds 1 ?_
    rw [rounds_succ]
    go_wp2_with (go_at_call 83; refine Calls.mono (insNil83 fv w) ?_; rintro e w' ⟨rfl, rfl⟩)
    refine wp_loop_rounds 1 ?_
    rw [rounds_succ]
    go_wp2
    go_end0
    exact ⟨rfl, rfl⟩
  have HC := (show Hid _ from C)
  clear C
  go_enter Tryd.func54, Tryd.ntmps54
  go_wp2_with (go_at_call 71; refine Calls.mono (Hid.out HC) ?_; rintro e w' ⟨rfl, rfl⟩)
  go_end0
  exact ⟨rfl, rfl⟩
end Go.Proofs.YtgkmipfcadiobaaDoor
set_option linter.unusedVariables false
namespace Go.Proofs.YtgkmipfcadiobaaDoor
open Go Go.Shelf Go.RowKit Go.Lib Go.Sort Pl
open Go.Proofs.YtgkmipfcadiobaaDoorW.PrintWords
open Go.Proofs.YtgkmipfcadiobaaDoor.GA (S38 z38 k38 k38_open)
section G
variable {α : Type} [Inhabited α]
theorem heapG {w : World} {g n : Nat} {os : Array Obj} {cur : Array Value} {e : TypeId} {fr : Nat × Nat} (enc : α → Value) (d : Array α) (hb : w.heap[g]? = some (.cells cur e fr)) :
    (grow (putRow enc (Sort.ahead w n) g 0 d) os).heap[g]? = some (.cells (putCells enc 0 d cur) e fr) := by
  have hg : g < w.heap.size := (Array.getElem?_eq_some_iff.1 hb).1
  rw [heap_grow_old _ _ (by simpa using hg)]
  simp [putRow, mapBlock, Sort.ahead, Array.getElem?_modify, hb, onCells]
theorem keepG {w : World} {g n : Nat} {os : Array Obj} (enc : α → Value) (d : Array α) {k : Nat} (hk : k < w.heap.size) (hne : k ≠ g) : (grow (putRow enc (Sort.ahead w n) g 0 d) os).heap[k]? = w.heap[k]? := by
  rw [heap_grow_old _ _ (by simpa using hk)]
  simp [putRow, mapBlock, Sort.ahead, Array.getElem?_modify, Ne.symm hne]
theorem belowG {w : World} {g n B : Nat} {os : Array Obj} (enc : α → Value) (d : Array α) (hg : B ≤ g) (hB : B ≤ w.heap.size) : Below B w (grow (putRow enc (Sort.ahead w n) g 0 d) os) :=
  ⟨rfl, rfl, rfl, by simp, fun k hk => keepG enc d (by omega) (by omega)⟩
theorem cellG {w : World} {g n : Nat} {os : Array Obj} (enc : α → Value) (d0 d : Array α) (h : Holds enc w g 0 d0) (hs : d.size = d0.size) (hg : g < w.heap.size) {j : Nat} (hj : j < d.size) :
    (grow (putRow enc (Sort.ahead w n) g 0 d) os).cell? ⟨g, j, none⟩ = some (enc d[j]!) := by
  rw [cell?_grow _ _ _ (by simpa using hg)]
  have := cell?_putRow enc (Sort.ahead w n) g 0 d0 d (holds_ahead enc w n g 0 d0 h) hs j hj
  rwa [Nat.zero_add] at this
end G
/-- Whole numbers that a slice reads. -/
def IntsAt (W : World) (A : Option Addr) (l : List Int) : Prop := ∀ i, i < l.length → ∃ g, A = some ⟨g, 0, none⟩ ∧ W.cell? ⟨g, i, none⟩ = some (.int .i64 (l.getD i 0))
def SeatsAt (W : World) (A : Option Addr) (l : List S38) : Prop := ∀ i, i < l.length → ∃ g, A = some ⟨g, 0, none⟩ ∧ ∀ j v, (encS (l.getD i z38))[j]? = some v → W.cell? ⟨g, i * 3 + j, none⟩ = some v
theorem IntsAt.below {W W' : World} {A : Option Addr} {l : List Int} (h : IntsAt W A l) (hb : Below W.heap.size W W') : IntsAt W' A l := fun i hi => by
  obtain ⟨g, e, hc⟩ := h i hi
  exact ⟨g, e, (hb.cell (World.block_lt_of_cell? _ _ hc)).trans hc⟩
theorem SeatsAt.below {W W' : World} {A : Option Addr} {l : List S38} (h : SeatsAt W A l) (hb : Below W.heap.size W W') : SeatsAt W' A l := fun i hi => by
  obtain ⟨g, e, hc⟩ := h i hi
  exact ⟨g, e, fun j v hv => (hb.cell (World.block_lt_of_cell? _ _ (hc j v hv))).trans (hc j v hv)⟩
theorem e51 : ∀ args w, (callFunc 51 args).run Tryd.prog w = .ok (.enter 51 args) w := enters_of Tryd.func51 (by kernel_rfl) rfl
theorem e55 : ∀ args w, (callFunc 55 args).run Tryd.prog w = .ok (.enter 55 args) w := enters_of Tryd.func55 (by kernel_rfl) rfl
theorem encC_one : OneCell encC := fun _ => rfl
theorem info38 : (Tryd.prog.info? 38).map (fun i => (i.zero, i.size, i.bytes)) = some (some (.agg #[.int .i64 0, .int .i64 0, .int .u64 0]), 3, 24) := by kernel_rfl
set_option maxHeartbeats 1000000 in
theorem clone53 (A0 : Option Addr) (n c : Nat) (l : List S38) (w : World) (hr : Kd.C k38 w A0 n l) (hn : n ≤ 1000000) :
    Calls Tryd.prog 53 #[.slice A0 n c] w fun e w' => ∃ v inner, e = .returned v ∧ w'.ownsRow w.heap.size 38 3 v n inner ∧ Reps (k38.K w) 3 l inner ∧ Below w.heap.size w w' := by
  cases A0 with
  | none =>
    obtain rfl : n = 0 := by
      rcases Nat.eq_zero_or_pos n with h | h
      · exact h
      · obtain ⟨_, e, _⟩ := hr.2.2 h; cases e
    obtain rfl : l = [] := List.length_eq_zero_iff.1 hr.1
    refine (AnyE.slices_Clone_nil Tryd.laysClone53 0 c w).mono ?_
    rintro e w' ⟨rfl, rfl⟩
    exact ⟨_, [], rfl, World.ownsRow_nil _ _ _ _, Reps.none _ _, Below.refl _ _⟩
  | some ad =>
    have hr' : ReadsRow (k38.K w) 3 w (some ad) n l := hr
    obtain ⟨inner, hR, hc⟩ := hr'.inner_
    have hl : l.length = n := hr.1
    have h1 : ∀ u ∈ inner, u.oneCell' = true := by
      intro u hu
      obtain ⟨t, ht, rfl⟩ := List.mem_iff_getElem.1 hu
      have hlen : inner.length = l.length * 3 := hR.1
      have ht3 : t / 3 < l.length := by omega
      have hk := hR.2 (t / 3) _ (List.getElem?_eq_getElem ht3)
      refine k38.K_one hk _ (List.mem_iff_getElem?.2 ⟨t % 3, ?_⟩)
      rw [List.getElem?_take_of_lt (by omega), List.getElem?_drop, show t / 3 * 3 + t % 3 = t by omega, List.getElem?_eq_getElem ht]
    have mixed : Tryd.prog.follows .mixedOrders = true := by kernel_rfl
    obtain ⟨i0, hi, hz0, hz1, hz2⟩ := info_parts info38
    have q22 : ∀ (w : World) (a : Option Addr) (n c n' c' : Nat), (binOp .eql 22 (.slice a n c) (.slice none n' c')).run Tryd.prog w = .ok (.bool a.isNone) w := fun w a n c n' c' => Lib.run_eql_slice_nil w _ _ a n c n' c' Tryd.underlying22
    have A : Aside _ := hc
    have A1 : Aside _ := h1
    have AR : Aside _ := hR
    clear hc h1 hr hr' hR
    go_enter Tryd.func53, Tryd.ntmps53
    go_wp2_with (at_builtin; refine wpList_append_own _ rfl _ _ 22 rfl w.heap.size 38 i0 _ 3 24 Tryd.underlying22 hi hz0 hz1 hz2 rfl (by decide) _ _ _ rfl (World.ownsRow_made w #[] 0 (Nat.le_refl _) (Nat.zero_le _) (by simp)) ad n c inner rfl ?qc1 ?qc2 ?qc3 ?qc4 ?qc5 ?qc6 ?_)
    case qc1 => have := AR.out.1; omega
    case qc2 =>
      intro j u hj
      exact Lib.cell?_alloc_some _ (A.out j u hj)
    case qc3 => exact A1.out
    case qc4 => unfold maxLen; omega
    case qc5 => omega
    case qc6 => simp
    intro v' w1 hown hgrow hnil
    go_wp2
    go_ret
    refine ⟨v', inner, rfl, by simpa using hown, AR.out, ?_⟩
    exact ((Below.refl _ w).alloc (Nat.le_refl _) _).grown hgrow (by simp) (by intro k hk; simp [Value.ownBlock] at hk; omega)
theorem encS_one : ∀ x, ∀ v ∈ encS x, v.oneCell' = true := by
  intro x v hv
  simp only [encS, List.mem_cons, List.not_mem_nil, or_false] at hv
  rcases hv with rfl | rfl | rfl <;> rfl
theorem sort_seats (W Wr : World) (base : Nat) (v : Value) (l : List S38) (inner : List Value) (ho : W.ownsRow base 38 3 v l.length inner) (hr : Reps (k38.K Wr) 3 l inner) (hbs : base ≤ W.heap.size) (hn : l.length ≤ 1000000) :
    Calls Tryd.prog 54 #[v, .func (.func 55) #[] #[]] W fun e W' => e = .returned (.tuple #[]) ∧ Below base W W' ∧ ∃ A cp, v = .slice A l.length cp ∧ SeatsAt W' A (stL (ltOf cfS) l) := by
  rcases ho.2 with ⟨rfl, h0⟩ | ⟨g, cap, cur, rfl, hg, hh, hcap, _, hcs, htk⟩
  · obtain rfl : l = [] := List.length_eq_zero_iff.1 h0
    refine (sortNilQ _ W).mono ?_
    rintro e w' ⟨rfl, rfl⟩
    exact ⟨rfl, Below.refl _ _, none, 0, rfl, fun i hi => by simp [stL_nil] at hi⟩
  · have hgs : g < W.heap.size := (Array.getElem?_eq_some_iff.1 hh).1
    have hH : HoldsK encS 3 W g 0 l.toArray := by
      intro t ht
      rw [size_flatK] at ht
      have ht : t < l.length * 3 := by simpa using ht
      refine ⟨?_, by simp [World.frozen?, hh]⟩
      rw [get_flatK _ _ _ _ (by simpa using ht)]
      have ht3 : t / 3 < l.length := by omega
      have hk := hr.2 (t / 3) _ (List.getElem?_eq_getElem ht3)
      have hk2 := k38_open hk
      have e1 : inner[t]? = some ((encS l[t / 3])[t % 3]!) := by
        have : ((inner.drop (t / 3 * 3)).take 3)[t % 3]? = (encS l[t / 3])[t % 3]? := by rw [hk2]; rfl
        rw [List.getElem?_take_of_lt (by omega), List.getElem?_drop, show t / 3 * 3 + t % 3 = t by omega] at this
        rw [this, List.getElem?_eq_getElem (by simp [encS]; omega), getElem!_pos _ _ (by simp [encS]; omega)]
      have e2 : cur[t]? = inner[t]? := by
        rw [← htk, List.getElem?_take_of_lt (by omega), Array.getElem?_toList]
      simp only [World.cell?, hh, Nat.zero_add, Option.isSome_none, Bool.false_eq_true, if_false]
      rw [e2, e1]
      simp [ht3]
    have R : RowK encS 3 W g 0 l.toArray := ⟨fun _ => rfl, encS_one, hH, hgs⟩
    have C := sortStableQ encS cfS cfS_swo 55 #[] g 0 cap l.toArray W W e55 (cmpId_lays g 0 l.toArray.size W) R (by simp; omega) (SWK.start hH)
    simp only [List.size_toArray] at C
    refine C.mono ?_
    rintro e W' ⟨rfl, S⟩
    have hlen : (stL (ltOf cfS) l).length = l.length := stL_length cfS_swo l
    refine ⟨rfl, ?_, some ⟨g, 0, none⟩, cap, rfl, ?_⟩
    · obtain ⟨m, os, rfl⟩ := S
      exact belowG id _ hg hbs
    · have hK := S.holds hgs hH (by simp [hlen])
      intro i hi
      refine ⟨g, rfl, fun j v hv => ?_⟩
      have hj : j < 3 := by
        have := (List.getElem?_eq_some_iff.1 hv).1
        simpa [encS] using this
      have := (HoldsK.cell hK (i := i) (c := j) (by simpa using hi) hj).1
      rw [Nat.zero_add] at this
      rw [this]
      have e3 : (stL (ltOf cfS) l).toArray[i]! = (stL (ltOf cfS) l).getD i z38 := by
        simp [hi, List.getD]
      rw [e3]
      congr 1
      rw [getElem!_pos _ _ (by simpa [encS] using hj)]
      exact (List.getElem?_eq_some_iff.1 hv).2
theorem sort_cores (W : World) (base : Nat) (v : Value) (l : List (Fin 64)) (c lb lcap : Nat) (loads : List Int) (ho : W.ownsRow base 3 1 v l.length (l.map encC)) (hL : LoadsAt W c lb lcap loads) (hc : c < base) (hlb : lb < base) (hbs : base ≤ W.heap.size) (hn : l.length ≤ 1000000) :
    Calls Tryd.prog 50 #[v, .func (.func 51) #[] #[.pointer (some ⟨c, 0, none⟩)]] W fun e W' => e = .returned (.tuple #[]) ∧ Below base W W' ∧ ∃ A cp, v = .slice A l.length cp ∧ IntsAt W' A ((stL (ltOf (cfC loads)) l).map fun c => ((c.val : Nat) : Int)) ∧ (∀ g, A = some ⟨g, 0, none⟩ → g < W.heap.size) := by
  rcases ho.2 with ⟨rfl, h0⟩ | ⟨g, cap, cur, rfl, hg, hh, hcap, _, hcs, htk⟩
  · obtain rfl : l = [] := List.length_eq_zero_iff.1 h0
    refine (sortNil1 _ W).mono ?_
    rintro e w' ⟨rfl, rfl⟩
    exact ⟨rfl, Below.refl _ _, none, 0, rfl, fun i hi => by simp [stL_nil] at hi, fun g hg => by cases hg⟩
  · have hgs : g < W.heap.size := (Array.getElem?_eq_some_iff.1 hh).1
    have hH : Holds encC W g 0 l.toArray := by
      intro t ht
      have ht : t < l.length := by simpa using ht
      refine ⟨?_, by simp [World.frozen?, hh]⟩
      have e2 : cur[t]? = some (encC l[t]) := by
        have this : (cur.toList.take (l.length * 1))[t]? = (l.map encC)[t]? := by rw [htk]
        rw [List.getElem?_take_of_lt (by omega), Array.getElem?_toList] at this
        rw [this]
        simp [ht]
      simp only [World.cell?, hh, Nat.zero_add, Option.isSome_none, Bool.false_eq_true, if_false]
      rw [e2]
      simp [ht]
    have R : Row1 encC W g 0 l.toArray := ⟨encC_one, hH, hgs⟩
    have C := sortStable1 encC (cfC loads) (cfC_swo loads) 51 #[.pointer (some ⟨c, 0, none⟩)] g 0 cap l.toArray W W e51 (cmpLoad_lays W c lb lcap loads hL g 0 l.toArray.size (by omega) (by omega)) R (by simp; omega) (SW.start hH)
    simp only [List.size_toArray] at C
    refine C.mono ?_
    rintro e W' ⟨rfl, S⟩
    have hlen : (stL (ltOf (cfC loads)) l).length = l.length := stL_length (cfC_swo loads) l
    refine ⟨rfl, ?_, some ⟨g, 0, none⟩, cap, rfl, ?_, fun g' e => by cases e; exact hgs⟩
    · obtain ⟨m, os, rfl⟩ := S
      exact belowG encC _ hg hbs
    · intro i hi
      have hi' : i < (stL (ltOf (cfC loads)) l).length := by simpa using hi
      refine ⟨g, rfl, ?_⟩
      have := S.c1 R (by simp [hlen]) i (by simpa using hi')
      rw [Nat.zero_add] at this
      rw [this]
      simp [hi', List.getD, encC]
end Go.Proofs.YtgkmipfcadiobaaDoor
set_option linter.unusedVariables false
namespace Go.Proofs.YtgkmipfcadiobaaDoor
open Go Go.ChangeShapes Go.WideShapes Go.Deep
open Go.Proofs.YtgkmipfcadiobaaDoorW.PrintWords
open Go.Proofs.YtgkmipfcadiobaaDoor.GA (S38 z38 k38 k38_mk)
def okSeat (s : S38) : Prop := (Lit.int .i64 s.f0).wf = true ∧ (Lit.int .i64 s.f1).wf = true ∧ (Lit.int .u64 s.f2).wf = true
theorem list3 {α : Type} : ∀ (l : List α), l.length = 3 → ∃ a b c, l = [a, b, c]
  | [a, b, c], _ => ⟨a, b, c, rfl⟩
theorem open_seat {H : Type} {enc : TypeId × Value → H} {W : World} {base : Nat} {spare : Nat → Bool} {held : Bool} {n : Nat} {cs : List Value} {x : DataW H × List MemPlace}
    (h : DataW.trod enc Tryd.prog W base spare held n 38 cs = some x) : ∃ s : S38, cs = [.int .i64 s.f0, .int .i64 s.f1, .int .u64 s.f2] ∧ okSeat s := by
  obtain ⟨y0, y1, y2, m, rfl, hl, h0, h1, h2⟩ := trod_struct3 Tryd.underlying38 h
  have c38 : Tryd.prog.cellsOf 38 = 3 := by kernel_rfl
  have c3 : Tryd.prog.cellsOf 3 = 1 := by kernel_rfl
  have c23 : Tryd.prog.cellsOf 23 = 1 := by kernel_rfl
  rw [c38] at hl
  obtain ⟨u0, u1, u2, rfl⟩ := list3 cs hl
  simp only [c3, c23] at h0 h1 h2
  obtain ⟨n0, e0, _, w0⟩ := DataW.trod_int Tryd.underlying3 h0
  obtain ⟨n1, e1, _, w1⟩ := DataW.trod_int Tryd.underlying3 h1
  obtain ⟨n2, e2, _, w2⟩ := DataW.trod_int Tryd.underlying23 h2
  have e0' : u0 = .int .i64 n0 := by simpa using e0
  have e1' : u1 = .int .i64 n1 := by simpa using e1
  have e2' : u2 = .int .u64 n2 := by simpa using e2
  subst e0' e1' e2'
  exact ⟨⟨n0, n1, n2⟩, rfl, w0, w1, w2⟩
theorem open_seats {H : Type} {enc : TypeId × Value → H} {W : World} {base : Nat} {spare : Nat → Bool} {held : Bool} {fuel : Nat} {cs : List Value} {x : DataW H × List MemPlace}
    (h : DataW.trod enc Tryd.prog W base spare held fuel 22 cs = some x) :
    (cs = [.slice none 0 0]) ∨ ∃ (a : Addr) (len cap : Nat) (zs : List S38), cs = [.slice (some a) len cap] ∧ len ≤ cap ∧ cap ≤ maxLen ∧ zs.length = len ∧ Kd.C k38 W (some a) len zs ∧ ∀ s ∈ zs, okSeat s := by
  rcases open_slice Tryd.underlying22 h with ⟨h0, _⟩ | ⟨a, len, cap, m, n, D, Pl, rfl, hb, hl, hm, hmm, _, hx⟩
  · exact .inl h0
  right
  have c38 : Tryd.prog.cellsOf 38 = 3 := by kernel_rfl
  have hlm : len ≤ m := by rw [hmm]; split <;> omega
  have each : ∀ i, i < len → ∃ s : S38, okSeat s ∧ ∀ j u, ([.int .i64 s.f0, .int .i64 s.f1, .int .u64 s.f2] : List Value)[j]? = some u → W.cell? (a.add (i * 3 + j)) = some u := by
    intro i hi
    obtain ⟨cs', h1, h2⟩ := hx i (by omega)
    rw [c38] at h1
    obtain ⟨_, hlen, hcell⟩ := World.cells?_some h1
    obtain ⟨s, rfl, hs⟩ := open_seat h2
    refine ⟨s, hs, fun j u hu => ?_⟩
    have hj : j < 3 := by have := (List.getElem?_eq_some_iff.1 hu).1; simpa using this
    have := hcell j (by omega)
    rw [Deep.add_add] at this
    rw [this]
    rw [← hu]
  obtain ⟨q, hq⟩ := choose_lt each
  refine ⟨a, len, cap, (List.range len).map q, rfl, hl, hm, by simp, ⟨by simp, ?_, fun _ => ⟨a, rfl, fun j p hj => ?_⟩⟩, ?_⟩
  · have : cap ≤ 9223372036854775807 := by simpa [maxLen] using hm
    omega
  · have hjl : j < len := by have := (List.getElem?_eq_some_iff.1 hj).1; simpa using this
    have hp : p = q j := by simp [hjl] at hj; exact hj.symm
    subst hp
    exact ⟨[.int .i64 (q j).f0, .int .i64 (q j).f1, .int .u64 (q j).f2], rfl, k38_mk W _, fun i u hu => (hq j hjl).2 i u hu⟩
  · intro s hs
    simp only [List.mem_map, List.mem_range] at hs
    obtain ⟨j, hj, rfl⟩ := hs
    exact (hq j hj).1
end Go.Proofs.YtgkmipfcadiobaaDoor
set_option linter.unusedVariables false
namespace Go.Proofs.YtgkmipfcadiobaaDoor
open Go Go.RowKit Pl
open Go.Proofs.YtgkmipfcadiobaaDoorW.PrintWords Go.Proofs.YtgkmipfcadiobaaDoorW.PrintMore GivenT GA
theorem wrap64_id {n : Int} (h1 : -9223372036854775808 ≤ n) (h2 : n ≤ 9223372036854775807) : wrap64 n = n := by unfold wrap64; omega
/-- How many seats are on a core. -/
def loadN (l : List S38) (c : Nat) : Nat := (l.filter fun s => s.f1 == (c : Int)).length
def loadsL (l : List S38) (n : Nat) : List Int := (List.range n).map fun c => ((loadN l c : Nat) : Int)
theorem loadsL_length (l : List S38) (n : Nat) : (loadsL l n).length = n := by simp [loadsL]
theorem loadsL_get (l : List S38) (n i : Nat) (h : i < n) : (loadsL l n).getD i 0 = (loadN l i : Nat) := by simp [loadsL, List.getD, h]
theorem loadN_le (l : List S38) (c : Nat) : loadN l c ≤ l.length := List.length_filter_le _ _
theorem loadN_snoc (l : List S38) (s : S38) (c : Nat) : loadN (l ++ [s]) c = loadN l c + (if s.f1 = (c : Int) then 1 else 0) := by
  unfold loadN
  rw [List.filter_append, List.length_append]
  by_cases h : s.f1 = (c : Int) <;> simp [h]
theorem take_succ_of {α : Type} (l : List α) (i : Nat) (h : i < l.length) : l.take (i + 1) = l.take i ++ [l[i]] := by
  rw [List.take_add_one, List.getElem?_eq_getElem h]; rfl
theorem loads_step (l : List S38) (n i : Nat) (h : i < l.length) (s : S38) (hs : l[i] = s) (h0 : 0 ≤ s.f1) (hn : s.f1 < (n : Int)) :
    (loadsL (l.take i) n).set s.f1.toNat (((loadN (l.take i) s.f1.toNat : Nat) : Int) + 1) = loadsL (l.take (i + 1)) n := by
  apply List.ext_getElem
  · simp [loadsL]
  · intro j h1 h2
    rw [loadsL_length] at h2
    rw [List.getElem_set]
    simp only [loadsL, List.getElem_map, List.getElem_range]
    rw [take_succ_of l i h, hs, loadN_snoc]
    by_cases e : s.f1.toNat = j
    · rw [if_pos e, if_pos (by omega), e]; omega
    · rw [if_neg e, if_neg (by omega)]; omega
theorem loads_skip (l : List S38) (n i : Nat) (h : i < l.length) (s : S38) (hs : l[i] = s) (h0 : s.f1 < 0 ∨ (n : Int) ≤ s.f1) : loadsL (l.take i) n = loadsL (l.take (i + 1)) n := by
  unfold loadsL
  apply List.map_congr_left
  intro c hc
  rw [List.mem_range] at hc
  rw [take_succ_of l i h, hs, loadN_snoc, if_neg (by omega)]
  rfl
theorem rd_T38_nat (l : List S38) (i : Nat) (h : i < l.length) : rd_T38 l (i : Int) = l[i] := by
  unfold rd_T38; simp [h, List.getD]
theorem rd_nat (l : List Int) (i : Nat) : rd l (i : Int) = l.getD i 0 := by unfold rd; simp
theorem loads_l0 (l : List S38) (n : Nat) (hl : l.length ≤ 1000000) : ∀ (k i : Nat), i ≤ l.length → l.length < k + i → load_Loads.l0 k (loadsL (l.take i) n) l (l.length : Int) (i : Int) = some (loadsL l n)
  | 0, i, h1, h2 => by omega
  | k + 1, i, h1, h2 => by
    rw [load_Loads.l0]
    by_cases hi : i < l.length
    · rw [if_pos (by omega), if_pos (by omega), if_pos (by omega), rd_T38_nat l i hi]
      have ih := loads_l0 l n hl k (i + 1) hi (by omega)
      have hw : wrap64 ((i : Int) + 1) = ((i + 1 : Nat) : Int) := by rw [wrap64_id (by omega) (by omega)]; omega
      generalize hs : l[i] = s at *
      rw [loadsL_length, hw]
      by_cases h0 : s.f1 ≥ 0
      · rw [if_pos h0]
        by_cases hn : s.f1 < (n : Int)
        · rw [if_pos hn, if_pos (by omega)]
          have e : rd (loadsL (l.take i) n) s.f1 = (loadN (l.take i) s.f1.toNat : Nat) := by
            have := rd_nat (loadsL (l.take i) n) s.f1.toNat
            rw [Int.toNat_of_nonneg h0, loadsL_get _ _ _ (by omega)] at this
            exact this
          have hb := loadN_le (l.take i) s.f1.toNat
          rw [e, wrap64_id (by omega) (by simp at hb; omega), loads_step l n i hi s hs h0 hn]
          exact ih
        · rw [if_neg hn, loads_skip l n i hi s hs (by omega)]; exact ih
      · rw [if_neg h0, loads_skip l n i hi s hs (by omega)]; exact ih
    · rw [if_neg (by omega)]
      rw [List.take_of_length_le (by omega)]
theorem loads_f (l : List S38) (a : Int) (hl : l.length ≤ 1000000) (k : Nat) (hk : l.length < k) : load_Loads.f k l a = some (loadsL l (mx 0 (mn a 64)).toNat) := by
  unfold load_Loads.f
  have h1 : 0 ≤ mx 0 (mn a 64) := by unfold mx; split <;> omega
  have h2 : mx 0 (mn a 64) ≤ 64 := by unfold mx mn; (repeat' split) <;> omega
  rw [if_pos h1, if_pos (by omega)]
  have := loads_l0 l (mx 0 (mn a 64)).toNat hl k 0 (by omega) (by omega)
  rw [List.take_zero] at this
  have e : loadsL [] (mx 0 (mn a 64)).toNat = List.replicate (mx 0 (mn a 64)).toNat 0 := by
    apply List.ext_getElem
    · simp [loadsL]
    · intro j h1 h2; simp [loadsL, loadN]
  rw [e] at this
  exact this
/-- One core after another: the best so far. -/
def stepI (loads : List Int) (best c : Int) : Int := if c < (loads.length : Int) then (if best < 0 then c else if rd loads c < rd loads best then c else best) else best
def chooseI (x : Nat) (loads : List Int) : Int := ((cores x).map fun c : Nat => (c : Int)).foldl (stepI loads) (-1)
theorem choose_l0 (loads cs : List Int) (hc : ∀ c ∈ cs, 0 ≤ c) (hl : cs.length ≤ 1000000) : ∀ (k i : Nat) (best : Int), i ≤ cs.length → cs.length < k + i → (best < 0 ∨ best < (loads.length : Int)) →
    load_Choose.l0 k loads best cs (cs.length : Int) (i : Int) = some ((cs.drop i).foldl (stepI loads) best)
  | 0, i, best, h1, h2, _ => by omega
  | k + 1, i, best, h1, h2, hb => by
    rw [load_Choose.l0]
    by_cases hi : i < cs.length
    · rw [if_pos (by omega), if_pos (by omega), if_pos (by omega)]
      have er : rd cs (i : Int) = cs[i] := by rw [rd_nat]; simp [hi, List.getD]
      have hw : wrap64 ((i : Int) + 1) = ((i + 1 : Nat) : Int) := by rw [wrap64_id (by omega) (by omega)]; omega
      have h0 := hc _ (List.getElem_mem hi)
      rw [er, hw, List.drop_eq_getElem_cons hi, List.foldl_cons]
      have ih := fun b hb => choose_l0 loads cs hc hl k (i + 1) b hi (by omega) hb
      generalize cs[i] = c at *
      unfold stepI
      by_cases h3 : c < (loads.length : Int)
      · rw [if_pos h3, if_pos h3]
        by_cases h4 : best < 0
        · rw [if_pos h4, if_pos h4]; exact ih c (.inr h3)
        · rw [if_neg h4, if_neg h4, if_pos h0, if_pos (by omega), if_pos (by omega)]
          by_cases h5 : rd loads c < rd loads best
          · rw [if_pos h5, if_pos h5]; exact ih c (.inr h3)
          · rw [if_neg h5, if_neg h5]; exact ih best hb
      · rw [if_neg h3, if_neg h3]; exact ih best hb
    · rw [if_neg (by omega), List.drop_of_length_le (by omega)]; rfl
theorem choose_f (x : Nat) (hx : x < 18446744073709551616) (loads : List Int) (k : Nat) (hk : 64 < k) : load_Choose.f k (x : Int) loads = some (chooseI x loads) := by
  unfold load_Choose.f mask_Set_All.f
  rw [if_pos (by omega)]
  have hc := cores_length x
  have := choose_l0 loads ((cores x).map fun c : Nat => (c : Int)) (by intro c hc; simp at hc; obtain ⟨a, _, rfl⟩ := hc; omega) (by simp; omega) k 0 (-1) (by omega) (by simp; omega) (by omega)
  rw [List.drop_zero] at this
  exact this
end Go.Proofs.YtgkmipfcadiobaaDoor
