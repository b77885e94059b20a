/- slices.swapRangeCmpFunc at structs and at int: from a world of the sort's to a world of the sort's; laid out as the library's own walks of the family. slices.rotateCmpFunc at structs and at int. What slices.symMergeCmpFunc and stableCmpFunc compute, over plain arrays; lt x y: cmp(x, y) < 0. Stable sorting on lists: the stable merge, its laws, and the stable sort by insertion; and Go's insertion sort as that. What the rotation, the shifts, the search and symMerge come to, on lists in a frame: symMerge of two sorted parts is their stable merge. -/
import Derived.Test.YtgkmipfcadiobaaDoorShelfS
import Derived.Test.YtgkmipfcadiobaaDoorChecked
import Derived.Shelf.SlSortCmp.KitK
import Derived.Shelf.SlSortCmp.Kit1
import Derived.Deep.LoopGhost
import Derived.WalkKit
import Derived.Sort.WalkB2
import Derived.Sort.WalkB12
import Derived.Tactics
import Derived.Sort.Lot0
set_option linter.unusedVariables false
namespace Go.Proofs.YtgkmipfcadiobaaDoor
open Go Go.Shelf Go.RowKit Go.Lib Go.Sort
variable {α : Type} [Inhabited α]
def swapLoop (a b : Nat) : Nat → Nat → Array α → Array α
  | 0, _, d => d
  | n + 1, i, d => swapLoop a b n (i + 1) (swp d (a + i) (b + i))
/-- What a walk over slices.SortStableFunc's functions at elements of k cells wants of a program: these functions and types as this program has them, the element's width left open. -/
structure LayQ (P : Program) (k : Nat) : Prop where
  mixed : P.follows .mixedOrders = true
  f112 : P.funcs[112]? = some Tryd.f112
  t0 : P.underlying 0 = some (.tuple #[])
  a0 : ∀ w, (isAgg 0).run P w = .ok false w
  z0 : ∀ w, (Go.sizeOf 0).run P w = .ok 1 w
  v0 : ∀ w, (zeroValue 0).run P w = .ok (.tuple #[]) w
  t3 : P.underlying 3 = some (.int .i64)
  a3 : ∀ w, (isAgg 3).run P w = .ok false w
  z3 : ∀ w, (Go.sizeOf 3).run P w = .ok 1 w
  v3 : ∀ w, (zeroValue 3).run P w = .ok (.int .i64 0) w
  t4 : P.underlying 4 = some .bool
  a4 : ∀ w, (isAgg 4).run P w = .ok false w
  z4 : ∀ w, (Go.sizeOf 4).run P w = .ok 1 w
  v4 : ∀ w, (zeroValue 4).run P w = .ok (.bool false) w
  t22 : P.underlying 22 = some (.slice 38)
  a22 : ∀ w, (isAgg 22).run P w = .ok false w
  z22 : ∀ w, (Go.sizeOf 22).run P w = .ok 1 w
  v22 : ∀ w, (zeroValue 22).run P w = .ok (.slice none 0 0) w
  t77 : P.underlying 77 = some (.func #[38, 38] #[3] false)
  a77 : ∀ w, (isAgg 77).run P w = .ok false w
  z77 : ∀ w, (Go.sizeOf 77).run P w = .ok 1 w
  v77 : ∀ w, (zeroValue 77).run P w = .ok .nilFunc w
  aE : ∀ w, (isAgg 38).run P w = .ok true w
  zE : ∀ w, (Go.sizeOf 38).run P w = .ok k w
variable {P : Program} {k : Nat}
set_option maxHeartbeats 4000000 in
set_option maxRecDepth 1000000 in
theorem swapRangeQ (L : LayQ P k) (enc : α → List Value) (fv : Value) (blk off cap a b n : Nat) (d0 d : Array α) (w0 w : World)
    (R : RowK enc k w0 blk off d0) (hs : d0.size = d.size) (S : SWK enc k w0 blk off d w) (ha : a + n ≤ d.size) (hb : b + n ≤ d.size) (hsz : d.size < 4611686018427387904) :
    Calls P 112 #[.slice (some ⟨blk, off, none⟩) d.size cap, .int .i64 a, .int .i64 b, .int .i64 n, fv] w fun e w' => e = .returned (.tuple #[]) ∧ SWK enc k w0 blk off (swapLoop a b n 0 d) w' := by
  have mixed := L.mixed; have t0 := L.t0; have a0 := L.a0; have z0 := L.z0; have v0 := L.v0; have t3 := L.t3; have a3 := L.a3; have z3 := L.z3; have v3 := L.v3; have t4 := L.t4; have a4 := L.a4; have z4 := L.z4; have v4 := L.v4; have t22 := L.t22; have a22 := L.a22; have z22 := L.z22; have v22 := L.v22; have t77 := L.t77; have a77 := L.a77; have z77 := L.z77; have v77 := L.v77; have aE := L.aE; have zE := L.zE
  have u22 := run_underlying L.t22
  have FG := L.f112
  have S0 : Aside (SWK enc k w0 blk off d w) := S
  clear S
  go_enter FG, Tryd.ntmps112
  go_wp2
  go_loopg [10] n (fun kx s10 wr => ∃ (i : Nat) (dk : Array α), s10 = .int .i64 i ∧ i + kx = n ∧
    dk.size = d.size ∧ Aside (SWK enc k w0 blk off dk wr) ∧ Hid (swapLoop a b kx i dk = swapLoop a b n 0 d))
  case atStart => exact ⟨0, d, rfl, by omega, rfl, S0, (show Hid _ from rfl)⟩
  case round =>
    clear S0
    obtain ⟨i, dk, rfl, hik, hds, S1, heq⟩ := hrel
    by_cases hlt : (i : Int) < (n : Int)
    · go_wp2_with fail
      have ea44 : ((a : Int) + (i : Int)).toNat = a + i := by omega
      have pa44 : (0 : Int) ≤ (a : Int) + (i : Int) := by omega
      have ba44 : (a : Int) + (i : Int) < (d.size : Int) := by omega
      have ra44 : IntKind.i64.wrap ((a : Int) + (i : Int)) = (a : Int) + (i : Int) := by rw [IntKind.wrap_i64]; omega
      have ec44 : ((b : Int) + (i : Int)).toNat = b + i := by omega
      have pc44 : (0 : Int) ≤ (b : Int) + (i : Int) := by omega
      have bc44 : (b : Int) + (i : Int) < (d.size : Int) := by omega
      have rc44 : IntKind.i64.wrap ((b : Int) + (i : Int)) = (b : Int) + (i : Int) := by rw [IntKind.wrap_i64]; omega
      have S2 : Aside (SWK enc k w0 blk off (swp dk (a + i) (b + i)) ((wr.drew.setCells blk (off + (a + i) * k) (enc dk[b + i]!)).setCells blk (off + (b + i) * k) (enc dk[a + i]!))) := S1.out.swapped R (a + i) (b + i) (by omega) (by omega)
      have l44a := S1.out.ld1 R (by omega) P (a + i) (by omega)
      have l44b := S1.out.ld1 R (by omega) P (b + i) (by omega)
      have s44a := S1.out.st1 R (by omega) P (a + i) (by omega) dk[b + i]!
      have s44b := S1.out.st2 R (by omega) P (a + i) (b + i) (by omega) (by omega) dk[b + i]! dk[a + i]!
      have n44a : (enc dk[a + i]!).length = k := R.hk _
      have n44b : (enc dk[b + i]!).length = k := R.hk _
      generalize enc dk[a + i]! = cI44 at S2 l44a s44b n44a
      generalize enc dk[b + i]! = cJ44 at S2 l44b s44a s44b n44b
      clear S1
      go_wp2_with fail
      go_big_region_o
      clear l44a l44b s44a s44b
      generalize (wr.drew.setCells blk (off + (a + i) * k) cJ44).setCells blk (off + (b + i) * k) cI44 = w2 at S2 ⊢
      go_wp2
      obtain ⟨j, rfl⟩ : ∃ j, gk = j + 1 := ⟨gk - 1, by omega⟩
      go_roundg j
      case measure => omega
      case rel => exact ⟨i + 1, swp dk (a + i) (b + i), by first | rfl | go_num, by omega, by rw [size_swp]; exact hds, S2, (show Hid _ from heq.out)⟩
    · go_wp2
      go_end0
      refine ⟨rfl, ?_⟩
      obtain rfl : gk = 0 := by omega
      have h2 := heq.out
      rw [← h2]
      exact S1.out
/-- What a walk over slices.SortStableFunc's functions at int wants of a program: these functions and types as this program has them. -/
structure LayI (P : Program) : Prop where
  mixed : P.follows .mixedOrders = true
  f111 : P.funcs[111]? = some Tryd.f111
  t0 : P.underlying 0 = some (.tuple #[])
  a0 : ∀ w, (isAgg 0).run P w = .ok false w
  z0 : ∀ w, (Go.sizeOf 0).run P w = .ok 1 w
  v0 : ∀ w, (zeroValue 0).run P w = .ok (.tuple #[]) w
  t3 : P.underlying 3 = some (.int .i64)
  a3 : ∀ w, (isAgg 3).run P w = .ok false w
  z3 : ∀ w, (Go.sizeOf 3).run P w = .ok 1 w
  v3 : ∀ w, (zeroValue 3).run P w = .ok (.int .i64 0) w
  t4 : P.underlying 4 = some .bool
  a4 : ∀ w, (isAgg 4).run P w = .ok false w
  z4 : ∀ w, (Go.sizeOf 4).run P w = .ok 1 w
  v4 : ∀ w, (zeroValue 4).run P w = .ok (.bool false) w
  t24 : P.underlying 24 = some (.slice 3)
  a24 : ∀ w, (isAgg 24).run P w = .ok false w
  z24 : ∀ w, (Go.sizeOf 24).run P w = .ok 1 w
  v24 : ∀ w, (zeroValue 24).run P w = .ok (.slice none 0 0) w
  t74 : P.underlying 74 = some (.func #[3, 3] #[3] false)
  a74 : ∀ w, (isAgg 74).run P w = .ok false w
  z74 : ∀ w, (Go.sizeOf 74).run P w = .ok 1 w
  v74 : ∀ w, (zeroValue 74).run P w = .ok .nilFunc w
set_option maxHeartbeats 4000000 in
set_option maxRecDepth 1000000 in
theorem swapRange1 (L : LayI P) (enc : α → Value) (fv : Value) (blk off cap a b n : Nat) (d0 d : Array α) (w0 w : World)
    (R : Row1 enc w0 blk off d0) (hs : d0.size = d.size) (S : SW enc w0 blk off d w) (ha : a + n ≤ d.size) (hb : b + n ≤ d.size) (hsz : d.size < 4611686018427387904) :
    Calls P 111 #[.slice (some ⟨blk, off, none⟩) d.size cap, .int .i64 a, .int .i64 b, .int .i64 n, fv] w fun e w' => e = .returned (.tuple #[]) ∧ SW enc w0 blk off (swapLoop a b n 0 d) w' := by
  have mixed := L.mixed; have t0 := L.t0; have a0 := L.a0; have z0 := L.z0; have v0 := L.v0; have t3 := L.t3; have a3 := L.a3; have z3 := L.z3; have v3 := L.v3; have t4 := L.t4; have a4 := L.a4; have z4 := L.z4; have v4 := L.v4; have t24 := L.t24; have a24 := L.a24; have z24 := L.z24; have v24 := L.v24; have t74 := L.t74; have a74 := L.a74; have z74 := L.z74; have v74 := L.v74
  have u24 := run_underlying L.t24
  have hcl0 := R.hO.cells
  simp only [Value.cells] at hcl0
  have hst := R.hO.store P
  have FG := L.f111
  have S0 : Aside (SW enc w0 blk off d w) := S
  clear S
  go_enter FG, Tryd.ntmps111
  go_wp2
  go_loopg [10] n (fun kx s10 wr => ∃ (i : Nat) (dk : Array α), s10 = .int .i64 i ∧ i + kx = n ∧
    dk.size = d.size ∧ Aside (SW enc w0 blk off dk wr) ∧ Hid (swapLoop a b kx i dk = swapLoop a b n 0 d))
  case atStart => exact ⟨0, d, rfl, by omega, rfl, S0, (show Hid _ from rfl)⟩
  case round =>
    clear S0
    obtain ⟨i, dk, rfl, hik, hds, S1, heq⟩ := hrel
    by_cases hlt : (i : Int) < (n : Int)
    · go_wp2_with fail
      obtain ⟨iN, hiN⟩ : ∃ q, q = a + i := ⟨_, rfl⟩
      obtain ⟨jN, hjN⟩ : ∃ q, q = b + i := ⟨_, rfl⟩
      have ea : ((a : Int) + (i : Int)).toNat = iN := by omega
      have pa : (0 : Int) ≤ (a : Int) + (i : Int) := by omega
      have ba : (a : Int) + (i : Int) < (d.size : Int) := by omega
      have ra : IntKind.i64.wrap ((a : Int) + (i : Int)) = (a : Int) + (i : Int) := by rw [IntKind.wrap_i64]; omega
      have ec : ((b : Int) + (i : Int)).toNat = jN := by omega
      have pc : (0 : Int) ≤ (b : Int) + (i : Int) := by omega
      have bc : (b : Int) + (i : Int) < (d.size : Int) := by omega
      have rc : IntKind.i64.wrap ((b : Int) + (i : Int)) = (b : Int) + (i : Int) := by rw [IntKind.wrap_i64]; omega
      obtain ⟨x0, hx0⟩ : ∃ x, x = dk[a + i]! := ⟨_, rfl⟩
      obtain ⟨y0, hy0⟩ : ∃ x, x = dk[b + i]! := ⟨_, rfl⟩
      have S2 : Aside (SW enc w0 blk off (swp dk (a + i) (b + i)) ((wr.setCell ⟨blk, off + iN, none⟩ (enc y0)).setCell ⟨blk, off + jN, none⟩ (enc x0)).drew) := by rw [hiN, hjN, hx0, hy0]; exact S1.out.swapped R (a + i) (b + i) (by omega) (by omega)
      have c1a := S1.out.c1 R (by omega) (a + i) (by omega)
      have c1b := S1.out.c1 R (by omega) (b + i) (by omega)
      have f1a := S1.out.f1 R (by omega) (a + i) (by omega)
      have f1b := S1.out.f1 R (by omega) (b + i) (by omega)
      obtain ⟨u1, c1c⟩ := S1.out.c2 R (by omega) (a + i) (b + i) (by omega) (by omega) (enc y0)
      rw [← hjN, ← hiN] at c1c
      rw [← hx0, ← hiN] at c1a
      rw [← hy0, ← hjN] at c1b
      rw [← hiN] at f1a
      rw [← hjN] at f1b
      clear S1 hx0 hy0
      have HN : Hid (iN = a + i ∧ jN = b + i) := ⟨hiN, hjN⟩
      clear hiN hjN
      go_wp2_with fail
      go_big_region_o
      clear c1a c1b c1c f1a f1b
      generalize ((wr.setCell ⟨blk, off + iN, none⟩ (enc y0)).setCell ⟨blk, off + jN, none⟩ (enc x0)).drew = w2 at S2 ⊢
      clear ea ec
      go_wp2
      obtain ⟨j, rfl⟩ : ∃ j, gk = j + 1 := ⟨gk - 1, by omega⟩
      go_roundg j
      case measure => omega
      case rel => exact ⟨i + 1, swp dk (a + i) (b + i), by first | rfl | go_num, by omega, by rw [size_swp]; exact hds, S2, (show Hid _ from heq.out)⟩
    · go_wp2
      go_end0
      refine ⟨rfl, ?_⟩
      obtain rfl : gk = 0 := by omega
      have h2 := heq.out
      rw [← h2]
      exact S1.out
end Go.Proofs.YtgkmipfcadiobaaDoor
set_option linter.unusedVariables false
namespace Go.Proofs.YtgkmipfcadiobaaDoor
open Go Go.Shelf Go.RowKit Go.Lib Go.Sort
variable {α : Type} [Inhabited α]
theorem layQ : LayQ Tryd.prog 3 where
  mixed := by kernel_rfl
  f112 := Tryd.func112
  t0 := Tryd.underlying0
  a0 := Tryd.isAgg0
  z0 := Tryd.sizeOf0
  v0 := Tryd.zeroValue0
  t3 := Tryd.underlying3
  a3 := Tryd.isAgg3
  z3 := Tryd.sizeOf3
  v3 := Tryd.zeroValue3
  t4 := Tryd.underlying4
  a4 := Tryd.isAgg4
  z4 := Tryd.sizeOf4
  v4 := Tryd.zeroValue4
  t22 := Tryd.underlying22
  a22 := Tryd.isAgg22
  z22 := Tryd.sizeOf22
  v22 := Tryd.zeroValue22
  t77 := Tryd.underlying77
  a77 := Tryd.isAgg77
  z77 := Tryd.sizeOf77
  v77 := Tryd.zeroValue77
  aE := Tryd.isAgg38
  zE := Tryd.sizeOf38
theorem layI : LayI Tryd.prog where
  mixed := by kernel_rfl
  f111 := Tryd.func111
  t0 := Tryd.underlying0
  a0 := Tryd.isAgg0
  z0 := Tryd.sizeOf0
  v0 := Tryd.zeroValue0
  t3 := Tryd.underlying3
  a3 := Tryd.isAgg3
  z3 := Tryd.sizeOf3
  v3 := Tryd.zeroValue3
  t4 := Tryd.underlying4
  a4 := Tryd.isAgg4
  z4 := Tryd.sizeOf4
  v4 := Tryd.zeroValue4
  t24 := Tryd.underlying24
  a24 := Tryd.isAgg24
  z24 := Tryd.sizeOf24
  v24 := Tryd.zeroValue24
  t74 := Tryd.underlying74
  a74 := Tryd.isAgg74
  z74 := Tryd.sizeOf74
  v74 := Tryd.zeroValue74
theorem size_swapLoop (a b : Nat) : ∀ (n i : Nat) (d : Array α), (swapLoop a b n i d).size = d.size
  | 0, _, _ => rfl
  | n + 1, i, d => by rw [swapLoop, size_swapLoop a b n, size_swp]
def rotG (m : Nat) : Nat → Nat → Nat → Array α → Array α
  | 0, _, _, d => d
  | f + 1, i, j, d => if i = j then swapLoop (m - i) m i 0 d else if i > j then rotG m f (i - j) j (swapLoop (m - i) m j 0 d) else rotG m f i (j - i) (swapLoop (m - i) (m + j - i) i 0 d)
theorem size_rotG (m : Nat) : ∀ (f i j : Nat) (d : Array α), (rotG m f i j d).size = d.size
  | 0, _, _, _ => rfl
  | f + 1, i, j, d => by
    rw [rotG]
    split
    · exact size_swapLoop ..
    · split
      · rw [size_rotG m f, size_swapLoop]
      · rw [size_rotG m f, size_swapLoop]
set_option maxHeartbeats 4000000 in
set_option maxRecDepth 1000000 in
theorem rotateQ (enc : α → List Value) (fv : Value) (blk off cap a m b : Nat) (d0 d : Array α) (w0 w : World)
    (R : RowK enc 3 w0 blk off d0) (hs : d0.size = d.size) (S : SWK enc 3 w0 blk off d w) (h1 : a < m) (h2 : m < b) (hb : b ≤ d.size) (hsz : d.size < 4611686018427387904) :
    Calls Tryd.prog 95 #[.slice (some ⟨blk, off, none⟩) d.size cap, .int .i64 a, .int .i64 m, .int .i64 b, fv] w fun e w' => e = .returned (.tuple #[]) ∧ SWK enc 3 w0 blk off (rotG m ((m - a) + (b - m)) (m - a) (b - m) d) w' := by
  have S0 : Aside (SWK enc 3 w0 blk off d w) := S
  clear S
  have ei : IntKind.i64.wrap ((m : Int) - (a : Int)) = ((m - a : Nat) : Int) := by rw [IntKind.wrap_i64]; omega
  have ej : IntKind.i64.wrap ((b : Int) - (m : Int)) = ((b - m : Nat) : Int) := by rw [IntKind.wrap_i64]; omega
  go_enter Tryd.func95, Tryd.ntmps95
  go_wp2
  go_loopg [10, 11] ((m - a) + (b - m)) (fun kx s10 s11 wr => ∃ (i j : Nat) (dk : Array α), s10 = .int .i64 i ∧ s11 = .int .i64 j ∧ 1 ≤ i ∧ 1 ≤ j ∧ i ≤ m ∧ m + j ≤ d.size ∧ i + j ≤ kx ∧
    dk.size = d.size ∧ Aside (SWK enc 3 w0 blk off dk wr) ∧ Hid (rotG m kx i j dk = rotG m ((m - a) + (b - m)) (m - a) (b - m) d))
  case atStart => exact ⟨m - a, b - m, d, by first | rfl | go_num, by first | rfl | go_num, by omega, by omega, by omega, by omega, by omega, rfl, S0, (show Hid _ from rfl)⟩
  case round =>
    clear S0 ei ej
    obtain ⟨i, j, dk, rfl, rfl, hi, hj, him, hjm, hk, hds, S1, heq⟩ := hrel
    have em : IntKind.i64.wrap ((m : Int) - (i : Int)) = ((m - i : Nat) : Int) := by rw [IntKind.wrap_i64]; omega
    obtain ⟨f, rfl⟩ : ∃ f, gk = f + 1 := ⟨gk - 1, by omega⟩
    rcases Nat.lt_trichotomy i j with hlt | rfl | hgt
    · have g1 : (i : Int) ≠ (j : Int) := by omega
      have g2 : ¬ ((j : Int) < (i : Int)) := by omega
      have e2' : IntKind.i64.wrap ((m : Int) + (j : Int) - (i : Int)) = ((m + j - i : Nat) : Int) := by rw [IntKind.wrap_i64]; omega
      have e2'' : IntKind.i64.wrap ((m : Int) + (j : Int)) = (m : Int) + (j : Int) := by rw [IntKind.wrap_i64]; omega
      have e3 : IntKind.i64.wrap ((j : Int) - (i : Int)) = ((j - i : Nat) : Int) := by rw [IntKind.wrap_i64]; omega
      have C := swapRangeQ layQ enc fv blk off cap (m - i) (m + j - i) i d0 dk w0 wr R (by omega) S1.out (by omega) (by omega) (by omega)
      rw [hds] at C
      have HC := (show Hid _ from C)
      clear C S1
      go_wp2_with (go_at_call 112; refine Calls.mono (Hid.out HC) ?_; rintro e w' ⟨rfl, S2⟩)
      have S3 : Aside (SWK enc 3 w0 blk off (swapLoop (m - i) (m + j - i) i 0 dk) w') := S2
      clear S2 HC
      go_roundg f
      case measure => omega
      case rel => exact ⟨i, j - i, swapLoop (m - i) (m + j - i) i 0 dk, by first | rfl | go_num, by first | rfl | go_num, by omega, by omega, by omega, by omega, by omega, by rw [size_swapLoop]; exact hds, S3, (show Hid _ from by have := heq.out; rw [rotG, if_neg (by omega), if_neg (by omega)] at this; exact this)⟩
    · have C := swapRangeQ layQ enc fv blk off cap (m - i) m i d0 dk w0 wr R (by omega) S1.out (by omega) (by omega) (by omega)
      rw [hds] at C
      have HC := (show Hid _ from C)
      clear C S1
      go_wp2_with (go_at_call 112; refine Calls.mono (Hid.out HC) ?_; rintro e w' ⟨rfl, S2⟩)
      go_end0
      refine ⟨rfl, ?_⟩
      have := heq.out
      rw [rotG, if_pos rfl] at this
      rw [← this]
      exact S2
    · have g1 : (i : Int) ≠ (j : Int) := by omega
      have g2 : (j : Int) < (i : Int) := by omega
      have e3 : IntKind.i64.wrap ((i : Int) - (j : Int)) = ((i - j : Nat) : Int) := by rw [IntKind.wrap_i64]; omega
      have C := swapRangeQ layQ enc fv blk off cap (m - i) m j d0 dk w0 wr R (by omega) S1.out (by omega) (by omega) (by omega)
      rw [hds] at C
      have HC := (show Hid _ from C)
      clear C S1
      go_wp2_with (go_at_call 112; refine Calls.mono (Hid.out HC) ?_; rintro e w' ⟨rfl, S2⟩)
      have S3 : Aside (SWK enc 3 w0 blk off (swapLoop (m - i) m j 0 dk) w') := S2
      clear S2 HC
      go_roundg f
      case measure => omega
      case rel => exact ⟨i - j, j, swapLoop (m - i) m j 0 dk, by first | rfl | go_num, by first | rfl | go_num, by omega, by omega, by omega, by omega, by omega, by rw [size_swapLoop]; exact hds, S3, (show Hid _ from by have := heq.out; rw [rotG, if_neg (by omega), if_pos (by omega)] at this; exact this)⟩
set_option maxHeartbeats 4000000 in
set_option maxRecDepth 1000000 in
theorem rotate1 (enc : α → Value) (fv : Value) (blk off cap a m b : Nat) (d0 d : Array α) (w0 w : World)
    (R : Row1 enc w0 blk off d0) (hs : d0.size = d.size) (S : SW enc w0 blk off d w) (h1 : a < m) (h2 : m < b) (hb : b ≤ d.size) (hsz : d.size < 4611686018427387904) :
    Calls Tryd.prog 94 #[.slice (some ⟨blk, off, none⟩) d.size cap, .int .i64 a, .int .i64 m, .int .i64 b, fv] w fun e w' => e = .returned (.tuple #[]) ∧ SW enc w0 blk off (rotG m ((m - a) + (b - m)) (m - a) (b - m) d) w' := by
  have S0 : Aside (SW enc w0 blk off d w) := S
  clear S
  have ei : IntKind.i64.wrap ((m : Int) - (a : Int)) = ((m - a : Nat) : Int) := by rw [IntKind.wrap_i64]; omega
  have ej : IntKind.i64.wrap ((b : Int) - (m : Int)) = ((b - m : Nat) : Int) := by rw [IntKind.wrap_i64]; omega
  go_enter Tryd.func94, Tryd.ntmps94
  go_wp2
  go_loopg [10, 11] ((m - a) + (b - m)) (fun kx s10 s11 wr => ∃ (i j : Nat) (dk : Array α), s10 = .int .i64 i ∧ s11 = .int .i64 j ∧ 1 ≤ i ∧ 1 ≤ j ∧ i ≤ m ∧ m + j ≤ d.size ∧ i + j ≤ kx ∧
    dk.size = d.size ∧ Aside (SW enc w0 blk off dk wr) ∧ Hid (rotG m kx i j dk = rotG m ((m - a) + (b - m)) (m - a) (b - m) d))
  case atStart => exact ⟨m - a, b - m, d, by first | rfl | go_num, by first | rfl | go_num, by omega, by omega, by omega, by omega, by omega, rfl, S0, (show Hid _ from rfl)⟩
  case round =>
    clear S0 ei ej
    obtain ⟨i, j, dk, rfl, rfl, hi, hj, him, hjm, hk, hds, S1, heq⟩ := hrel
    have em : IntKind.i64.wrap ((m : Int) - (i : Int)) = ((m - i : Nat) : Int) := by rw [IntKind.wrap_i64]; omega
    obtain ⟨f, rfl⟩ : ∃ f, gk = f + 1 := ⟨gk - 1, by omega⟩
    rcases Nat.lt_trichotomy i j with hlt | rfl | hgt
    · have g1 : (i : Int) ≠ (j : Int) := by omega
      have g2 : ¬ ((j : Int) < (i : Int)) := by omega
      have e2' : IntKind.i64.wrap ((m : Int) + (j : Int) - (i : Int)) = ((m + j - i : Nat) : Int) := by rw [IntKind.wrap_i64]; omega
      have e2'' : IntKind.i64.wrap ((m : Int) + (j : Int)) = (m : Int) + (j : Int) := by rw [IntKind.wrap_i64]; omega
      have e3 : IntKind.i64.wrap ((j : Int) - (i : Int)) = ((j - i : Nat) : Int) := by rw [IntKind.wrap_i64]; omega
      have C := swapRange1 layI enc fv blk off cap (m - i) (m + j - i) i d0 dk w0 wr R (by omega) S1.out (by omega) (by omega) (by omega)
      rw [hds] at C
      have HC := (show Hid _ from C)
      clear C S1
      go_wp2_with (go_at_call 111; refine Calls.mono (Hid.out HC) ?_; rintro e w' ⟨rfl, S2⟩)
      have S3 : Aside (SW enc w0 blk off (swapLoop (m - i) (m + j - i) i 0 dk) w') := S2
      clear S2 HC
      go_roundg f
      case measure => omega
      case rel => exact ⟨i, j - i, swapLoop (m - i) (m + j - i) i 0 dk, by first | rfl | go_num, by first | rfl | go_num, by omega, by omega, by omega, by omega, by omega, by rw [size_swapLoop]; exact hds, S3, (show Hid _ from by have := heq.out; rw [rotG, if_neg (by omega), if_neg (by omega)] at this; exact this)⟩
    · have C := swapRange1 layI enc fv blk off cap (m - i) m i d0 dk w0 wr R (by omega) S1.out (by omega) (by omega) (by omega)
      rw [hds] at C
      have HC := (show Hid _ from C)
      clear C S1
      go_wp2_with (go_at_call 111; refine Calls.mono (Hid.out HC) ?_; rintro e w' ⟨rfl, S2⟩)
      go_end0
      refine ⟨rfl, ?_⟩
      have := heq.out
      rw [rotG, if_pos rfl] at this
      rw [← this]
      exact S2
    · have g1 : (i : Int) ≠ (j : Int) := by omega
      have g2 : (j : Int) < (i : Int) := by omega
      have e3 : IntKind.i64.wrap ((i : Int) - (j : Int)) = ((i - j : Nat) : Int) := by rw [IntKind.wrap_i64]; omega
      have C := swapRange1 layI enc fv blk off cap (m - i) m j d0 dk w0 wr R (by omega) S1.out (by omega) (by omega) (by omega)
      rw [hds] at C
      have HC := (show Hid _ from C)
      clear C S1
      go_wp2_with (go_at_call 111; refine Calls.mono (Hid.out HC) ?_; rintro e w' ⟨rfl, S2⟩)
      have S3 : Aside (SW enc w0 blk off (swapLoop (m - i) m j 0 dk) w') := S2
      clear S2 HC
      go_roundg f
      case measure => omega
      case rel => exact ⟨i - j, j, swapLoop (m - i) m j 0 dk, by first | rfl | go_num, by first | rfl | go_num, by omega, by omega, by omega, by omega, by omega, by rw [size_swapLoop]; exact hds, S3, (show Hid _ from by have := heq.out; rw [rotG, if_neg (by omega), if_pos (by omega)] at this; exact this)⟩
end Go.Proofs.YtgkmipfcadiobaaDoor
set_option linter.unusedVariables false
namespace Go.Proofs.YtgkmipfcadiobaaDoor
open Go Go.Shelf Go.RowKit Go.Lib Go.Sort
variable {α : Type} [Inhabited α]
/-- 'for i < j { h := (i+j)/2; if test h { i = h+1 } else { j = h } }'. -/
def bsr (test : Nat → Bool) : Nat → Nat → Nat → Nat
  | 0, i, _ => i
  | f + 1, i, j => if i < j then (if test ((i + j) / 2) = true then bsr test f ((i + j) / 2 + 1) j else bsr test f i ((i + j) / 2)) else i
/-- 'for k := a; k < i-1; k++ { swap k, k+1 }', so many rounds. -/
def shiftUp : Nat → Nat → Array α → Array α
  | 0, _, d => d
  | n + 1, k, d => shiftUp n (k + 1) (swp d k (k + 1))
/-- 'for k := m; k > i; k-- { swap k, k-1 }', so many rounds. -/
def shiftDown : Nat → Nat → Array α → Array α
  | 0, _, d => d
  | n + 1, k, d => shiftDown n (k - 1) (swp d k (k - 1))
def symStart (lt : α → α → Bool) (a m b : Nat) (d : Array α) : Nat :=
  if m > (a + b) / 2 then bsr (fun c => !lt d[(a + b) / 2 + m - 1 - c]! d[c]!) ((a + b) / 2 - ((a + b) / 2 + m - b)) ((a + b) / 2 + m - b) ((a + b) / 2)
  else bsr (fun c => !lt d[(a + b) / 2 + m - 1 - c]! d[c]!) (m - a) a m
def symRot (m s e : Nat) (d : Array α) : Array α := if s < m ∧ m < e then rotG m ((m - s) + (e - m)) (m - s) (e - m) d else d
def symM (lt : α → α → Bool) : Nat → Nat → Nat → Nat → Array α → Array α
  | 0, _, _, _, d => d
  | f + 1, a, m, b, d =>
    if m - a = 1 then shiftUp (bsr (fun h => lt d[h]! d[a]!) (b - m) m b - 1 - a) a d
    else if b - m = 1 then shiftDown (m - bsr (fun h => !lt d[m]! d[h]!) (m - a) a m) m d
    else
      (fun s e => (fun d2 => if (a + b) / 2 < e ∧ e < b then symM lt f ((a + b) / 2) e b d2 else d2) (if a < s ∧ s < (a + b) / 2 then symM lt f a s ((a + b) / 2) (symRot m s e d) else symRot m s e d)) (symStart lt a m b d) ((a + b) / 2 + m - symStart lt a m b d)
theorem size_shiftUp : ∀ (n k : Nat) (d : Array α), (shiftUp n k d).size = d.size
  | 0, _, _ => rfl
  | n + 1, k, d => by rw [shiftUp, size_shiftUp n, size_swp]
theorem size_shiftDown : ∀ (n k : Nat) (d : Array α), (shiftDown n k d).size = d.size
  | 0, _, _ => rfl
  | n + 1, k, d => by rw [shiftDown, size_shiftDown n, size_swp]
theorem size_symRot (m s e : Nat) (d : Array α) : (symRot m s e d).size = d.size := by
  unfold symRot
  split
  · exact size_rotG ..
  · rfl
theorem size_symM (lt : α → α → Bool) : ∀ (f a m b : Nat) (d : Array α), (symM lt f a m b d).size = d.size
  | 0, _, _, _, _ => rfl
  | f + 1, a, m, b, d => by
    rw [symM]
    split
    · exact size_shiftUp ..
    · split
      · exact size_shiftDown ..
      · simp only
        split
        · rw [size_symM lt f]
          split
          · rw [size_symM lt f, size_symRot]
          · rw [size_symRot]
        · split
          · rw [size_symM lt f, size_symRot]
          · rw [size_symRot]
/-- A search ends between its bounds. -/
theorem bsr_bounds (test : Nat → Bool) : ∀ (f i j : Nat), i ≤ j → i ≤ bsr test f i j ∧ bsr test f i j ≤ j
  | 0, i, j, h => ⟨Nat.le_refl _, h⟩
  | f + 1, i, j, h => by
    rw [bsr]
    split
    · split
      · have := bsr_bounds test f ((i + j) / 2 + 1) j (by omega); omega
      · have := bsr_bounds test f i ((i + j) / 2) (by omega); omega
    · omega
end Go.Proofs.YtgkmipfcadiobaaDoor
set_option linter.unusedVariables false
namespace Go.Proofs.YtgkmipfcadiobaaDoor
open Go.Sort
variable {α : Type}
def le (lt : α → α → Bool) (x y : α) : Bool := !lt y x
def mrg (lt : α → α → Bool) (xs ys : List α) : List α := List.merge xs ys (le lt)
def stL (lt : α → α → Bool) (xs : List α) : List α := xs.foldl (fun acc y => mrg lt acc [y]) []
theorem mrg_nil_left (lt : α → α → Bool) (ys : List α) : mrg lt [] ys = ys := by simp [mrg]
theorem mrg_nil_right (lt : α → α → Bool) (xs : List α) : mrg lt xs [] = xs := by simp [mrg]
theorem mrg_cons (lt : α → α → Bool) (x y : α) (xs ys : List α) : mrg lt (x :: xs) (y :: ys) = if lt y x = true then y :: mrg lt (x :: xs) ys else x :: mrg lt xs (y :: ys) := by
  unfold mrg
  rw [List.cons_merge_cons]
  unfold le
  cases lt y x <;> simp
theorem mrg_length (lt : α → α → Bool) (xs ys : List α) : (mrg lt xs ys).length = xs.length + ys.length := by
  unfold mrg; simp [List.length_merge]
theorem mrg_perm (lt : α → α → Bool) (xs ys : List α) : (mrg lt xs ys).Perm (xs ++ ys) := List.merge_perm_append _
theorem mem_mrg (lt : α → α → Bool) (xs ys : List α) (z : α) : z ∈ mrg lt xs ys ↔ z ∈ xs ∨ z ∈ ys := by
  rw [(mrg_perm lt xs ys).mem_iff, List.mem_append]
theorem mrg_assoc {lt : α → α → Bool} (H : SWO lt) : ∀ (xs ys zs : List α), mrg lt (mrg lt xs ys) zs = mrg lt xs (mrg lt ys zs)
  | [], ys, zs => by rw [mrg_nil_left, mrg_nil_left]
  | x :: xs, [], zs => by rw [mrg_nil_right, mrg_nil_left]
  | x :: xs, y :: ys, [] => by rw [mrg_nil_right, mrg_nil_right]
  | x :: xs, y :: ys, z :: zs => by
    have h1 := mrg_assoc H (x :: xs) ys (z :: zs)
    have h2 := mrg_assoc H xs (y :: ys) (z :: zs)
    have h3 := mrg_assoc H (x :: xs) (y :: ys) zs
    rw [mrg_cons lt x y, mrg_cons lt y z]
    cases hyx : lt y x with
    | true =>
      simp only [if_true]
      rw [mrg_cons lt y z]
      cases hzy : lt z y with
      | true =>
        simp only [if_true]
        have hzx : lt z x = true := H.trans _ _ _ hzy hyx
        rw [mrg_cons lt x z, if_pos hzx, ← h3, mrg_cons lt x y, if_pos hyx]
      | false =>
        simp only [Bool.false_eq_true, if_false]
        rw [mrg_cons lt x y, if_pos hyx, h1]
    | false =>
      simp only [Bool.false_eq_true, if_false]
      rw [mrg_cons lt x z]
      cases hzy : lt z y with
      | true =>
        simp only [if_true]
        rw [mrg_cons lt x z]
        cases hzx : lt z x with
        | true =>
          simp only [if_true]
          rw [← h3, mrg_cons lt x y, if_neg (by rw [hyx]; decide)]
        | false =>
          simp only [Bool.false_eq_true, if_false]
          rw [h2, mrg_cons lt y z, if_pos hzy]
      | false =>
        simp only [Bool.false_eq_true, if_false]
        have hzx : lt z x = false := H.ntrans _ _ _ hzy hyx
        rw [if_neg (by rw [hzx]; decide), mrg_cons lt x y, if_neg (by rw [hyx]; decide), h2, mrg_cons lt y z, if_neg (by rw [hzy]; decide)]
theorem stL_nil (lt : α → α → Bool) : stL lt [] = [] := rfl
theorem stL_snoc (lt : α → α → Bool) (xs : List α) (y : α) : stL lt (xs ++ [y]) = mrg lt (stL lt xs) [y] := by simp [stL]
theorem stL_one (lt : α → α → Bool) (y : α) : stL lt [y] = [y] := by simp [stL, mrg]
theorem foldl_mrg {lt : α → α → Bool} (H : SWO lt) : ∀ (ys acc : List α), ys.foldl (fun acc y => mrg lt acc [y]) acc = mrg lt acc (stL lt ys)
  | [], acc => by rw [stL_nil, mrg_nil_right]; rfl
  | y :: ys, acc => by
    rw [List.foldl_cons, foldl_mrg H ys, mrg_assoc H]
    congr 1
    have e : stL lt (y :: ys) = ys.foldl (fun acc y => mrg lt acc [y]) (mrg lt [] [y]) := rfl
    rw [e, mrg_nil_left, foldl_mrg H ys]
theorem stL_append {lt : α → α → Bool} (H : SWO lt) (xs ys : List α) : stL lt (xs ++ ys) = mrg lt (stL lt xs) (stL lt ys) := by
  rw [stL, List.foldl_append, foldl_mrg H]; rfl
theorem stL_cons {lt : α → α → Bool} (H : SWO lt) (x : α) (xs : List α) : stL lt (x :: xs) = mrg lt [x] (stL lt xs) := by
  have := stL_append H [x] xs
  rwa [stL_one] at this
theorem stL_perm {lt : α → α → Bool} (H : SWO lt) : ∀ xs : List α, (stL lt xs).Perm xs
  | [] => .refl _
  | x :: xs => by rw [stL_cons H]; exact (mrg_perm lt _ _).trans ((stL_perm H xs).cons x)
theorem stL_length {lt : α → α → Bool} (H : SWO lt) (xs : List α) : (stL lt xs).length = xs.length := (stL_perm H xs).length_eq
abbrev Srt (lt : α → α → Bool) (xs : List α) : Prop := xs.Pairwise (fun x y => lt y x = false)
theorem swo_asymm {lt : α → α → Bool} (H : SWO lt) {x y : α} (h : lt x y = true) : lt y x = false := by
  cases hyx : lt y x with
  | false => rfl
  | true => have := H.trans _ _ _ h hyx; rw [H.irrefl] at this; cases this
theorem mrg_srt {lt : α → α → Bool} (H : SWO lt) (xs ys : List α) (hx : Srt lt xs) (hy : Srt lt ys) : Srt lt (mrg lt xs ys) := by
  have h := List.pairwise_merge (le := le lt) (fun a b c h1 h2 => by simp [le] at *; exact H.ntrans _ _ _ h2 h1)
    (fun a b => by simp only [le]; cases h : lt b a with
      | false => rfl
      | true => rw [swo_asymm H h]; rfl) xs ys (by simpa [le] using hx) (by simpa [le] using hy)
  simpa [le, mrg] using h
theorem stL_srt {lt : α → α → Bool} (H : SWO lt) : ∀ xs : List α, Srt lt (stL lt xs)
  | [] => .nil
  | x :: xs => by rw [stL_cons H]; exact mrg_srt H _ _ (List.pairwise_singleton _ _) (stL_srt H xs)
/-- A merge of two parts each: where the first parts stand before the second ones. -/
theorem mrg_split (lt : α → α → Bool) : ∀ (x1 y1 x2 y2 : List α), (∀ x ∈ x1, ∀ y ∈ y2, lt y x = false) → (∀ y ∈ y1, ∀ x ∈ x2, lt y x = true) → mrg lt (x1 ++ x2) (y1 ++ y2) = mrg lt x1 y1 ++ mrg lt x2 y2
  | [], [], x2, y2, _, _ => by rw [mrg_nil_left]; rfl
  | [], y :: y1, [], y2, _, _ => by rw [mrg_nil_left, List.append_nil, mrg_nil_left, mrg_nil_left]
  | [], y :: y1, x :: x2, y2, h1, h2 => by
    rw [mrg_nil_left, List.nil_append, List.cons_append, mrg_cons, if_pos (h2 y (List.mem_cons_self ..) x (List.mem_cons_self ..))]
    have := mrg_split lt [] y1 (x :: x2) y2 (by simp) (fun z hz => h2 z (List.mem_cons_of_mem _ hz))
    rw [List.nil_append, mrg_nil_left] at this
    rw [this]; rfl
  | x :: x1, [], x2, [], h1, h2 => by rw [mrg_nil_right, mrg_nil_right, List.append_nil, mrg_nil_right]
  | x :: x1, [], x2, y :: y2, h1, h2 => by
    rw [mrg_nil_right, List.nil_append, List.cons_append, mrg_cons, if_neg (by rw [h1 x (List.mem_cons_self ..) y (List.mem_cons_self ..)]; decide)]
    have := mrg_split lt x1 [] x2 (y :: y2) (fun z hz => h1 z (List.mem_cons_of_mem _ hz)) (by simp)
    rw [List.nil_append, mrg_nil_right] at this
    rw [this]; rfl
  | x :: x1, y :: y1, x2, y2, h1, h2 => by
    rw [List.cons_append, List.cons_append, mrg_cons, mrg_cons]
    split
    · have := mrg_split lt (x :: x1) y1 x2 y2 h1 (fun z hz => h2 z (List.mem_cons_of_mem _ hz))
      rw [List.cons_append] at this
      rw [this]; rfl
    · have := mrg_split lt x1 (y :: y1) x2 y2 (fun z hz => h1 z (List.mem_cons_of_mem _ hz)) h2
      rw [List.cons_append] at this
      rw [this]; rfl
/-! Arrays as lists in a frame. -/
section arr
variable [Inhabited α]
theorem get_fr {d : Array α} {A B : List α} {x : α} (h : d.toList = A ++ x :: B) {i : Nat} (hi : i = A.length) : d[i]! = x := by
  subst hi
  have h1 : d.toList[A.length]? = some x := by rw [h]; simp
  rw [Array.getElem?_toList] at h1
  rw [getElem!_def, h1]
theorem swp_toList (d : Array α) (i j : Nat) : (swp d i j).toList = (d.toList.set i d[j]!).set j d[i]! := by simp [swp]
theorem set_fr {β : Type} (A B : List β) (x z : β) : (A ++ x :: B).set A.length z = A ++ z :: B := by simp
theorem swp_fr {d : Array α} {A M B : List α} {x y : α} (h : d.toList = A ++ x :: (M ++ y :: B)) {i j : Nat} (hi : i = A.length) (hj : j = A.length + 1 + M.length) :
    (swp d i j).toList = A ++ y :: (M ++ x :: B) ∧ (swp d j i).toList = A ++ y :: (M ++ x :: B) := by
  have g1 : d[i]! = x := get_fr h hi
  have h' : d.toList = (A ++ x :: M) ++ y :: B := by rw [h]; simp
  have g2 : d[j]! = y := get_fr h' (by rw [hj]; simp; omega)
  rw [swp_toList, swp_toList, g1, g2]
  constructor
  · rw [h, hi, set_fr, show A ++ y :: (M ++ y :: B) = (A ++ y :: M) ++ y :: B by simp, show j = (A ++ y :: M).length by rw [hj]; simp; omega, set_fr]; simp
  · rw [h', show j = (A ++ x :: M).length by rw [hj]; simp; omega, set_fr, hi, show (A ++ x :: M) ++ x :: B = A ++ x :: (M ++ x :: B) by simp, set_fr]
theorem swp_adj {d : Array α} {A B : List α} {x y : α} (h : d.toList = A ++ x :: y :: B) {i j : Nat} (hi : i = A.length) (hj : j = A.length + 1) :
    (swp d i j).toList = A ++ y :: x :: B ∧ (swp d j i).toList = A ++ y :: x :: B := swp_fr (M := []) h hi (by simpa using hj)
theorem mrg_last_lt {β : Type} {lt : β → β → Bool} {x y : β} (h : lt y x = true) : ∀ X : List β, mrg lt (X ++ [x]) [y] = mrg lt X [y] ++ [x]
  | [] => by simp only [List.nil_append]; rw [mrg_cons, if_pos h, mrg_nil_right, mrg_nil_left]; rfl
  | z :: X => by
    rw [List.cons_append, mrg_cons, mrg_cons]
    split
    · rw [mrg_nil_right, mrg_nil_right]; rfl
    · rw [mrg_last_lt h X]; rfl
theorem mrg_last_ge {β : Type} {lt : β → β → Bool} (H : SWO lt) {x y : β} (h : lt y x = false) : ∀ X : List β, Srt lt (X ++ [x]) → mrg lt (X ++ [x]) [y] = X ++ [x] ++ [y]
  | [], _ => by simp only [List.nil_append]; rw [mrg_cons, if_neg (by rw [h]; decide), mrg_nil_left]; rfl
  | z :: X, hs => by
    rw [List.cons_append] at hs
    have hzx : lt x z = false := (List.pairwise_cons.1 hs).1 x (by simp)
    rw [List.cons_append, mrg_cons, if_neg (by rw [H.ntrans _ _ _ h hzx]; decide), mrg_last_ge H h X (List.pairwise_cons.1 hs).2]; rfl
theorem insInner_fr {lt : α → α → Bool} (H : SWO lt) : ∀ (j a : Nat) (d : Array α) (A X B : List α) (y : α), d.toList = A ++ (X ++ y :: B) → a = A.length → j = a + X.length → Srt lt X →
    (insInner lt a j d).toList = A ++ (mrg lt X [y] ++ B)
  | 0, a, d, A, X, B, y, h, ha, hj, hs => by
    obtain rfl : X = [] := List.length_eq_zero_iff.1 (by omega)
    rw [insInner, h, mrg_nil_left]; rfl
  | j + 1, a, d, A, X, B, y, h, ha, hj, hs => by
    rw [insInner]
    rcases List.eq_nil_or_concat X with rfl | ⟨X', x, hX⟩
    · rw [if_neg (by simp at hj ⊢; omega), h, mrg_nil_left]; rfl
    · rw [List.concat_eq_append] at hX
      subst hX
      simp only [List.length_append, List.length_cons, List.length_nil] at hj
      have h' : d.toList = (A ++ X') ++ x :: y :: B := by rw [h]; simp
      have g1 : d[j + 1]! = y := get_fr (A := (A ++ X') ++ [x]) (B := B) (by rw [h']; simp) (by simp; omega)
      have g2 : d[j]! = x := get_fr h' (by simp; omega)
      rw [g1, g2]
      cases hl : lt y x with
      | true =>
        rw [if_pos (by simp; omega), mrg_last_lt hl]
        have hw := (swp_adj h' (i := j) (j := j + 1) (by simp; omega) (by simp; omega)).2
        rw [insInner_fr H j a _ A X' (x :: B) y (by rw [hw]; simp) ha (by omega) (List.pairwise_append.1 hs).1]
        simp
      | false =>
        rw [if_neg (by simp), mrg_last_ge H hl X' hs, h]
        simp
theorem insOuter_fr {lt : α → α → Bool} (H : SWO lt) : ∀ (Y : List α) (i a b : Nat) (d : Array α) (A X B : List α), d.toList = A ++ (X ++ (Y ++ B)) → a = A.length → i = a + X.length → b = i + Y.length → Srt lt X →
    (insOuter lt a b i d).toList = A ++ (mrg lt X (stL lt Y) ++ B)
  | [], i, a, b, d, A, X, B, h, ha, hi, hb, hs => by
    rw [insOuter, if_neg (by simp at hb; omega), h, stL_nil, mrg_nil_right]; rfl
  | y :: Y, i, a, b, d, A, X, B, h, ha, hi, hb, hs => by
    simp only [List.length_cons] at hb
    rw [insOuter, if_pos (by omega)]
    have h1 := insInner_fr H i a d A X (Y ++ B) y (by rw [h]; simp) ha hi hs
    rw [insOuter_fr H Y (i + 1) a b _ A (mrg lt X [y]) B h1 ha (by rw [mrg_length]; simp; omega) (by omega) (mrg_srt H _ _ hs (List.pairwise_singleton _ _)), mrg_assoc H, ← stL_cons H]
theorem insertionSort_fr {lt : α → α → Bool} (H : SWO lt) {d : Array α} {A X B : List α} (h : d.toList = A ++ (X ++ B)) {a b : Nat} (ha : a = A.length) (hb : b = a + X.length) :
    (insertionSort lt d a b).toList = A ++ (stL lt X ++ B) := by
  unfold insertionSort
  cases X with
  | nil => rw [insOuter, if_neg (by simp at hb; omega), h]; rfl
  | cons x X =>
    simp only [List.length_cons] at hb
    rw [insOuter_fr H X (a + 1) a b d A [x] B (by rw [h]; simp) ha (by simp) (by omega) (List.pairwise_singleton _ _), ← stL_cons H]
theorem insertionSort_all {lt : α → α → Bool} (H : SWO lt) (d : Array α) : (insertionSort lt d 0 d.size).toList = stL lt d.toList := by
  have := insertionSort_fr H (d := d) (A := []) (X := d.toList) (B := []) (by simp) (a := 0) (b := d.size) rfl (by simp)
  simpa using this
end arr
end Go.Proofs.YtgkmipfcadiobaaDoor
set_option linter.unusedVariables false
namespace Go.Proofs.YtgkmipfcadiobaaDoor
open Go Go.Sort
variable {α : Type} [Inhabited α]
theorem shiftUp_fr : ∀ (n k : Nat) (d : Array α) (A Y B : List α) (x : α), d.toList = A ++ x :: (Y ++ B) → k = A.length → n = Y.length → (shiftUp n k d).toList = A ++ (Y ++ x :: B)
  | 0, k, d, A, Y, B, x, h, hk, hn => by
    obtain rfl : Y = [] := List.length_eq_zero_iff.1 hn.symm
    rw [shiftUp, h]; rfl
  | n + 1, k, d, A, [], B, x, h, hk, hn => by simp at hn
  | n + 1, k, d, A, y :: Y, B, x, h, hk, hn => by
    rw [shiftUp]
    have hw := (swp_adj (d := d) (A := A) (x := x) (y := y) (B := Y ++ B) (by rw [h]; rfl) (i := k) (j := k + 1) hk (by omega)).1
    rw [shiftUp_fr n (k + 1) _ (A ++ [y]) Y B x (by rw [hw]; simp) (by simp; omega) (by simpa using hn)]
    simp
theorem shiftDown_fr : ∀ (n k : Nat) (d : Array α) (A X B : List α) (y : α), d.toList = A ++ (X ++ y :: B) → k = A.length + X.length → n = X.length → (shiftDown n k d).toList = A ++ y :: (X ++ B)
  | 0, k, d, A, X, B, y, h, hk, hn => by
    obtain rfl : X = [] := List.length_eq_zero_iff.1 hn.symm
    rw [shiftDown, h]; rfl
  | n + 1, k, d, A, X, B, y, h, hk, hn => by
    rw [shiftDown]
    rcases List.eq_nil_or_concat X with rfl | ⟨X', x, hX⟩
    · simp at hn
    · rw [List.concat_eq_append] at hX
      subst hX
      simp only [List.length_append, List.length_cons, List.length_nil] at hk hn
      have hw := (swp_adj (d := d) (A := A ++ X') (x := x) (y := y) (B := B) (by rw [h]; simp) (i := k - 1) (j := k) (by simp; omega) (by simp; omega)).2
      rw [shiftDown_fr n (k - 1) _ A X' (x :: B) y (by rw [hw]; simp) (by omega) (by omega)]
      simp
theorem swapLoop_fr (a b : Nat) : ∀ (n i : Nat) (d : Array α) (A X M Y B : List α), d.toList = A ++ (X ++ (M ++ (Y ++ B))) → X.length = n → Y.length = n → a + i = A.length → b + i = A.length + n + M.length →
    (swapLoop a b n i d).toList = A ++ (Y ++ (M ++ (X ++ B)))
  | 0, i, d, A, X, M, Y, B, h, hX, hY, ha, hb => by
    obtain rfl : X = [] := List.length_eq_zero_iff.1 hX
    obtain rfl : Y = [] := List.length_eq_zero_iff.1 hY
    rw [swapLoop, h]
  | n + 1, i, d, A, [], M, Y, B, h, hX, hY, ha, hb => by simp at hX
  | n + 1, i, d, A, x :: X, M, [], B, h, hX, hY, ha, hb => by simp at hY
  | n + 1, i, d, A, x :: X, M, y :: Y, B, h, hX, hY, ha, hb => by
    simp only [List.length_cons] at hX hY
    rw [swapLoop]
    have hw := (swp_fr (d := d) (A := A) (M := X ++ M) (B := Y ++ B) (x := x) (y := y) (by rw [h]; simp) (i := a + i) (j := b + i) ha (by simp; omega)).1
    rw [swapLoop_fr a b n (i + 1) _ (A ++ [y]) X (M ++ [x]) Y B (by rw [hw]; simp) (by omega) (by omega) (by simp; omega) (by simp; omega)]
    simp
theorem split_at {β : Type} (X : List β) (n : Nat) (h : n ≤ X.length) : ∃ X1 X2, X = X1 ++ X2 ∧ X1.length = n ∧ X2.length = X.length - n := ⟨X.take n, X.drop n, (List.take_append_drop n X).symm, by simp; omega, by simp⟩
theorem rotG_fr (m : Nat) : ∀ (f i j : Nat) (d : Array α) (A X Y B : List α), d.toList = A ++ (X ++ (Y ++ B)) → X.length = i → Y.length = j → m = A.length + i → 1 ≤ i → 1 ≤ j → i + j ≤ f →
    (rotG m f i j d).toList = A ++ (Y ++ (X ++ B))
  | 0, i, j, d, A, X, Y, B, h, hX, hY, hm, hi, hj, hf => by omega
  | f + 1, i, j, d, A, X, Y, B, h, hX, hY, hm, hi, hj, hf => by
    rw [rotG]
    split
    · rename_i e
      have := swapLoop_fr (m - i) m i 0 d A X [] Y B (by simpa using h) hX (by omega) (by omega) (by simp; omega)
      simpa using this
    · rename_i e
      split
      · obtain ⟨X1, X2, rfl, h1, h2⟩ := split_at X j (by omega)
        have hw := swapLoop_fr (m - i) m j 0 d A X1 X2 Y B (by rw [h]; simp) h1 hY (by omega) (by omega)
        rw [rotG_fr m f (i - j) j _ (A ++ Y) X2 X1 B (by rw [hw]; simp) (by omega) h1 (by simp; omega) (by omega) hj (by omega)]
        simp
      · obtain ⟨Y1, Y2, rfl, h1, h2⟩ := split_at Y (j - i) (by omega)
        have hw := swapLoop_fr (m - i) (m + j - i) i 0 d A X Y1 Y2 B (by rw [h]; simp) hX (by omega) (by omega) (by omega)
        rw [rotG_fr m f i (j - i) _ A Y2 Y1 (X ++ B) (by rw [hw]) (by omega) h1 (by omega) hi (by omega) (by omega)]
        simp
theorem bsr_spec (test : Nat → Bool) : ∀ (f i j : Nat), i ≤ j → j - i ≤ f → (∀ h h', i ≤ h → h < h' → h' < j → test h' = true → test h = true) →
    (∀ h, i ≤ h → h < bsr test f i j → test h = true) ∧ (∀ h, bsr test f i j ≤ h → h < j → test h = false)
  | 0, i, j, hij, hf, _ => by rw [bsr]; exact ⟨fun h h1 h2 => by omega, fun h h1 h2 => by omega⟩
  | f + 1, i, j, hij, hf, hm => by
    rw [bsr]
    split
    · rename_i hlt
      cases ht : test ((i + j) / 2) with
      | true =>
        rw [if_pos rfl]
        obtain ⟨h1, h2⟩ := bsr_spec test f ((i + j) / 2 + 1) j (by omega) (by omega) (fun h h' a b c => hm h h' (by omega) b c)
        refine ⟨fun h a b => ?_, h2⟩
        by_cases e : h ≤ (i + j) / 2
        · by_cases e' : h = (i + j) / 2
          · rw [e']; exact ht
          · exact hm h ((i + j) / 2) a (by omega) (by omega) ht
        · exact h1 h (by omega) b
      | false =>
        rw [if_neg (by decide)]
        obtain ⟨h1, h2⟩ := bsr_spec test f i ((i + j) / 2) (by omega) (by omega) (fun h h' a b c => hm h h' a b (by omega))
        refine ⟨h1, fun h a b => ?_⟩
        by_cases e : (i + j) / 2 ≤ h
        · cases hh : test h with
          | false => rfl
          | true =>
            by_cases e' : h = (i + j) / 2
            · rw [e', ht] at hh; cases hh
            · rw [hm ((i + j) / 2) h (by omega) (by omega) b hh] at ht; cases ht
        · exact h2 h a (by omega)
    · exact ⟨fun h h1 h2 => by omega, fun h h1 h2 => by omega⟩
theorem get_seg {d : Array α} {P Q R : List α} (h : d.toList = P ++ (Q ++ R)) (i : Nat) (hi : i < Q.length) : d[P.length + i]! = Q[i] := by
  have h1 : d.toList[P.length + i]? = some Q[i] := by rw [h, List.getElem?_append_right (by omega), Nat.add_sub_cancel_left, List.getElem?_append_left hi, List.getElem?_eq_getElem hi]
  rw [Array.getElem?_toList] at h1
  rw [getElem!_def, h1]
theorem srt_get {β : Type} {lt : β → β → Bool} {X : List β} (h : Srt lt X) {i j : Nat} (hj : j < X.length) (hij : i < j) : lt X[j] (X[i]'(by omega)) = false := List.pairwise_iff_getElem.1 h i j (by omega) hj hij
theorem mrg_front {β : Type} (lt : β → β → Bool) (x : β) (Y1 Y2 : List β) (h1 : ∀ y ∈ Y1, lt y x = true) (h2 : ∀ y ∈ Y2, lt y x = false) : mrg lt [x] (Y1 ++ Y2) = Y1 ++ x :: Y2 := by
  have e1 := mrg_split lt [] Y1 [x] Y2 (by simp) (by intro y hy z hz; simp at hz; subst hz; exact h1 y hy)
  have e2 := mrg_split lt [x] [] [] Y2 (by intro z hz y hy; simp at hz; subst hz; exact h2 y hy) (by simp)
  simp only [List.nil_append, List.append_nil, mrg_nil_left, mrg_nil_right] at e1 e2
  rw [e1, e2]; rfl
theorem mrg_back {β : Type} (lt : β → β → Bool) (y : β) (X1 X2 : List β) (h1 : ∀ x ∈ X1, lt y x = false) (h2 : ∀ x ∈ X2, lt y x = true) : mrg lt (X1 ++ X2) [y] = X1 ++ y :: X2 := by
  have e1 := mrg_split lt X1 [] X2 [y] (by intro x hx z hz; simp at hz; subst hz; exact h1 x hx) (by simp)
  have e2 := mrg_split lt [] [y] X2 [] (by simp) (by intro z hz x hx; simp at hz; subst hz; exact h2 x hx)
  simp only [List.nil_append, List.append_nil, mrg_nil_left, mrg_nil_right] at e1 e2
  rw [e1, e2]; rfl
theorem symStart_spec {lt : α → α → Bool} (H : SWO lt) {a m b : Nat} {d : Array α} {A X Y B : List α} (h : d.toList = A ++ (X ++ (Y ++ B))) (ha : a = A.length) (hm : m = a + X.length) (hb : b = m + Y.length) (hX : Srt lt X) (hY : Srt lt Y) :
    ∃ X1 X2 Y1 Y2, X = X1 ++ X2 ∧ Y = Y1 ++ Y2 ∧ a + X1.length = symStart lt a m b d ∧ m + Y1.length = (a + b) / 2 + m - symStart lt a m b d ∧ a ≤ symStart lt a m b d ∧ symStart lt a m b d ≤ m ∧ symStart lt a m b d ≤ (a + b) / 2 ∧ (a + b) / 2 + m - symStart lt a m b d ≤ b ∧
      (∀ x ∈ X1, ∀ y ∈ Y2, lt y x = false) ∧ (∀ y ∈ Y1, ∀ x ∈ X2, lt y x = true) := by
  have gX : ∀ i (hi : i < X.length), d[a + i]! = X[i] := fun i hi => by rw [ha]; exact get_seg h i hi
  have gY : ∀ i (hi : i < Y.length), d[m + i]! = Y[i] := fun i hi => by
    have := get_seg (P := A ++ X) (Q := Y) (R := B) (by rw [h]; simp) i hi
    rwa [show (A ++ X).length = m by simp; omega] at this
  have key : ∃ lo hi, lo ≤ hi ∧ a ≤ lo ∧ hi ≤ m ∧ hi ≤ (a + b) / 2 ∧ (a + b) / 2 + m - b ≤ lo ∧ (lo = a ∨ lo = (a + b) / 2 + m - b) ∧ (hi = m ∨ hi = (a + b) / 2) ∧ symStart lt a m b d = bsr (fun c => !lt d[(a + b) / 2 + m - 1 - c]! d[c]!) (hi - lo) lo hi := by
    unfold symStart
    split
    · exact ⟨(a + b) / 2 + m - b, (a + b) / 2, by omega, by omega, by omega, by omega, by omega, .inr rfl, .inr rfl, rfl⟩
    · exact ⟨a, m, by omega, by omega, by omega, by omega, by omega, .inl rfl, .inl rfl, rfl⟩
  obtain ⟨lo, hi, hlh, hal, hhm, hhd, hlb, hlo, hhi, hs⟩ := key
  rw [hs]
  have mono : ∀ c c', lo ≤ c → c < c' → c' < hi → (!lt d[(a + b) / 2 + m - 1 - c']! d[c']!) = true → (!lt d[(a + b) / 2 + m - 1 - c]! d[c]!) = true := by
    intro c c' h1 h2 h3 h4
    have ec : d[c]! = X[c - a]'(by omega) := by have := gX (c - a) (by omega); rwa [show a + (c - a) = c by omega] at this
    have ec' : d[c']! = X[c' - a]'(by omega) := by have := gX (c' - a) (by omega); rwa [show a + (c' - a) = c' by omega] at this
    have eq : d[(a + b) / 2 + m - 1 - c]! = Y[(a + b) / 2 - 1 - c]'(by omega) := by have := gY ((a + b) / 2 - 1 - c) (by omega); rwa [show m + ((a + b) / 2 - 1 - c) = (a + b) / 2 + m - 1 - c by omega] at this
    have eq' : d[(a + b) / 2 + m - 1 - c']! = Y[(a + b) / 2 - 1 - c']'(by omega) := by have := gY ((a + b) / 2 - 1 - c') (by omega); rwa [show m + ((a + b) / 2 - 1 - c') = (a + b) / 2 + m - 1 - c' by omega] at this
    rw [ec, eq]
    rw [ec', eq'] at h4
    have h4' : lt (Y[(a + b) / 2 - 1 - c']'(by omega)) (X[c' - a]'(by omega)) = false := by simpa using h4
    have h5 := srt_get hX (i := c - a) (j := c' - a) (by omega) (by omega)
    have h6 := srt_get hY (i := (a + b) / 2 - 1 - c') (j := (a + b) / 2 - 1 - c) (by omega) (by omega)
    have := H.ntrans _ _ _ (H.ntrans _ _ _ h6 h4') h5
    rw [this]; rfl
  obtain ⟨b1, b2⟩ := bsr_bounds (fun c => !lt d[(a + b) / 2 + m - 1 - c]! d[c]!) (hi - lo) lo hi hlh
  obtain ⟨t1, t2⟩ := bsr_spec (fun c => !lt d[(a + b) / 2 + m - 1 - c]! d[c]!) (hi - lo) lo hi hlh (by omega) mono
  generalize bsr (fun c => !lt d[(a + b) / 2 + m - 1 - c]! d[c]!) (hi - lo) lo hi = s at *
  obtain ⟨X1, X2, rfl, hX1, hX2⟩ := split_at X (s - a) (by omega)
  obtain ⟨Y1, Y2, rfl, hY1, hY2⟩ := split_at Y ((a + b) / 2 - s) (by omega)
  simp only [List.length_append] at gX gY hm hb
  refine ⟨X1, X2, Y1, Y2, rfl, rfl, by omega, by omega, by omega, by omega, by omega, by omega, ?_, ?_⟩
  · intro x hx y hy
    obtain ⟨i, hi', rfl⟩ := List.mem_iff_getElem.1 hx
    obtain ⟨j, hj', rfl⟩ := List.mem_iff_getElem.1 hy
    have ht := t1 (s - 1) (by omega) (by omega)
    have g1 := gX (s - 1 - a) (by omega)
    have g2 := gY ((a + b) / 2 - s) (by omega)
    rw [show a + (s - 1 - a) = s - 1 by omega] at g1
    rw [show m + ((a + b) / 2 - s) = (a + b) / 2 + m - 1 - (s - 1) by omega] at g2
    rw [g1, g2] at ht
    have ht' : lt ((Y1 ++ Y2)[(a + b) / 2 - s]'(by simp; omega)) ((X1 ++ X2)[s - 1 - a]'(by simp; omega)) = false := by simpa using ht
    have c1 : lt ((X1 ++ X2)[s - 1 - a]'(by simp; omega)) ((X1 ++ X2)[i]'(by simp; omega)) = false := by
      by_cases e : i = s - 1 - a
      · subst e; exact H.irrefl _
      · exact srt_get hX (by simp; omega) (by omega)
    have c2 : lt ((Y1 ++ Y2)[Y1.length + j]'(by simp; omega)) ((Y1 ++ Y2)[(a + b) / 2 - s]'(by simp; omega)) = false := by
      by_cases e : Y1.length + j = (a + b) / 2 - s
      · have : (Y1 ++ Y2)[Y1.length + j]'(by simp; omega) = (Y1 ++ Y2)[(a + b) / 2 - s]'(by simp; omega) := by congr 1
        rw [this]; exact H.irrefl _
      · exact srt_get hY (by simp; omega) (by omega)
    have e1 : (X1 ++ X2)[i]'(by simp; omega) = X1[i] := by rw [List.getElem_append_left]
    have e2 : (Y1 ++ Y2)[Y1.length + j]'(by simp; omega) = Y2[j] := by rw [List.getElem_append_right (by omega)]; simp
    rw [← e1, ← e2]
    exact H.ntrans _ _ _ (H.ntrans _ _ _ c2 ht') c1
  · intro y hy x hx
    obtain ⟨i, hi', rfl⟩ := List.mem_iff_getElem.1 hx
    obtain ⟨j, hj', rfl⟩ := List.mem_iff_getElem.1 hy
    have ht := t2 s (by omega) (by omega)
    have g1 := gX (s - a) (by omega)
    have g2 := gY ((a + b) / 2 - 1 - s) (by omega)
    rw [show a + (s - a) = s by omega] at g1
    rw [show m + ((a + b) / 2 - 1 - s) = (a + b) / 2 + m - 1 - s by omega] at g2
    rw [g1, g2] at ht
    have ht' : lt ((Y1 ++ Y2)[(a + b) / 2 - 1 - s]'(by simp; omega)) ((X1 ++ X2)[s - a]'(by simp; omega)) = true := by simpa using ht
    have c1 : lt ((X1 ++ X2)[X1.length + i]'(by simp; omega)) ((X1 ++ X2)[s - a]'(by simp; omega)) = false := by
      by_cases e : X1.length + i = s - a
      · have : (X1 ++ X2)[X1.length + i]'(by simp; omega) = (X1 ++ X2)[s - a]'(by simp; omega) := by congr 1
        rw [this]; exact H.irrefl _
      · exact srt_get hX (by simp; omega) (by omega)
    have c2 : lt ((Y1 ++ Y2)[(a + b) / 2 - 1 - s]'(by simp; omega)) ((Y1 ++ Y2)[j]'(by simp; omega)) = false := by
      by_cases e : j = (a + b) / 2 - 1 - s
      · subst e; exact H.irrefl _
      · exact srt_get hY (by simp; omega) (by omega)
    have e1 : (Y1 ++ Y2)[j]'(by simp; omega) = Y1[j] := by rw [List.getElem_append_left]
    have e2 : (X1 ++ X2)[X1.length + i]'(by simp; omega) = X2[i] := by rw [List.getElem_append_right (by omega)]; simp
    rw [← e1, ← e2]
    cases hr : lt ((Y1 ++ Y2)[j]'(by simp; omega)) ((X1 ++ X2)[X1.length + i]'(by simp; omega)) with
    | true => rfl
    | false => rw [H.ntrans _ _ _ (H.ntrans _ _ _ c2 hr) c1] at ht'; cases ht'
theorem symM_fr {lt : α → α → Bool} (H : SWO lt) : ∀ (f a m b : Nat) (d : Array α) (A X Y B : List α), d.toList = A ++ (X ++ (Y ++ B)) → a = A.length → m = a + X.length → b = m + Y.length → 1 ≤ X.length → 1 ≤ Y.length → Srt lt X → Srt lt Y → b - a ≤ f →
    (symM lt f a m b d).toList = A ++ (mrg lt X Y ++ B)
  | 0, a, m, b, d, A, X, Y, B, h, ha, hm, hb, h1, h2, hX, hY, hf => by omega
  | f + 1, a, m, b, d, A, X, Y, B, h, ha, hm, hb, h1, h2, hX, hY, hf => by
    rw [symM]
    split
    · rename_i e
      obtain ⟨x, rfl⟩ : ∃ x, X = [x] := List.length_eq_one_iff.1 (by omega)
      have gx : d[a]! = x := get_fr (A := A) (B := Y ++ B) (by rw [h]; rfl) ha
      have gY : ∀ i (hi : i < Y.length), d[m + i]! = Y[i] := fun i hi => by
        have := get_seg (P := A ++ [x]) (Q := Y) (R := B) (by rw [h]; simp) i hi
        rwa [show (A ++ [x]).length = m by simp; simp at hm; omega] at this
      rw [gx]
      have mono : ∀ c c', m ≤ c → c < c' → c' < b → lt d[c']! x = true → lt d[c]! x = true := by
        intro c c' a1 a2 a3 a4
        have g1 := gY (c - m) (by omega)
        have g2 := gY (c' - m) (by omega)
        rw [show m + (c - m) = c by omega] at g1
        rw [show m + (c' - m) = c' by omega] at g2
        rw [g2] at a4
        rw [g1]
        have := srt_get hY (i := c - m) (j := c' - m) (by omega) (by omega)
        cases hr : lt (Y[c - m]'(by omega)) x with
        | true => rfl
        | false => rw [H.ntrans _ _ _ this hr] at a4; cases a4
      obtain ⟨b1, b2⟩ := bsr_bounds (fun c => lt d[c]! x) (b - m) m b (by omega)
      obtain ⟨t1, t2⟩ := bsr_spec (fun c => lt d[c]! x) (b - m) m b (by omega) (by omega) mono
      generalize bsr (fun c => lt d[c]! x) (b - m) m b = s at *
      obtain ⟨Y1, Y2, rfl, hY1, hY2⟩ := split_at Y (s - m) (by omega)
      simp only [List.length_append] at gY hb
      rw [shiftUp_fr (s - 1 - a) a d A Y1 (Y2 ++ B) x (by rw [h]; simp) ha (by simp at hm; omega)]
      rw [mrg_front lt x Y1 Y2]
      · simp
      · intro y hy
        obtain ⟨j, hj, rfl⟩ := List.mem_iff_getElem.1 hy
        have := t1 (m + j) (by omega) (by omega)
        rw [gY j (by omega), List.getElem_append_left hj] at this
        exact this
      · intro y hy
        obtain ⟨j, hj, rfl⟩ := List.mem_iff_getElem.1 hy
        have := t2 (m + (Y1.length + j)) (by omega) (by omega)
        rw [gY (Y1.length + j) (by omega), List.getElem_append_right (by omega)] at this
        simpa using this
    · split
      · rename_i e0 e
        obtain ⟨y, rfl⟩ : ∃ x, Y = [x] := List.length_eq_one_iff.1 (by omega)
        have gy : d[m]! = y := get_fr (A := A ++ X) (B := B) (by rw [h]; simp) (by simp; omega)
        have gX : ∀ i (hi : i < X.length), d[a + i]! = X[i] := fun i hi => by rw [ha]; exact get_seg h i hi
        rw [gy]
        have mono : ∀ c c', a ≤ c → c < c' → c' < m → (!lt y d[c']!) = true → (!lt y d[c]!) = true := by
          intro c c' a1 a2 a3 a4
          have g1 := gX (c - a) (by omega)
          have g2 := gX (c' - a) (by omega)
          rw [show a + (c - a) = c by omega] at g1
          rw [show a + (c' - a) = c' by omega] at g2
          rw [g2] at a4
          rw [g1]
          have a4' : lt y (X[c' - a]'(by omega)) = false := by simpa using a4
          have := srt_get hX (i := c - a) (j := c' - a) (by omega) (by omega)
          rw [H.ntrans _ _ _ a4' this]; rfl
        obtain ⟨b1, b2⟩ := bsr_bounds (fun c => !lt y d[c]!) (m - a) a m (by omega)
        obtain ⟨t1, t2⟩ := bsr_spec (fun c => !lt y d[c]!) (m - a) a m (by omega) (by omega) mono
        generalize bsr (fun c => !lt y d[c]!) (m - a) a m = s at *
        obtain ⟨X1, X2, rfl, hX1, hX2⟩ := split_at X (s - a) (by omega)
        simp only [List.length_append] at gX hm
        rw [shiftDown_fr (m - s) m d (A ++ X1) X2 B y (by rw [h]; simp) (by simp; omega) (by omega)]
        rw [mrg_back lt y X1 X2]
        · simp
        · intro x hx
          obtain ⟨j, hj, rfl⟩ := List.mem_iff_getElem.1 hx
          have := t1 (a + j) (by omega) (by omega)
          rw [gX j (by omega), List.getElem_append_left hj] at this
          simpa using this
        · intro x hx
          obtain ⟨j, hj, rfl⟩ := List.mem_iff_getElem.1 hx
          have := t2 (a + (X1.length + j)) (by omega) (by omega)
          rw [gX (X1.length + j) (by omega), List.getElem_append_right (by omega)] at this
          simpa using this
      · rename_i e1 e2
        simp only
        obtain ⟨X1, X2, Y1, Y2, rfl, rfl, l1, l2, l3, l4, l5, l6, c1, c2⟩ := symStart_spec H h ha hm hb hX hY
        generalize symStart lt a m b d = s at *
        simp only [List.length_append] at hm hb h1 h2
        have hR : (symRot m s ((a + b) / 2 + m - s) d).toList = A ++ (X1 ++ (Y1 ++ (X2 ++ (Y2 ++ B)))) := by
          unfold symRot
          split
          · have := rotG_fr m ((m - s) + ((a + b) / 2 + m - s - m)) (m - s) ((a + b) / 2 + m - s - m) d (A ++ X1) X2 Y1 (Y2 ++ B) (by rw [h]; simp) (by omega) (by omega) (by simp; omega) (by omega) (by omega) (by omega)
            rw [this]; simp
          · rename_i hc
            have : X2 = [] ∨ Y1 = [] := by
              by_cases hz : s < m
              · right; exact List.length_eq_zero_iff.1 (by omega)
              · left; exact List.length_eq_zero_iff.1 (by omega)
            rw [h]
            rcases this with rfl | rfl <;> simp
        generalize symRot m s ((a + b) / 2 + m - s) d = dR at *
        have h3 : (if a < s ∧ s < (a + b) / 2 then symM lt f a s ((a + b) / 2) dR else dR).toList = A ++ (mrg lt X1 Y1 ++ (X2 ++ (Y2 ++ B))) := by
          split
          · exact symM_fr H f a s ((a + b) / 2) dR A X1 Y1 (X2 ++ (Y2 ++ B)) hR ha (by omega) (by omega) (by omega) (by omega) (List.pairwise_append.1 hX).1 (List.pairwise_append.1 hY).1 (by omega)
          · have : X1 = [] ∨ Y1 = [] := by
              by_cases hz : a < s
              · right; exact List.length_eq_zero_iff.1 (by omega)
              · left; exact List.length_eq_zero_iff.1 (by omega)
            rw [hR]
            rcases this with rfl | rfl
            · rw [mrg_nil_left]; simp
            · rw [mrg_nil_right]; simp
        have lm : (mrg lt X1 Y1).length = X1.length + Y1.length := mrg_length ..
        rw [mrg_split lt X1 Y1 X2 Y2 c1 c2]
        generalize (if a < s ∧ s < (a + b) / 2 then symM lt f a s ((a + b) / 2) dR else dR) = dS at *
        split
        · have := symM_fr H f ((a + b) / 2) ((a + b) / 2 + m - s) b dS (A ++ mrg lt X1 Y1) X2 Y2 B (by rw [h3]; simp) (by simp; omega) (by omega) (by omega) (by omega) (by omega) (List.pairwise_append.1 hX).2.1 (List.pairwise_append.1 hY).2.1 (by omega)
          rw [this]; simp
        · have : X2 = [] ∨ Y2 = [] := by
            by_cases hz : (a + b) / 2 < (a + b) / 2 + m - s
            · right; exact List.length_eq_zero_iff.1 (by omega)
            · left; exact List.length_eq_zero_iff.1 (by omega)
          rw [h3]
          rcases this with rfl | rfl
          · rw [mrg_nil_left]; simp
          · rw [mrg_nil_right]; simp
end Go.Proofs.YtgkmipfcadiobaaDoor
