/- slices.symMergeCmpFunc at structs: from a world of the sort's to a world of the sort's. slices.symMergeCmpFunc at structs, the case of one at the back. slices.symMergeCmpFunc at structs, the general case: over the contracts of the rotation and of its own calls. slices.symMergeCmpFunc at structs, the general case: over the contracts of the rotation and of its own calls. -/
import Derived.Test.YtgkmipfcadiobaaDoorLB
import Derived.Handy
set_option linter.unusedVariables false
namespace Go.Proofs.YtgkmipfcadiobaaDoor
open Go Go.Shelf Go.RowKit Go.Lib Go.Sort
variable {α : Type} [Inhabited α]
structure LayQS (P : Program) (k : Nat) : Prop extends LayQ P k where
  f84 : P.funcs[84]? = some Tryd.f84
  t106 : P.underlying 106 = some (.int .u64)
  a106 : ∀ w, (isAgg 106).run P w = .ok false w
  z106 : ∀ w, (Go.sizeOf 106).run P w = .ok 1 w
  v106 : ∀ w, (zeroValue 106).run P w = .ok (.int .u64 0) w
theorem layQS : LayQS Tryd.prog 3 where
  toLayQ := layQ
  f84 := Tryd.func84
  t106 := Tryd.underlying106
  a106 := Tryd.isAgg106
  z106 := Tryd.sizeOf106
  v106 := Tryd.zeroValue106
variable {P : Program} {k : Nat}
theorem halve (i j : Nat) (h : i + j < 4611686018427387904) : IntKind.i64.wrap (IntKind.u64.wrap ((i : Int) + (j : Int)) / 2) = (((i + j) / 2 : Nat) : Int) := by
  rw [IntKind.wrap_i64, IntKind.wrap_u64]; omega
set_option maxHeartbeats 4000000 in
set_option maxRecDepth 1000000 in
theorem symQ_one (L : LayQS P k) (enc : α → List Value) (cf : α → α → Int) (g : Nat) (cb : Array Value) (blk off cap a m b : Nat) (d0 d : Array α) (w0 w : World)
    (eg : ∀ args w, (callFunc g args).run P w = .ok (.enter g args) w) (hcmp : CmpLays P g cb enc k cf blk off d0.size w0)
    (R : RowK enc k w0 blk off d0) (hs : d0.size = d.size) (S : SWK enc k w0 blk off d w) (hm1 : m ≤ a + 1) (hm2 : a + 1 ≤ m) (hab : m < b) (hb : b ≤ d.size) (hsz : d.size < 2305843009213693952) :
    Calls P 84 #[.slice (some ⟨blk, off, none⟩) d.size cap, .int .i64 a, .int .i64 m, .int .i64 b, .func (.func g) #[] cb] w fun e w' => e = .returned (.tuple #[]) ∧ SWK enc k w0 blk off (shiftUp (bsr (fun h => ltOf cf d[h]! d[a]!) (b - m) m b - 1 - a) a d) w' := by
  have mixed := L.mixed; have t0 := L.t0; have a0 := L.a0; have z0 := L.z0; have v0 := L.v0; have t3 := L.t3; have a3 := L.a3; have z3 := L.z3; have v3 := L.v3; have t4 := L.t4; have a4 := L.a4; have z4 := L.z4; have v4 := L.v4; have t22 := L.t22; have a22 := L.a22; have z22 := L.z22; have v22 := L.v22; have t77 := L.t77; have a77 := L.a77; have z77 := L.z77; have v77 := L.v77; have aE := L.aE; have zE := L.zE
  have t106 := L.t106; have a106 := L.a106; have z106 := L.z106; have v106 := L.v106
  have u22 := run_underlying L.t22
  have FG := L.f84
  have S0 : Aside (SWK enc k w0 blk off d w) := S
  have HC : Aside _ := hcmp
  clear S hcmp
  have e1 : IntKind.i64.wrap ((m : Int) - (a : Int)) = 1 := by rw [IntKind.wrap_i64]; omega
  go_enter FG, Tryd.ntmps84
  go_wp2
  go_loopg [10, 11] (b - m) (fun kx s10 s11 wr => ∃ (i j : Nat), s10 = .int .i64 i ∧ s11 = .int .i64 j ∧ m ≤ i ∧ i ≤ j ∧ j ≤ b ∧ j - i ≤ kx ∧
    Aside (SWK enc k w0 blk off d wr) ∧ Hid (bsr (fun h => ltOf cf d[h]! d[a]!) kx i j = bsr (fun h => ltOf cf d[h]! d[a]!) (b - m) m b))
  case atStart => exact ⟨m, b, by first | rfl | go_num, by first | rfl | go_num, by omega, by omega, by omega, by omega, S0, (show Hid _ from rfl)⟩
  case round =>
    clear S0 e1
    obtain ⟨i, j, rfl, rfl, hi, hij, hjb, hk, S1, heq⟩ := hrel
    by_cases hlt : (i : Int) < (j : Int)
    · have hid : i < j := by omega
      obtain ⟨f, rfl⟩ : ∃ f, gk = f + 1 := ⟨gk - 1, by omega⟩
      go_wp2_with fail
      obtain ⟨h, hh⟩ : ∃ h, h = (i + j) / 2 := ⟨_, rfl⟩
      have hz : ((i : Int) + (j : Int)) / 2 = (h : Int) := by omega
      rw [hz]
      have hb1 : i ≤ h ∧ h < j := by omega
      have ea : ((h : Int)).toNat = h := by omega
      have pa : (0 : Int) ≤ (h : Int) := by omega
      have ba : (h : Int) < (d.size : Int) := by omega
      have ec : ((a : Int)).toNat = a := by omega
      have pc : (0 : Int) ≤ (a : Int) := by omega
      have bc : (a : Int) < (d.size : Int) := by omega
      have hstep := heq.out
      rw [bsr, if_pos hid, ← hh] at hstep
      obtain ⟨x, hx⟩ : ∃ x, x = d[h]! := ⟨_, rfl⟩
      obtain ⟨y, hy⟩ : ∃ x, x = d[a]! := ⟨_, rfl⟩
      have l1 := S1.out.ld R (by omega) P h (by omega)
      have l2 := S1.out.ld R (by omega) P a (by omega)
      rw [← hx] at l1
      rw [← hy] at l2
      have hc := S1.out.cmp HC.out (by omega) x y
      clear hh
      cases hL : ltOf cf d[h]! d[a]! with
      | true =>
        have hv : cf x y < 0 := by rw [hx, hy]; exact of_decide_eq_true hL
        have hd : decide (cf x y < 0) = true := decide_eq_true hv
        rw [hL, if_pos rfl] at hstep
        have HS : Hid _ := hstep
        clear hx hy hstep heq hL hz
        go_wp2_with fail
        go_quiet_grown (first | (go_at_fn g; refine Calls.grown_of (hc _ _)))
        have S2 : Aside (SWK enc k w0 blk off d (grow (wr.drewN nq) osq)) := S1.out.grown nq osq
        clear l1 l2 hc S1
        generalize grow (wr.drewN nq) osq = w2 at S2 ⊢
        clear nq osq
        go_wp2
        go_roundg f
        case measure => omega
        case rel => exact ⟨h + 1, j, by first | rfl | go_num, rfl, by omega, by omega, by omega, by omega, S2, (show Hid _ from HS.out)⟩
      | false =>
        have hv : ¬ cf x y < 0 := by rw [hx, hy]; exact of_decide_eq_false hL
        have hd : decide (cf x y < 0) = false := decide_eq_false hv
        rw [hL, if_neg (by decide)] at hstep
        have HS : Hid _ := hstep
        clear hx hy hstep heq hL hz
        go_wp2_with fail
        go_quiet_grown (first | (go_at_fn g; refine Calls.grown_of (hc _ _)))
        have S2 : Aside (SWK enc k w0 blk off d (grow (wr.drewN nq) osq)) := S1.out.grown nq osq
        clear l1 l2 hc S1
        generalize grow (wr.drewN nq) osq = w2 at S2 ⊢
        clear nq osq
        go_wp2
        go_roundg f
        case measure => omega
        case rel => exact ⟨i, h, rfl, by first | rfl | go_num, by omega, by omega, by omega, by omega, S2, (show Hid _ from HS.out)⟩
    · have HI : Hid (i = bsr (fun h => ltOf cf d[h]! d[a]!) (b - m) m b) := by
        have := heq.out
        cases gk with
        | zero => exact this
        | succ n => rw [bsr, if_neg (by omega)] at this; exact this
      clear heq
      have w1 : IntKind.i64.wrap ((i : Int) - 1) = (i : Int) - 1 := by rw [IntKind.wrap_i64]; omega
      go_wp2_with fail
      go_loopg [13] (i - 1 - a) (fun kx s13 wr => ∃ (q : Nat) (dk : Array α), s13 = .int .i64 q ∧ a ≤ q ∧ q + kx = i - 1 ∧
        dk.size = d.size ∧ Aside (SWK enc k w0 blk off dk wr) ∧ Hid (shiftUp kx q dk = shiftUp (i - 1 - a) a d))
      case atStart => exact ⟨a, d, by first | rfl | go_num, by omega, by omega, rfl, S1, (show Hid _ from rfl)⟩
      case round =>
        clear S1
        obtain ⟨q, dk, rfl, hq, hqk, hds, S2, H2⟩ := hrel
        by_cases hlt2 : (q : Int) < (i : Int) - 1
        · go_wp2_with fail
          have ea : ((q : Int)).toNat = q := by omega
          have pa : (0 : Int) ≤ (q : Int) := by omega
          have ba : (q : Int) < (d.size : Int) := by omega
          have ec : ((q : Int) + 1).toNat = q + 1 := by omega
          have pc : (0 : Int) ≤ (q : Int) + 1 := by omega
          have bc : (q : Int) + 1 < (d.size : Int) := by omega
          have rc : IntKind.i64.wrap ((q : Int) + 1) = (q : Int) + 1 := by rw [IntKind.wrap_i64]; omega
          have S3 : Aside (SWK enc k w0 blk off (swp dk q (q + 1)) ((wr.drew.setCells blk (off + q * k) (enc dk[q + 1]!)).setCells blk (off + (q + 1) * k) (enc dk[q]!))) := S2.out.swapped R q (q + 1) (by omega) (by omega)
          have l44a := S2.out.ld1 R (by omega) P q (by omega)
          have l44b := S2.out.ld1 R (by omega) P (q + 1) (by omega)
          have s44a := S2.out.st1 R (by omega) P q (by omega) dk[q + 1]!
          have s44b := S2.out.st2 R (by omega) P q (q + 1) (by omega) (by omega) dk[q + 1]! dk[q]!
          have n44a : (enc dk[q]!).length = k := R.hk _
          have n44b : (enc dk[q + 1]!).length = k := R.hk _
          generalize enc dk[q]! = cI44 at S3 l44a s44b n44a
          generalize enc dk[q + 1]! = cJ44 at S3 l44b s44a s44b n44b
          clear S2
          go_wp2_with fail
          go_big_region_o
          clear l44a l44b s44a s44b
          generalize (wr.drew.setCells blk (off + q * k) cJ44).setCells blk (off + (q + 1) * k) cI44 = w2 at S3 ⊢
          go_wp2
          obtain ⟨j2, rfl⟩ : ∃ j, gk = j + 1 := ⟨gk - 1, by omega⟩
          go_roundg j2
          case measure => omega
          case rel => exact ⟨q + 1, swp dk q (q + 1), by first | rfl | go_num, by omega, by omega, by rw [size_swp]; exact hds, S3, (show Hid _ from H2.out)⟩
        · go_wp2
          go_returns
          refine ⟨rfl, ?_⟩
          obtain rfl : gk = 0 := by omega
          rw [← HI.out, ← H2.out]
          exact S2.out
end Go.Proofs.YtgkmipfcadiobaaDoor
set_option linter.unusedVariables false
namespace Go.Proofs.YtgkmipfcadiobaaDoor
open Go Go.Shelf Go.RowKit Go.Lib Go.Sort
variable {α : Type} [Inhabited α]
variable {P : Program} {k : Nat}
set_option maxHeartbeats 4000000 in
set_option maxRecDepth 1000000 in
theorem symQ_last (L : LayQS P k) (enc : α → List Value) (cf : α → α → Int) (g : Nat) (cb : Array Value) (blk off cap a m b : Nat) (d0 d : Array α) (w0 w : World)
    (eg : ∀ args w, (callFunc g args).run P w = .ok (.enter g args) w) (hcmp : CmpLays P g cb enc k cf blk off d0.size w0)
    (R : RowK enc k w0 blk off d0) (hs : d0.size = d.size) (S : SWK enc k w0 blk off d w) (hm : a + 1 < m) (hb1 : b ≤ m + 1) (hb2 : m + 1 ≤ b) (hb : b ≤ d.size) (hsz : d.size < 2305843009213693952) :
    Calls P 84 #[.slice (some ⟨blk, off, none⟩) d.size cap, .int .i64 a, .int .i64 m, .int .i64 b, .func (.func g) #[] cb] w fun e w' => e = .returned (.tuple #[]) ∧ SWK enc k w0 blk off (shiftDown (m - bsr (fun h => !ltOf cf d[m]! d[h]!) (m - a) a m) m d) w' := by
  have mixed := L.mixed; have t0 := L.t0; have a0 := L.a0; have z0 := L.z0; have v0 := L.v0; have t3 := L.t3; have a3 := L.a3; have z3 := L.z3; have v3 := L.v3; have t4 := L.t4; have a4 := L.a4; have z4 := L.z4; have v4 := L.v4; have t22 := L.t22; have a22 := L.a22; have z22 := L.z22; have v22 := L.v22; have t77 := L.t77; have a77 := L.a77; have z77 := L.z77; have v77 := L.v77; have aE := L.aE; have zE := L.zE
  have t106 := L.t106; have a106 := L.a106; have z106 := L.z106; have v106 := L.v106
  have u22 := run_underlying L.t22
  have FG := L.f84
  have S0 : Aside (SWK enc k w0 blk off d w) := S
  have HC : Aside _ := hcmp
  clear S hcmp
  have e1 : IntKind.i64.wrap ((m : Int) - (a : Int)) = (m : Int) - (a : Int) := by rw [IntKind.wrap_i64]; omega
  have g1 : ((m : Int) - (a : Int) == 1) = false := beq_eq_false_iff_ne.2 (by omega)
  have e2 : IntKind.i64.wrap ((b : Int) - (m : Int)) = 1 := by rw [IntKind.wrap_i64]; omega
  go_enter FG, Tryd.ntmps84
  go_wp2
  go_loopg [14, 15] (m - a) (fun kx s10 s11 wr => ∃ (i j : Nat), s10 = .int .i64 i ∧ s11 = .int .i64 j ∧ a ≤ i ∧ i ≤ j ∧ j ≤ m ∧ j - i ≤ kx ∧
    Aside (SWK enc k w0 blk off d wr) ∧ Hid (bsr (fun h => !ltOf cf d[m]! d[h]!) kx i j = bsr (fun h => !ltOf cf d[m]! d[h]!) (m - a) a m))
  case atStart => exact ⟨a, m, by first | rfl | go_num, by first | rfl | go_num, by omega, by omega, by omega, by omega, S0, (show Hid _ from rfl)⟩
  case round =>
    clear S0 e1 g1 e2
    obtain ⟨i, j, rfl, rfl, hi, hij, hjb, hk, S1, heq⟩ := hrel
    by_cases hlt : (i : Int) < (j : Int)
    · have hid : i < j := by omega
      obtain ⟨f, rfl⟩ : ∃ f, gk = f + 1 := ⟨gk - 1, by omega⟩
      go_wp2_with fail
      obtain ⟨h, hh⟩ : ∃ h, h = (i + j) / 2 := ⟨_, rfl⟩
      have hz : ((i : Int) + (j : Int)) / 2 = (h : Int) := by omega
      rw [hz]
      have hb1 : i ≤ h ∧ h < j := by omega
      have ea : ((h : Int)).toNat = h := by omega
      have pa : (0 : Int) ≤ (h : Int) := by omega
      have ba : (h : Int) < (d.size : Int) := by omega
      have ec : ((m : Int)).toNat = m := by omega
      have pc : (0 : Int) ≤ (m : Int) := by omega
      have bc : (m : Int) < (d.size : Int) := by omega
      have hstep := heq.out
      rw [bsr, if_pos hid, ← hh] at hstep
      obtain ⟨x, hx⟩ : ∃ x, x = d[h]! := ⟨_, rfl⟩
      obtain ⟨y, hy⟩ : ∃ x, x = d[m]! := ⟨_, rfl⟩
      have l1 := S1.out.ld R (by omega) P h (by omega)
      have l2 := S1.out.ld R (by omega) P m (by omega)
      rw [← hx] at l1
      rw [← hy] at l2
      have hc := S1.out.cmp HC.out (by omega) y x
      clear hh
      cases hL : ltOf cf d[m]! d[h]! with
      | true =>
        have hv : cf y x < 0 := by rw [hx, hy]; exact of_decide_eq_true hL
        have hd : decide (cf y x < 0) = true := decide_eq_true hv
        rw [hL, Bool.not_true, if_neg (by decide)] at hstep
        have HS : Hid _ := hstep
        clear hx hy hstep heq hL hz
        go_wp2_with fail
        go_quiet_grown (first | (go_at_fn g; refine Calls.grown_of (hc _ _)))
        have S2 : Aside (SWK enc k w0 blk off d (grow (wr.drewN nq) osq)) := S1.out.grown nq osq
        clear l1 l2 hc S1
        generalize grow (wr.drewN nq) osq = w2 at S2 ⊢
        clear nq osq
        go_wp2
        go_roundg f
        case measure => omega
        case rel => exact ⟨i, h, rfl, by first | rfl | go_num, by omega, by omega, by omega, by omega, S2, (show Hid _ from HS.out)⟩
      | false =>
        have hv : ¬ cf y x < 0 := by rw [hx, hy]; exact of_decide_eq_false hL
        have hd : decide (cf y x < 0) = false := decide_eq_false hv
        rw [hL, Bool.not_false, if_pos rfl] at hstep
        have HS : Hid _ := hstep
        clear hx hy hstep heq hL hz
        go_wp2_with fail
        go_quiet_grown (first | (go_at_fn g; refine Calls.grown_of (hc _ _)))
        have S2 : Aside (SWK enc k w0 blk off d (grow (wr.drewN nq) osq)) := S1.out.grown nq osq
        clear l1 l2 hc S1
        generalize grow (wr.drewN nq) osq = w2 at S2 ⊢
        clear nq osq
        go_wp2
        go_roundg f
        case measure => omega
        case rel => exact ⟨h + 1, j, by first | rfl | go_num, rfl, by omega, by omega, by omega, by omega, S2, (show Hid _ from HS.out)⟩
    · have HI : Hid (i = bsr (fun h => !ltOf cf d[m]! d[h]!) (m - a) a m) := by
        have := heq.out
        cases gk with
        | zero => exact this
        | succ n => rw [bsr, if_neg (by omega)] at this; exact this
      clear heq
      go_wp2_with fail
      go_loopg [17] (m - i) (fun kx s13 wr => ∃ (q : Nat) (dk : Array α), s13 = .int .i64 q ∧ q ≤ m ∧ i + kx = q ∧
        dk.size = d.size ∧ Aside (SWK enc k w0 blk off dk wr) ∧ Hid (shiftDown kx q dk = shiftDown (m - i) m d))
      case atStart => exact ⟨m, d, by first | rfl | go_num, by omega, by omega, rfl, S1, (show Hid _ from rfl)⟩
      case round =>
        clear S1
        obtain ⟨q, dk, rfl, hq, hqk, hds, S2, H2⟩ := hrel
        by_cases hlt2 : (i : Int) < (q : Int)
        · go_wp2_with fail
          obtain ⟨p, rfl⟩ : ∃ p, q = p + 1 := ⟨q - 1, by omega⟩
          have zq : ((p + 1 : Nat) : Int) = (p : Int) + 1 := by omega
          rw [zq]
          have ea : ((p : Int) + 1).toNat = p + 1 := by omega
          have pa : (0 : Int) ≤ (p : Int) + 1 := by omega
          have ba : (p : Int) + 1 < (d.size : Int) := by omega
          have ez : (p : Int) + 1 - 1 = (p : Int) := by omega
          have ec : ((p : Int)).toNat = p := by omega
          have pc : (0 : Int) ≤ (p : Int) := by omega
          have bc : (p : Int) < (d.size : Int) := by omega
          have rc : IntKind.i64.wrap (p : Int) = (p : Int) := by rw [IntKind.wrap_i64]; omega
          have S3 : Aside (SWK enc k w0 blk off (swp dk (p + 1) p) ((wr.drew.setCells blk (off + (p + 1) * k) (enc dk[p]!)).setCells blk (off + p * k) (enc dk[p + 1]!))) := S2.out.swapped R (p + 1) p (by omega) (by omega)
          have l44a := S2.out.ld1 R (by omega) P (p + 1) (by omega)
          have l44b := S2.out.ld1 R (by omega) P p (by omega)
          have s44a := S2.out.st1 R (by omega) P (p + 1) (by omega) dk[p]!
          have s44b := S2.out.st2 R (by omega) P (p + 1) p (by omega) (by omega) dk[p]! dk[p + 1]!
          have n44a : (enc dk[p + 1]!).length = k := R.hk _
          have n44b : (enc dk[p]!).length = k := R.hk _
          generalize enc dk[p + 1]! = cI44 at S3 l44a s44b n44a
          generalize enc dk[p]! = cJ44 at S3 l44b s44a s44b n44b
          clear S2
          go_wp2_with fail
          go_big_region_o
          clear l44a l44b s44a s44b
          generalize (wr.drew.setCells blk (off + (p + 1) * k) cJ44).setCells blk (off + p * k) cI44 = w2 at S3 ⊢
          go_wp2
          obtain ⟨j2, rfl⟩ : ∃ j, gk = j + 1 := ⟨gk - 1, by omega⟩
          go_roundg j2
          case measure => omega
          case rel => exact ⟨p, swp dk (p + 1) p, by first | rfl | go_num, by omega, by omega, by rw [size_swp]; exact hds, S3, (show Hid _ from H2.out)⟩
        · go_wp2
          go_returns
          refine ⟨rfl, ?_⟩
          obtain rfl : gk = 0 := by omega
          rw [← HI.out, ← H2.out]
          exact S2.out
end Go.Proofs.YtgkmipfcadiobaaDoor
set_option linter.unusedVariables false
namespace Go.Proofs.YtgkmipfcadiobaaDoor
open Go Go.Shelf Go.RowKit Go.Lib Go.Sort
variable {α : Type} [Inhabited α]
variable {P : Program} {k : Nat}
theorem symM_gen (lt : α → α → Bool) (f a m b mid i e : Nat) (d : Array α) (h1 : a + 1 < m) (h2 : m + 1 < b) (hm : mid = (a + b) / 2) (hi : i = symStart lt a m b d) (he : e = mid + m - i) :
    symM lt (f + 1) a m b d = (fun d1 => (fun d2 => if mid < e ∧ e < b then symM lt f mid e b d2 else d2) (if a < i ∧ i < mid then symM lt f a i mid d1 else d1)) (symRot m i e d) := by
  subst hm he hi
  rw [symM, if_neg (by omega), if_neg (by omega)]
set_option maxHeartbeats 16000000 in
set_option maxRecDepth 1000000 in
theorem symQ_hi (L : LayQS P k) (enc : α → List Value) (cf : α → α → Int) (g : Nat) (cb : Array Value) (blk off cap a m b f mid : Nat) (d0 d : Array α) (w0 w : World)
    (eg : ∀ args w, (callFunc g args).run P w = .ok (.enter g args) w) (hcmp : CmpLays P g cb enc k cf blk off d0.size w0)
    (R : RowK enc k w0 blk off d0) (hs : d.size = d0.size) (S : SWK enc k w0 blk off d w) (hm : a + 1 < m) (hb1 : m + 1 < b) (hb : b ≤ d0.size) (hsz : d0.size < 2305843009213693952) (hmid : mid = (a + b) / 2) (hmm : mid < m) (hf : b - a ≤ f + 1)
    (e95 : ∀ args w, (callFunc 95 args).run P w = .ok (.enter 95 args) w) (e84 : ∀ args w, (callFunc 84 args).run P w = .ok (.enter 84 args) w)
    (rot : ∀ (s m e : Nat) (d : Array α) (w : World), d.size = d0.size → SWK enc k w0 blk off d w → s < m → m < e → e ≤ d0.size → Calls P 95 #[.slice (some ⟨blk, off, none⟩) d0.size cap, .int .i64 s, .int .i64 m, .int .i64 e, .func (.func g) #[] cb] w fun e' w' => e' = .returned (.tuple #[]) ∧ SWK enc k w0 blk off (rotG m ((m - s) + (e - m)) (m - s) (e - m) d) w')
    (ih : ∀ (a m b : Nat) (d : Array α) (w : World), b - a ≤ f → d.size = d0.size → SWK enc k w0 blk off d w → a < m → m < b → b ≤ d0.size → Calls P 84 #[.slice (some ⟨blk, off, none⟩) d0.size cap, .int .i64 a, .int .i64 m, .int .i64 b, .func (.func g) #[] cb] w fun e' w' => e' = .returned (.tuple #[]) ∧ SWK enc k w0 blk off (symM (ltOf cf) f a m b d) w') :
    Calls P 84 #[.slice (some ⟨blk, off, none⟩) d0.size cap, .int .i64 a, .int .i64 m, .int .i64 b, .func (.func g) #[] cb] w fun e w' => e = .returned (.tuple #[]) ∧ SWK enc k w0 blk off (symM (ltOf cf) (f + 1) a m b d) w' := by
  have mixed := L.mixed; have t0 := L.t0; have a0 := L.a0; have z0 := L.z0; have v0 := L.v0; have t3 := L.t3; have a3 := L.a3; have z3 := L.z3; have v3 := L.v3; have t4 := L.t4; have a4 := L.a4; have z4 := L.z4; have v4 := L.v4; have t22 := L.t22; have a22 := L.a22; have z22 := L.z22; have v22 := L.v22; have t77 := L.t77; have a77 := L.a77; have z77 := L.z77; have v77 := L.v77; have aE := L.aE; have zE := L.zE
  have t106 := L.t106; have a106 := L.a106; have z106 := L.z106; have v106 := L.v106
  have u22 := run_underlying L.t22
  have FG := L.f84
  have S0 : Aside (SWK enc k w0 blk off d w) := S
  have HC : Aside _ := hcmp
  have HR : Aside _ := rot
  have IH : Aside _ := ih
  clear S hcmp rot ih
  have HG : Hid _ := fun i eN h1 h2 => symM_gen (ltOf cf) f a m b mid i eN d hm hb1 hmid h1 h2
  have hst : Hid (symStart (ltOf cf) a m b d = bsr (fun c => !ltOf cf d[mid + m - 1 - c]! d[c]!) (mid - (mid + m - b)) (mid + m - b) (mid)) := by
    show _ = _
    rw [symStart, ← hmid]
    exact if_pos (by omega)
  have hz : ((a : Int) + (b : Int)) / 2 = (mid : Int) := by omega
  have hm1 : 2 * mid ≤ a + b := by omega
  have hm2 : a + b ≤ 2 * mid + 1 := by omega
  clear hmid
  have e1 : IntKind.i64.wrap ((m : Int) - (a : Int)) = (m : Int) - (a : Int) := by rw [IntKind.wrap_i64]; omega
  have g1 : ((m : Int) - (a : Int) == 1) = false := beq_eq_false_iff_ne.2 (by omega)
  have e2 : IntKind.i64.wrap ((b : Int) - (m : Int)) = (b : Int) - (m : Int) := by rw [IntKind.wrap_i64]; omega
  have g2 : ((b : Int) - (m : Int) == 1) = false := beq_eq_false_iff_ne.2 (by omega)
  obtain ⟨pN, hpN⟩ : ∃ p, p = mid + m - 1 := ⟨_, rfl⟩
  have e3 : IntKind.i64.wrap ((mid : Int) + (m : Int)) = (pN : Int) + 1 := by rw [IntKind.wrap_i64]; omega
  have e4 : IntKind.i64.wrap ((pN : Int) + 1 - 1) = (pN : Int) := by rw [IntKind.wrap_i64]; omega
  have e4' : (pN : Int) + 1 - 1 = (pN : Int) := by omega
  have e4'' : IntKind.i64.wrap (pN : Int) = (pN : Int) := by rw [IntKind.wrap_i64]; omega
  obtain ⟨lo, hlo⟩ : ∃ p, p = mid + m - b := ⟨_, rfl⟩
  have e6 : IntKind.i64.wrap ((pN : Int) + 1 - (b : Int)) = (lo : Int) := by rw [IntKind.wrap_i64]; omega
  have hl1 : lo + b ≤ mid + m := by omega
  have hl2 : mid + m ≤ lo + b := by omega
  rw [← hlo] at hst
  clear hlo
  have c1 : (mid : Int) < (m : Int) := by omega
  have hp1 : pN + 1 ≤ mid + m := by omega
  have hp2 : mid + m ≤ pN + 1 := by omega
  rw [← hpN] at hst
  clear hpN
  go_enter FG, Tryd.ntmps84
  go_wp2_with fail
  go_loopg [20, 21] (mid - (lo)) (fun kx s10 s11 wr => ∃ (i j : Nat), s10 = .int .i64 i ∧ s11 = .int .i64 j ∧ lo ≤ i ∧ i ≤ j ∧ j ≤ mid ∧ j - i ≤ kx ∧
    Aside (SWK enc k w0 blk off d wr) ∧ Hid (bsr (fun c => !ltOf cf d[pN - c]! d[c]!) kx i j = symStart (ltOf cf) a m b d))
  case atStart => exact ⟨lo, mid, by first | rfl | go_num, by first | rfl | go_num, by omega, by omega, by omega, by omega, S0, (show Hid _ from hst.out.symm)⟩
  case round =>
    clear S0 e1 e2 e4 e4' e4'' hst hz
    obtain ⟨i, j, rfl, rfl, hi, hij, hjb, hk, S1, heq⟩ := hrel
    by_cases hlt : (i : Int) < (j : Int)
    · have hid : i < j := by omega
      obtain ⟨ff, rfl⟩ : ∃ f, gk = f + 1 := ⟨gk - 1, by omega⟩
      go_wp2_with fail
      obtain ⟨h, hh⟩ : ∃ h, h = (i + j) / 2 := ⟨_, rfl⟩
      have hz : ((i : Int) + (j : Int)) / 2 = (h : Int) := by omega
      rw [hz]
      have hb1 : i ≤ h ∧ h < j := by omega
      obtain ⟨q, hq⟩ : ∃ q, q = pN - h := ⟨_, rfl⟩
      have rq : IntKind.i64.wrap ((pN : Int) - (h : Int)) = (q : Int) := by rw [IntKind.wrap_i64]; omega
      have ea : ((h : Int)).toNat = h := by omega
      have pa : (0 : Int) ≤ (h : Int) := by omega
      have ba : (h : Int) < (d0.size : Int) := by omega
      have ec : ((q : Int)).toNat = q := by omega
      have pc : (0 : Int) ≤ (q : Int) := by omega
      have bc : (q : Int) < (d0.size : Int) := by omega
      have hstep := heq.out
      rw [bsr, if_pos hid, ← hh] at hstep
      obtain ⟨x, hx⟩ : ∃ x, x = d[h]! := ⟨_, rfl⟩
      obtain ⟨y, hy⟩ : ∃ x, x = d[q]! := ⟨_, rfl⟩
      have l1 := S1.out.ld R (by omega) P h (by omega)
      have l2 := S1.out.ld R (by omega) P q (by omega)
      rw [← hx] at l1
      rw [← hy] at l2
      have hc := S1.out.cmp HC.out (by omega) y x
      rw [← hq] at hstep
      have hq1 : q + h ≤ pN := by omega
      have hq2 : pN ≤ q + h := by omega
      clear hh hq
      cases hL : ltOf cf d[q]! d[h]! with
      | true =>
        have hv : cf y x < 0 := by rw [hx, hy]; exact of_decide_eq_true hL
        have hd : decide (cf y x < 0) = true := decide_eq_true hv
        rw [hL, Bool.not_true, if_neg (by decide)] at hstep
        have HS : Hid _ := hstep
        clear hx hy hstep heq hL hz
        go_wp2_with fail
        go_quiet_grown (first | (go_at_fn g; refine Calls.grown_of (hc _ _)))
        have S2 : Aside (SWK enc k w0 blk off d (grow (wr.drewN nq) osq)) := S1.out.grown nq osq
        clear l1 l2 hc S1
        generalize grow (wr.drewN nq) osq = w2 at S2 ⊢
        clear nq osq
        go_wp2
        go_roundg ff
        case measure => omega
        case rel => exact ⟨i, h, rfl, by first | rfl | go_num, by omega, by omega, by omega, by omega, S2, (show Hid _ from HS.out)⟩
      | false =>
        have hv : ¬ cf y x < 0 := by rw [hx, hy]; exact of_decide_eq_false hL
        have hd : decide (cf y x < 0) = false := decide_eq_false hv
        rw [hL, Bool.not_false, if_pos rfl] at hstep
        have HS : Hid _ := hstep
        clear hx hy hstep heq hL hz
        go_wp2_with fail
        go_quiet_grown (first | (go_at_fn g; refine Calls.grown_of (hc _ _)))
        have S2 : Aside (SWK enc k w0 blk off d (grow (wr.drewN nq) osq)) := S1.out.grown nq osq
        clear l1 l2 hc S1
        generalize grow (wr.drewN nq) osq = w2 at S2 ⊢
        clear nq osq
        go_wp2
        go_roundg ff
        case measure => omega
        case rel => exact ⟨h + 1, j, by first | rfl | go_num, rfl, by omega, by omega, by omega, by omega, S2, (show Hid _ from HS.out)⟩
    · have HI : i = symStart (ltOf cf) a m b d := by
        have := heq.out
        cases gk with
        | zero => exact this
        | succ n => rw [bsr, if_neg (by omega)] at this; exact this
      clear heq
      obtain ⟨eN, heN⟩ : ∃ q, q = mid + m - i := ⟨_, rfl⟩
      have HT : Hid _ := HG.out i eN HI heN
      clear HI HG
      have e5 : IntKind.i64.wrap ((pN : Int) + 1 - (i : Int)) = (eN : Int) := by rw [IntKind.wrap_i64]; omega
      have he1 : eN + i ≤ mid + m := by omega
      have he2 : mid + m ≤ eN + i := by omega
      clear heN
      by_cases hA : (i : Int) < (m : Int)
      · by_cases hB : (i : Int) < (mid : Int)
        · by_cases hC : (a : Int) < (i : Int)
          · by_cases hD : (eN : Int) < (b : Int)
            · have C1 := HR.out i m eN d wr hs S1.out (by omega) (by omega) (by omega)
              have HC1 := (show Hid _ from C1)
              clear C1 S1
              go_wp2_with (go_at_call 95; refine Calls.mono (Hid.out HC1) ?_; rintro e w' ⟨rfl, S2⟩)
              have S3 : Aside (SWK enc k w0 blk off (rotG m ((m - i) + (eN - m)) (m - i) (eN - m) d) w') := S2
              clear S2 HC1
              obtain ⟨d1, hd1⟩ : ∃ x, x = rotG m ((m - i) + (eN - m)) (m - i) (eN - m) d := ⟨_, rfl⟩
              rw [← hd1] at S3
              have z1 : d1.size = d0.size := by rw [hd1, size_rotG]; exact hs
              have HD1 : Hid _ := hd1
              clear hd1
              have C2 := IH.out a i mid d1 w' (by omega) z1 S3.out (by omega) (by omega) (by omega)
              have HC2 := (show Hid _ from C2)
              clear C2 S3
              go_wp2_with (go_at_call 84; refine Calls.mono (Hid.out HC2) ?_; rintro e w2 ⟨rfl, S4⟩)
              have S5 : Aside (SWK enc k w0 blk off (symM (ltOf cf) f a i mid d1) w2) := S4
              clear S4 HC2
              obtain ⟨d2, hd2⟩ : ∃ x, x = symM (ltOf cf) f a i mid d1 := ⟨_, rfl⟩
              rw [← hd2] at S5
              have z2 : d2.size = d0.size := by rw [hd2, size_symM]; exact z1
              have HD2 : Hid _ := hd2
              clear hd2
              have C3 := IH.out mid eN b d2 w2 (by omega) z2 S5.out (by omega) (by omega) (by omega)
              have HC3 := (show Hid _ from C3)
              clear C3 S5
              go_wp2_with (go_at_call 84; refine Calls.mono (Hid.out HC3) ?_; rintro e w3 ⟨rfl, S6⟩)
              have S7 : Aside (SWK enc k w0 blk off (symM (ltOf cf) f mid eN b d2) w3) := S6
              clear S6 HC3
              go_end0
              refine ⟨rfl, ?_⟩
              rw [HT.out]
              rw [show symRot m i eN d = d1 from (if_pos ⟨by omega, by omega⟩).trans HD1.out.symm]
              rw [show (if a < i ∧ i < mid then symM (ltOf cf) f a i mid d1 else d1) = d2 from (if_pos ⟨by omega, by omega⟩).trans HD2.out.symm]
              rw [if_pos (by omega)]
              exact S7.out
            · have C1 := HR.out i m eN d wr hs S1.out (by omega) (by omega) (by omega)
              have HC1 := (show Hid _ from C1)
              clear C1 S1
              go_wp2_with (go_at_call 95; refine Calls.mono (Hid.out HC1) ?_; rintro e w' ⟨rfl, S2⟩)
              have S3 : Aside (SWK enc k w0 blk off (rotG m ((m - i) + (eN - m)) (m - i) (eN - m) d) w') := S2
              clear S2 HC1
              obtain ⟨d1, hd1⟩ : ∃ x, x = rotG m ((m - i) + (eN - m)) (m - i) (eN - m) d := ⟨_, rfl⟩
              rw [← hd1] at S3
              have z1 : d1.size = d0.size := by rw [hd1, size_rotG]; exact hs
              have HD1 : Hid _ := hd1
              clear hd1
              have C2 := IH.out a i mid d1 w' (by omega) z1 S3.out (by omega) (by omega) (by omega)
              have HC2 := (show Hid _ from C2)
              clear C2 S3
              go_wp2_with (go_at_call 84; refine Calls.mono (Hid.out HC2) ?_; rintro e w2 ⟨rfl, S4⟩)
              have S5 : Aside (SWK enc k w0 blk off (symM (ltOf cf) f a i mid d1) w2) := S4
              clear S4 HC2
              obtain ⟨d2, hd2⟩ : ∃ x, x = symM (ltOf cf) f a i mid d1 := ⟨_, rfl⟩
              rw [← hd2] at S5
              have z2 : d2.size = d0.size := by rw [hd2, size_symM]; exact z1
              have HD2 : Hid _ := hd2
              clear hd2
              go_end0
              refine ⟨rfl, ?_⟩
              rw [HT.out]
              rw [show symRot m i eN d = d1 from (if_pos ⟨by omega, by omega⟩).trans HD1.out.symm]
              rw [show (if a < i ∧ i < mid then symM (ltOf cf) f a i mid d1 else d1) = d2 from (if_pos ⟨by omega, by omega⟩).trans HD2.out.symm]
              rw [if_neg (by omega)]
              exact S5.out
          · by_cases hD : (eN : Int) < (b : Int)
            · exfalso; omega
            · have C1 := HR.out i m eN d wr hs S1.out (by omega) (by omega) (by omega)
              have HC1 := (show Hid _ from C1)
              clear C1 S1
              go_wp2_with (go_at_call 95; refine Calls.mono (Hid.out HC1) ?_; rintro e w' ⟨rfl, S2⟩)
              have S3 : Aside (SWK enc k w0 blk off (rotG m ((m - i) + (eN - m)) (m - i) (eN - m) d) w') := S2
              clear S2 HC1
              obtain ⟨d1, hd1⟩ : ∃ x, x = rotG m ((m - i) + (eN - m)) (m - i) (eN - m) d := ⟨_, rfl⟩
              rw [← hd1] at S3
              have z1 : d1.size = d0.size := by rw [hd1, size_rotG]; exact hs
              have HD1 : Hid _ := hd1
              clear hd1
              go_end0
              refine ⟨rfl, ?_⟩
              rw [HT.out]
              rw [show symRot m i eN d = d1 from (if_pos ⟨by omega, by omega⟩).trans HD1.out.symm]
              rw [show (if a < i ∧ i < mid then symM (ltOf cf) f a i mid d1 else d1) = d1 from if_neg (by omega)]
              rw [if_neg (by omega)]
              exact S3.out
        · by_cases hC : (a : Int) < (i : Int)
          · by_cases hD : (eN : Int) < (b : Int)
            · have C3 := IH.out mid eN b d wr (by omega) hs S1.out (by omega) (by omega) (by omega)
              have HC3 := (show Hid _ from C3)
              clear C3 S1
              go_wp2_with (go_at_call 84; refine Calls.mono (Hid.out HC3) ?_; rintro e w3 ⟨rfl, S6⟩)
              have S7 : Aside (SWK enc k w0 blk off (symM (ltOf cf) f mid eN b d) w3) := S6
              clear S6 HC3
              go_end0
              refine ⟨rfl, ?_⟩
              rw [HT.out]
              rw [show symRot m i eN d = d from if_neg (by omega)]
              rw [show (if a < i ∧ i < mid then symM (ltOf cf) f a i mid d else d) = d from if_neg (by omega)]
              rw [if_pos (by omega)]
              exact S7.out
            · exfalso; omega
          · by_cases hD : (eN : Int) < (b : Int)
            · exfalso; omega
            · exfalso; omega
      · by_cases hB : (i : Int) < (mid : Int)
        · by_cases hC : (a : Int) < (i : Int)
          · by_cases hD : (eN : Int) < (b : Int)
            · exfalso; omega
            · exfalso; omega
          · by_cases hD : (eN : Int) < (b : Int)
            · exfalso; omega
            · exfalso; omega
        · by_cases hC : (a : Int) < (i : Int)
          · by_cases hD : (eN : Int) < (b : Int)
            · exfalso; omega
            · exfalso; omega
          · by_cases hD : (eN : Int) < (b : Int)
            · exfalso; omega
            · exfalso; omega
end Go.Proofs.YtgkmipfcadiobaaDoor
set_option linter.unusedVariables false
namespace Go.Proofs.YtgkmipfcadiobaaDoor
open Go Go.Shelf Go.RowKit Go.Lib Go.Sort
variable {α : Type} [Inhabited α]
variable {P : Program} {k : Nat}
set_option maxHeartbeats 16000000 in
set_option maxRecDepth 1000000 in
theorem symQ_lo (L : LayQS P k) (enc : α → List Value) (cf : α → α → Int) (g : Nat) (cb : Array Value) (blk off cap a m b f mid : Nat) (d0 d : Array α) (w0 w : World)
    (eg : ∀ args w, (callFunc g args).run P w = .ok (.enter g args) w) (hcmp : CmpLays P g cb enc k cf blk off d0.size w0)
    (R : RowK enc k w0 blk off d0) (hs : d.size = d0.size) (S : SWK enc k w0 blk off d w) (hm : a + 1 < m) (hb1 : m + 1 < b) (hb : b ≤ d0.size) (hsz : d0.size < 2305843009213693952) (hmid : mid = (a + b) / 2) (hmm : m ≤ mid) (hf : b - a ≤ f + 1)
    (e95 : ∀ args w, (callFunc 95 args).run P w = .ok (.enter 95 args) w) (e84 : ∀ args w, (callFunc 84 args).run P w = .ok (.enter 84 args) w)
    (rot : ∀ (s m e : Nat) (d : Array α) (w : World), d.size = d0.size → SWK enc k w0 blk off d w → s < m → m < e → e ≤ d0.size → Calls P 95 #[.slice (some ⟨blk, off, none⟩) d0.size cap, .int .i64 s, .int .i64 m, .int .i64 e, .func (.func g) #[] cb] w fun e' w' => e' = .returned (.tuple #[]) ∧ SWK enc k w0 blk off (rotG m ((m - s) + (e - m)) (m - s) (e - m) d) w')
    (ih : ∀ (a m b : Nat) (d : Array α) (w : World), b - a ≤ f → d.size = d0.size → SWK enc k w0 blk off d w → a < m → m < b → b ≤ d0.size → Calls P 84 #[.slice (some ⟨blk, off, none⟩) d0.size cap, .int .i64 a, .int .i64 m, .int .i64 b, .func (.func g) #[] cb] w fun e' w' => e' = .returned (.tuple #[]) ∧ SWK enc k w0 blk off (symM (ltOf cf) f a m b d) w') :
    Calls P 84 #[.slice (some ⟨blk, off, none⟩) d0.size cap, .int .i64 a, .int .i64 m, .int .i64 b, .func (.func g) #[] cb] w fun e w' => e = .returned (.tuple #[]) ∧ SWK enc k w0 blk off (symM (ltOf cf) (f + 1) a m b d) w' := by
  have mixed := L.mixed; have t0 := L.t0; have a0 := L.a0; have z0 := L.z0; have v0 := L.v0; have t3 := L.t3; have a3 := L.a3; have z3 := L.z3; have v3 := L.v3; have t4 := L.t4; have a4 := L.a4; have z4 := L.z4; have v4 := L.v4; have t22 := L.t22; have a22 := L.a22; have z22 := L.z22; have v22 := L.v22; have t77 := L.t77; have a77 := L.a77; have z77 := L.z77; have v77 := L.v77; have aE := L.aE; have zE := L.zE
  have t106 := L.t106; have a106 := L.a106; have z106 := L.z106; have v106 := L.v106
  have u22 := run_underlying L.t22
  have FG := L.f84
  have S0 : Aside (SWK enc k w0 blk off d w) := S
  have HC : Aside _ := hcmp
  have HR : Aside _ := rot
  have IH : Aside _ := ih
  clear S hcmp rot ih
  have HG : Hid _ := fun i eN h1 h2 => symM_gen (ltOf cf) f a m b mid i eN d hm hb1 hmid h1 h2
  have hst : Hid (symStart (ltOf cf) a m b d = bsr (fun c => !ltOf cf d[mid + m - 1 - c]! d[c]!) (m - (a)) (a) (m)) := by
    show _ = _
    rw [symStart, ← hmid]
    exact if_neg (by omega)
  have hz : ((a : Int) + (b : Int)) / 2 = (mid : Int) := by omega
  have hm1 : 2 * mid ≤ a + b := by omega
  have hm2 : a + b ≤ 2 * mid + 1 := by omega
  clear hmid
  have e1 : IntKind.i64.wrap ((m : Int) - (a : Int)) = (m : Int) - (a : Int) := by rw [IntKind.wrap_i64]; omega
  have g1 : ((m : Int) - (a : Int) == 1) = false := beq_eq_false_iff_ne.2 (by omega)
  have e2 : IntKind.i64.wrap ((b : Int) - (m : Int)) = (b : Int) - (m : Int) := by rw [IntKind.wrap_i64]; omega
  have g2 : ((b : Int) - (m : Int) == 1) = false := beq_eq_false_iff_ne.2 (by omega)
  obtain ⟨pN, hpN⟩ : ∃ p, p = mid + m - 1 := ⟨_, rfl⟩
  have e3 : IntKind.i64.wrap ((mid : Int) + (m : Int)) = (pN : Int) + 1 := by rw [IntKind.wrap_i64]; omega
  have e4 : IntKind.i64.wrap ((pN : Int) + 1 - 1) = (pN : Int) := by rw [IntKind.wrap_i64]; omega
  have e4' : (pN : Int) + 1 - 1 = (pN : Int) := by omega
  have e4'' : IntKind.i64.wrap (pN : Int) = (pN : Int) := by rw [IntKind.wrap_i64]; omega
  have c1 : ¬ ((mid : Int) < (m : Int)) := by omega
  have hp1 : pN + 1 ≤ mid + m := by omega
  have hp2 : mid + m ≤ pN + 1 := by omega
  rw [← hpN] at hst
  clear hpN
  go_enter FG, Tryd.ntmps84
  go_wp2_with fail
  go_loopg [20, 21] (m - (a)) (fun kx s10 s11 wr => ∃ (i j : Nat), s10 = .int .i64 i ∧ s11 = .int .i64 j ∧ a ≤ i ∧ i ≤ j ∧ j ≤ m ∧ j - i ≤ kx ∧
    Aside (SWK enc k w0 blk off d wr) ∧ Hid (bsr (fun c => !ltOf cf d[pN - c]! d[c]!) kx i j = symStart (ltOf cf) a m b d))
  case atStart => exact ⟨a, m, by first | rfl | go_num, by first | rfl | go_num, by omega, by omega, by omega, by omega, S0, (show Hid _ from hst.out.symm)⟩
  case round =>
    clear S0 e1 e2 e4 e4' e4'' hst hz
    obtain ⟨i, j, rfl, rfl, hi, hij, hjb, hk, S1, heq⟩ := hrel
    by_cases hlt : (i : Int) < (j : Int)
    · have hid : i < j := by omega
      obtain ⟨ff, rfl⟩ : ∃ f, gk = f + 1 := ⟨gk - 1, by omega⟩
      go_wp2_with fail
      obtain ⟨h, hh⟩ : ∃ h, h = (i + j) / 2 := ⟨_, rfl⟩
      have hz : ((i : Int) + (j : Int)) / 2 = (h : Int) := by omega
      rw [hz]
      have hb1 : i ≤ h ∧ h < j := by omega
      obtain ⟨q, hq⟩ : ∃ q, q = pN - h := ⟨_, rfl⟩
      have rq : IntKind.i64.wrap ((pN : Int) - (h : Int)) = (q : Int) := by rw [IntKind.wrap_i64]; omega
      have ea : ((h : Int)).toNat = h := by omega
      have pa : (0 : Int) ≤ (h : Int) := by omega
      have ba : (h : Int) < (d0.size : Int) := by omega
      have ec : ((q : Int)).toNat = q := by omega
      have pc : (0 : Int) ≤ (q : Int) := by omega
      have bc : (q : Int) < (d0.size : Int) := by omega
      have hstep := heq.out
      rw [bsr, if_pos hid, ← hh] at hstep
      obtain ⟨x, hx⟩ : ∃ x, x = d[h]! := ⟨_, rfl⟩
      obtain ⟨y, hy⟩ : ∃ x, x = d[q]! := ⟨_, rfl⟩
      have l1 := S1.out.ld R (by omega) P h (by omega)
      have l2 := S1.out.ld R (by omega) P q (by omega)
      rw [← hx] at l1
      rw [← hy] at l2
      have hc := S1.out.cmp HC.out (by omega) y x
      rw [← hq] at hstep
      have hq1 : q + h ≤ pN := by omega
      have hq2 : pN ≤ q + h := by omega
      clear hh hq
      cases hL : ltOf cf d[q]! d[h]! with
      | true =>
        have hv : cf y x < 0 := by rw [hx, hy]; exact of_decide_eq_true hL
        have hd : decide (cf y x < 0) = true := decide_eq_true hv
        rw [hL, Bool.not_true, if_neg (by decide)] at hstep
        have HS : Hid _ := hstep
        clear hx hy hstep heq hL hz
        go_wp2_with fail
        go_quiet_grown (first | (go_at_fn g; refine Calls.grown_of (hc _ _)))
        have S2 : Aside (SWK enc k w0 blk off d (grow (wr.drewN nq) osq)) := S1.out.grown nq osq
        clear l1 l2 hc S1
        generalize grow (wr.drewN nq) osq = w2 at S2 ⊢
        clear nq osq
        go_wp2
        go_roundg ff
        case measure => omega
        case rel => exact ⟨i, h, rfl, by first | rfl | go_num, by omega, by omega, by omega, by omega, S2, (show Hid _ from HS.out)⟩
      | false =>
        have hv : ¬ cf y x < 0 := by rw [hx, hy]; exact of_decide_eq_false hL
        have hd : decide (cf y x < 0) = false := decide_eq_false hv
        rw [hL, Bool.not_false, if_pos rfl] at hstep
        have HS : Hid _ := hstep
        clear hx hy hstep heq hL hz
        go_wp2_with fail
        go_quiet_grown (first | (go_at_fn g; refine Calls.grown_of (hc _ _)))
        have S2 : Aside (SWK enc k w0 blk off d (grow (wr.drewN nq) osq)) := S1.out.grown nq osq
        clear l1 l2 hc S1
        generalize grow (wr.drewN nq) osq = w2 at S2 ⊢
        clear nq osq
        go_wp2
        go_roundg ff
        case measure => omega
        case rel => exact ⟨h + 1, j, by first | rfl | go_num, rfl, by omega, by omega, by omega, by omega, S2, (show Hid _ from HS.out)⟩
    · have HI : i = symStart (ltOf cf) a m b d := by
        have := heq.out
        cases gk with
        | zero => exact this
        | succ n => rw [bsr, if_neg (by omega)] at this; exact this
      clear heq
      obtain ⟨eN, heN⟩ : ∃ q, q = mid + m - i := ⟨_, rfl⟩
      have HT : Hid _ := HG.out i eN HI heN
      clear HI HG
      have e5 : IntKind.i64.wrap ((pN : Int) + 1 - (i : Int)) = (eN : Int) := by rw [IntKind.wrap_i64]; omega
      have he1 : eN + i ≤ mid + m := by omega
      have he2 : mid + m ≤ eN + i := by omega
      clear heN
      by_cases hA : (i : Int) < (m : Int)
      · by_cases hB : (i : Int) < (mid : Int)
        · by_cases hC : (a : Int) < (i : Int)
          · by_cases hD : (eN : Int) < (b : Int)
            · have C1 := HR.out i m eN d wr hs S1.out (by omega) (by omega) (by omega)
              have HC1 := (show Hid _ from C1)
              clear C1 S1
              go_wp2_with (go_at_call 95; refine Calls.mono (Hid.out HC1) ?_; rintro e w' ⟨rfl, S2⟩)
              have S3 : Aside (SWK enc k w0 blk off (rotG m ((m - i) + (eN - m)) (m - i) (eN - m) d) w') := S2
              clear S2 HC1
              obtain ⟨d1, hd1⟩ : ∃ x, x = rotG m ((m - i) + (eN - m)) (m - i) (eN - m) d := ⟨_, rfl⟩
              rw [← hd1] at S3
              have z1 : d1.size = d0.size := by rw [hd1, size_rotG]; exact hs
              have HD1 : Hid _ := hd1
              clear hd1
              have C2 := IH.out a i mid d1 w' (by omega) z1 S3.out (by omega) (by omega) (by omega)
              have HC2 := (show Hid _ from C2)
              clear C2 S3
              go_wp2_with (go_at_call 84; refine Calls.mono (Hid.out HC2) ?_; rintro e w2 ⟨rfl, S4⟩)
              have S5 : Aside (SWK enc k w0 blk off (symM (ltOf cf) f a i mid d1) w2) := S4
              clear S4 HC2
              obtain ⟨d2, hd2⟩ : ∃ x, x = symM (ltOf cf) f a i mid d1 := ⟨_, rfl⟩
              rw [← hd2] at S5
              have z2 : d2.size = d0.size := by rw [hd2, size_symM]; exact z1
              have HD2 : Hid _ := hd2
              clear hd2
              have C3 := IH.out mid eN b d2 w2 (by omega) z2 S5.out (by omega) (by omega) (by omega)
              have HC3 := (show Hid _ from C3)
              clear C3 S5
              go_wp2_with (go_at_call 84; refine Calls.mono (Hid.out HC3) ?_; rintro e w3 ⟨rfl, S6⟩)
              have S7 : Aside (SWK enc k w0 blk off (symM (ltOf cf) f mid eN b d2) w3) := S6
              clear S6 HC3
              go_end0
              refine ⟨rfl, ?_⟩
              rw [HT.out]
              rw [show symRot m i eN d = d1 from (if_pos ⟨by omega, by omega⟩).trans HD1.out.symm]
              rw [show (if a < i ∧ i < mid then symM (ltOf cf) f a i mid d1 else d1) = d2 from (if_pos ⟨by omega, by omega⟩).trans HD2.out.symm]
              rw [if_pos (by omega)]
              exact S7.out
            · exfalso; omega
          · by_cases hD : (eN : Int) < (b : Int)
            · have C1 := HR.out i m eN d wr hs S1.out (by omega) (by omega) (by omega)
              have HC1 := (show Hid _ from C1)
              clear C1 S1
              go_wp2_with (go_at_call 95; refine Calls.mono (Hid.out HC1) ?_; rintro e w' ⟨rfl, S2⟩)
              have S3 : Aside (SWK enc k w0 blk off (rotG m ((m - i) + (eN - m)) (m - i) (eN - m) d) w') := S2
              clear S2 HC1
              obtain ⟨d1, hd1⟩ : ∃ x, x = rotG m ((m - i) + (eN - m)) (m - i) (eN - m) d := ⟨_, rfl⟩
              rw [← hd1] at S3
              have z1 : d1.size = d0.size := by rw [hd1, size_rotG]; exact hs
              have HD1 : Hid _ := hd1
              clear hd1
              have C3 := IH.out mid eN b d1 w' (by omega) z1 S3.out (by omega) (by omega) (by omega)
              have HC3 := (show Hid _ from C3)
              clear C3 S3
              go_wp2_with (go_at_call 84; refine Calls.mono (Hid.out HC3) ?_; rintro e w3 ⟨rfl, S6⟩)
              have S7 : Aside (SWK enc k w0 blk off (symM (ltOf cf) f mid eN b d1) w3) := S6
              clear S6 HC3
              go_end0
              refine ⟨rfl, ?_⟩
              rw [HT.out]
              rw [show symRot m i eN d = d1 from (if_pos ⟨by omega, by omega⟩).trans HD1.out.symm]
              rw [show (if a < i ∧ i < mid then symM (ltOf cf) f a i mid d1 else d1) = d1 from if_neg (by omega)]
              rw [if_pos (by omega)]
              exact S7.out
            · have C1 := HR.out i m eN d wr hs S1.out (by omega) (by omega) (by omega)
              have HC1 := (show Hid _ from C1)
              clear C1 S1
              go_wp2_with (go_at_call 95; refine Calls.mono (Hid.out HC1) ?_; rintro e w' ⟨rfl, S2⟩)
              have S3 : Aside (SWK enc k w0 blk off (rotG m ((m - i) + (eN - m)) (m - i) (eN - m) d) w') := S2
              clear S2 HC1
              obtain ⟨d1, hd1⟩ : ∃ x, x = rotG m ((m - i) + (eN - m)) (m - i) (eN - m) d := ⟨_, rfl⟩
              rw [← hd1] at S3
              have z1 : d1.size = d0.size := by rw [hd1, size_rotG]; exact hs
              have HD1 : Hid _ := hd1
              clear hd1
              go_end0
              refine ⟨rfl, ?_⟩
              rw [HT.out]
              rw [show symRot m i eN d = d1 from (if_pos ⟨by omega, by omega⟩).trans HD1.out.symm]
              rw [show (if a < i ∧ i < mid then symM (ltOf cf) f a i mid d1 else d1) = d1 from if_neg (by omega)]
              rw [if_neg (by omega)]
              exact S3.out
        · by_cases hC : (a : Int) < (i : Int)
          · by_cases hD : (eN : Int) < (b : Int)
            · exfalso; omega
            · exfalso; omega
          · by_cases hD : (eN : Int) < (b : Int)
            · exfalso; omega
            · exfalso; omega
      · by_cases hB : (i : Int) < (mid : Int)
        · by_cases hC : (a : Int) < (i : Int)
          · by_cases hD : (eN : Int) < (b : Int)
            · have C2 := IH.out a i mid d wr (by omega) hs S1.out (by omega) (by omega) (by omega)
              have HC2 := (show Hid _ from C2)
              clear C2 S1
              go_wp2_with (go_at_call 84; refine Calls.mono (Hid.out HC2) ?_; rintro e w2 ⟨rfl, S4⟩)
              have S5 : Aside (SWK enc k w0 blk off (symM (ltOf cf) f a i mid d) w2) := S4
              clear S4 HC2
              obtain ⟨d2, hd2⟩ : ∃ x, x = symM (ltOf cf) f a i mid d := ⟨_, rfl⟩
              rw [← hd2] at S5
              have z2 : d2.size = d0.size := by rw [hd2, size_symM]; exact hs
              have HD2 : Hid _ := hd2
              clear hd2
              go_end0
              refine ⟨rfl, ?_⟩
              rw [HT.out]
              rw [show symRot m i eN d = d from if_neg (by omega)]
              rw [show (if a < i ∧ i < mid then symM (ltOf cf) f a i mid d else d) = d2 from (if_pos ⟨by omega, by omega⟩).trans HD2.out.symm]
              rw [if_neg (by omega)]
              exact S5.out
            · exfalso; omega
          · by_cases hD : (eN : Int) < (b : Int)
            · exfalso; omega
            · exfalso; omega
        · by_cases hC : (a : Int) < (i : Int)
          · by_cases hD : (eN : Int) < (b : Int)
            · go_wp2
              go_end0
              refine ⟨rfl, ?_⟩
              rw [HT.out]
              rw [show symRot m i eN d = d from if_neg (by omega)]
              rw [show (if a < i ∧ i < mid then symM (ltOf cf) f a i mid d else d) = d from if_neg (by omega)]
              rw [if_neg (by omega)]
              exact S1.out
            · exfalso; omega
          · by_cases hD : (eN : Int) < (b : Int)
            · exfalso; omega
            · exfalso; omega
end Go.Proofs.YtgkmipfcadiobaaDoor
