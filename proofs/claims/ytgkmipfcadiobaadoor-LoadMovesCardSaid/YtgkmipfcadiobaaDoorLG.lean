/- The contract of load.Balance. The contract of load.Settle. The contracts of load.Balance and load.Settle in the shape of the printed ones. load.Balance and load.Settle at the chapter's example; the stable sort by insertion, structurally. -/
import Derived.Test.YtgkmipfcadiobaaDoorLF
import Derived.BigQuiet
set_option linter.unusedVariables false
namespace Go.Proofs.YtgkmipfcadiobaaDoor
open Go Go.Shelf Go.RowKit Go.Lib Go.Sort Pl
open Go.Proofs.YtgkmipfcadiobaaDoorW.PrintWords Go.Proofs.YtgkmipfcadiobaaDoorW.PrintMore
open Go.Proofs.YtgkmipfcadiobaaDoor.GivenT (mask_Set_All.f mask_Set_All.calls)
open Go.Proofs.YtgkmipfcadiobaaDoor.GA (S38 z38 k38 k38_open load_Loads.f load_Loads.calls load_Choose.f load_Choose.calls)
def coresF (x : Nat) : List (Fin 64) := (List.finRange 64).filter fun c => x.testBit c.val
def tryS (loads : List Int) (online : Nat) (c : Int) (s : S38) : Option (Int × Int) :=
  if s.f1 = c then (if 0 ≤ chooseI (s.f2.toNat &&& online) loads ∧ rd loads (chooseI (s.f2.toNat &&& online) loads) + 1 < rd loads c then some (s.f0, chooseI (s.f2.toNat &&& online) loads) else none) else none
def balO (l : List S38) (online : Nat) : Option (Int × Int) :=
  (stL (ltOf (cfC (loadsL l 64))) (coresF online)).findSome? fun c => (stL (ltOf cfS) l).findSome? (tryS (loadsL l 64) online ((c.val : Nat) : Int))
theorem loads_own {w1 : World} {base : Nat} {ok : Nat → Prop} {v : Value} {l : List S38} (h : Kd.R (Kd.int .i64) 3 w1 base ok v (loadsL l 64)) :
    ∃ lb lcap, v = .slice (some ⟨lb, 0, none⟩) 64 lcap ∧ 64 ≤ lcap ∧ base ≤ lb ∧ lb < w1.heap.size ∧ ∀ i, i < 64 → w1.cell? ⟨lb, i, none⟩ = some (.int .i64 ((loadsL l 64).getD i 0)) := by
  obtain ⟨inner, ho⟩ := Kd.R_own h
  obtain ⟨A, cp, hv, hcp, hC⟩ := Kd.R_reads h
  rw [loadsL_length] at hv ho hC hcp
  rcases ho.2 with ⟨_, h0⟩ | ⟨g, cap, cur, rfl, hg, hh, _⟩
  · cases h0
  · injection hv with e1 e2 e3
    subst e1 e3
    refine ⟨g, cap, rfl, hcp, hg, (Array.getElem?_eq_some_iff.1 hh).1, fun i hi => ?_⟩
    obtain ⟨ad, e, hc⟩ := Kd.at_int hC (i : Int) (by omega) (by omega)
    injection e with e
    subst e
    rw [rd_nat, Int.toNat_natCast, Addr.add_lit, Nat.zero_add] at hc
    exact hc
theorem coresF_val (x : Nat) : (coresF x).map encC = ints (cores x) := by
  have e : cores x = (coresF x).map (fun c => c.val) := by
    have h : List.range 64 = (List.finRange 64).map (fun c => c.val) := by decide +kernel
    unfold cores coresF
    rw [h, List.filter_map]
    rfl
  rw [e, ints, List.map_map]
  rfl
theorem coresF_length (x : Nat) : (coresF x).length = (cores x).length := by
  have := congrArg List.length (coresF_val x)
  simpa [ints] using this
theorem LoadsAt.below {w W : World} {c lb cap : Nat} {l : List Int} (h : LoadsAt w c lb cap l) (hb : Below w.heap.size w W) : LoadsAt W c lb cap l :=
  ⟨h.len, (hb.cell (World.block_lt_of_cell? _ _ h.box)).trans h.box, fun i hi => (hb.cell (World.block_lt_of_cell? _ _ (h.row i hi))).trans (h.row i hi)⟩
theorem LoadsAt.c_lt {w : World} {c lb cap : Nat} {l : List Int} (h : LoadsAt w c lb cap l) : c < w.heap.size := World.block_lt_of_cell? _ _ h.box
theorem LoadsAt.lb_lt {w : World} {c lb cap : Nat} {l : List Int} (h : LoadsAt w c lb cap l) : lb < w.heap.size := World.block_lt_of_cell? _ _ (h.row 0 (by omega))
/-- The world that the loops start in. -/
structure BalW (w W : World) (loads cs : List Int) (ss : List S38) (cB lb lcap : Nat) (AC AS : Option Addr) : Prop where
  below : Below w.heap.size w W
  lt : Lt W
  lds : LoadsAt W cB lb lcap loads
  cap : 64 ≤ lcap
  cs : IntsAt W AC cs
  ss : SeatsAt W AS ss
theorem BalW.next {w W W' : World} {loads cs : List Int} {ss : List S38} {cB lb lcap : Nat} {AC AS : Option Addr} (h : BalW w W loads cs ss cB lb lcap AC AS) (hb : Below W.heap.size W W') : BalW w W' loads cs ss cB lb lcap AC AS :=
  ⟨h.below.trans (hb.mono h.below.size), h.lt.below hb, h.lds.below hb, h.cap, h.cs.below hb, h.ss.below hb⟩
theorem findSome_stop {α β : Type} (f : α → Option β) (xs : List α) (i : Nat) (h : xs.length ≤ i) (r : Option β) (he : (xs.drop i).findSome? f = r) : r = none := by
  rw [List.drop_of_length_le h] at he; exact he.symm
theorem findSome_next {α β : Type} (f : α → Option β) (xs : List α) (d : α) (i : Nat) (h : i < xs.length) (r : Option β) (he : (xs.drop i).findSome? f = r) : (f (xs.getD i d) = none → (xs.drop (i + 1)).findSome? f = r) ∧ (∀ y, f (xs.getD i d) = some y → r = some y) := by
  rw [List.drop_eq_getElem_cons h, List.findSome?_cons] at he
  have e : xs.getD i d = xs[i] := by simp [h, List.getD]
  rw [e]
  constructor
  · intro hn; rw [hn] at he; exact he
  · intro y hy; rw [hy] at he; exact he.symm
theorem fold_range (loads : List Int) : ∀ (cs : List Int) (best : Int), (∀ c ∈ cs, 0 ≤ c) → -1 ≤ best → best < (loads.length : Int) → -1 ≤ cs.foldl (stepI loads) best ∧ cs.foldl (stepI loads) best < (loads.length : Int)
  | [], best, _, h1, h2 => ⟨h1, h2⟩
  | c :: cs, best, hc, h1, h2 => by
    have h0 := hc c (List.mem_cons_self ..)
    rw [List.foldl_cons]
    refine fold_range loads cs _ (fun d hd => hc d (List.mem_cons_of_mem _ hd)) ?_ ?_
    · unfold stepI; split
      · split
        · omega
        · split <;> omega
      · exact h1
    · unfold stepI; split
      · split
        · assumption
        · split <;> omega
      · exact h2
theorem choose_range (x : Nat) (loads : List Int) : -1 ≤ chooseI x loads ∧ chooseI x loads < (loads.length : Int) :=
  fold_range loads _ _ (by intro c hc; simp at hc; obtain ⟨a, _, rfl⟩ := hc; omega) (by omega) (by omega)
theorem LoadsAt.C {W : World} {c lb cap : Nat} {l : List Int} (h : LoadsAt W c lb cap l) : Kd.C (Kd.int .i64) W (some ⟨lb, 0, none⟩) l.length l :=
  ⟨rfl, by rw [h.len]; omega, fun _ => ⟨_, rfl, fun j p hj => ⟨[.int .i64 p], rfl, rfl, fun i u hu => by
    have hj' := (List.getElem?_eq_some_iff.1 hj).1
    have hi : i = 0 := by have := (List.getElem?_eq_some_iff.1 hu).1; simpa using this
    subst hi
    have hu' : u = .int .i64 p := by simpa using hu.symm
    subst hu'
    have := h.row j (by rw [h.len] at hj'; exact hj')
    rw [List.getD_eq_getElem?_getD, hj] at this
    rw [Addr.add_lit]
    simpa [Kd.int, Kd.scalar] using this⟩⟩⟩
def balV (r : Option (Int × Int)) : Value := match r with | some (i, t) => .tuple #[.int .i64 i, .int .i64 t, .bool true] | none => .tuple #[.int .i64 0, .int .i64 0, .bool false]
theorem below_drewN_ (B : Nat) (w : World) (n : Nat) : Below B w (w.drewN n) := ⟨rfl, rfl, rfl, Nat.le_refl _, fun _ _ => rfl⟩
set_option maxHeartbeats 4000000 in
set_option maxRecDepth 1000000 in
theorem bal_calls (A0 : Option Addr) (c0 : Nat) (l : List S38) (x : Nat) (hx : x < 18446744073709551616) (w : World) (hT : Lt w) (hr0 : Kd.C k38 w A0 l.length l) (hc0 : l.length ≤ c0) (hn : l.length ≤ 1000000) (hU : ∀ s ∈ l, 0 ≤ s.f2 ∧ s.f2 < 18446744073709551616) :
    Calls Tryd.prog 22 #[.slice A0 l.length c0, .int .u64 (x : Nat)] w fun e w' => e = .returned (balV (balO l x)) ∧ Below w.heap.size w w' := by
  have HT : Aside _ := hT
  have HR : Aside _ := hr0
  have HC : Aside _ := hc0
  have HU : Aside _ := hU
  have C1 : Aside _ := load_Loads.calls (l.length + 1) A0 c0 l 64 (loadsL l 64) w hr0 hc0 (loads_f l 64 hn _ (by omega))
  clear hT hr0 hc0 hU
  obtain ⟨res, hres⟩ : ∃ z, z = balO l x := ⟨_, rfl⟩
  rw [← hres]
  obtain ⟨rv, hrv⟩ : ∃ z, z = balV res := ⟨_, rfl⟩
  rw [← hrv]
  have HRES : Hid (res = balO l x) := hres
  have HRV : Hid (rv = balV res) := hrv
  clear hres hrv
  go_enter Tryd.func22, Tryd.ntmps22
  go_wp2_with (go_at_call 18; refine Calls.mono C1.out ?_; rintro e w1 ⟨v1, rfl, ho1, hb1⟩; obtain ⟨lb, lcap, rfl, hlcap, hlb1, hlb2, hrow⟩ := loads_own ho1; have HL : Aside _ := And.intro hlcap (And.intro hlb1 (And.intro hlb2 hrow)); have HB1 : Aside _ := hb1; clear ho1 hb1 hlcap hlb1 hlb2 hrow)
  obtain ⟨w2, hw2⟩ : ∃ W, W = w1.alloc (Obj.cells #[Value.slice (some ⟨lb, 0, none⟩) 64 lcap] 24) := ⟨_, rfl⟩
  obtain ⟨cB, hcB⟩ : ∃ k, k = w1.heap.size := ⟨_, rfl⟩
  rw [← hw2, ← hcB]
  have F2 : Aside (Below w.heap.size w w2 ∧ LoadsAt w2 cB lb lcap (loadsL l 64) ∧ 64 ≤ lcap) := by
    obtain ⟨h1, h2, h3, h4⟩ := HL.out
    rw [hw2, hcB]
    have hba : Below w1.heap.size w1 (w1.alloc (Obj.cells #[Value.slice (some ⟨lb, 0, none⟩) 64 lcap] 24)) := (Below.refl _ _).alloc (Nat.le_refl _) _
    refine ⟨HB1.out.trans (hba.mono HB1.out.size), ⟨loadsL_length _ _, ?_, fun i hi => ?_⟩, h1⟩
    · exact (Boxed.new w1 24 _).cell
    · exact (hba.cell (World.block_lt_of_cell? _ _ (h4 i hi))).trans (h4 i hi)
  clear HL HB1 hw2 hcB C1
  go_wp2_with (go_at_call 48; refine Calls.mono (callsIn_wide.1 (all_in 3 (by omega) x hx w2 (HT.out.below (F2.out.1.mono (Nat.le_refl _))).tab)) ?_; rintro e w3 ⟨v2, rfl, ho2, hb2⟩; have HO2 : Aside _ := ho2; have HB2 : Aside _ := hb2; clear ho2 hb2)
  have hlen2 : (coresF x).length ≤ 64 := by rw [coresF_length]; exact cores_length x
  have C3 := sort_cores w3 w2.heap.size v2 (coresF x) cB lb lcap (loadsL l 64) (by have := HO2.out; rw [coresF_val, coresF_length]; exact this) (F2.out.2.1.below HB2.out) F2.out.2.1.c_lt F2.out.2.1.lb_lt HB2.out.size (by omega)
  have HC3 : Aside _ := C3
  clear C3 HO2
  go_wp2_with (go_at_call 50; refine Calls.mono HC3.out ?_; rintro e w4 ⟨rfl, hb3, AC, cp, rfl, hc3, hg3⟩; have HB3 : Aside _ := And.intro hb3 (And.intro hc3 hg3); clear hb3 hc3 hg3 HC3)
  have F4 : Aside (Below w.heap.size w w4 ∧ Lt w4 ∧ LoadsAt w4 cB lb lcap (loadsL l 64) ∧ 64 ≤ lcap ∧ IntsAt w4 AC ((stL (ltOf (cfC (loadsL l 64))) (coresF x)).map fun c => ((c.val : Nat) : Int))) := by
    obtain ⟨h1, h2, h3⟩ := F2.out
    obtain ⟨k1, k2, _⟩ := HB3.out
    have hba : Below w2.heap.size w2 w4 := HB2.out.trans k1
    have hbw : Below w.heap.size w w4 := h1.trans (hba.mono h1.size)
    exact ⟨hbw, HT.out.below hbw, h2.below hba, h3, k2⟩
  clear F2 HB2 HB3
  have HC4 : Aside _ := clone53 A0 l.length c0 l w4 (Kd.C_below HR.out F4.out.1) hn
  go_wp2_with (go_at_call 53; refine Calls.mono HC4.out ?_; rintro e w5 ⟨v3, inner, rfl, ho3, hr3, hb4⟩; have HO3 : Aside _ := And.intro ho3 (And.intro hr3 hb4); clear ho3 hr3 hb4 HC4)
  have HC5 : Aside _ := sort_seats w5 w4 w4.heap.size v3 l inner HO3.out.1 HO3.out.2.1 HO3.out.2.2.size hn
  go_wp2_with (go_at_call 54; refine Calls.mono HC5.out ?_; rintro e w6 ⟨rfl, hb5, AS, cs, rfl, hs5⟩; have HS5 : Aside _ := And.intro hb5 hs5; clear hb5 hs5 HC5)
  obtain ⟨cs', hcs'⟩ : ∃ z, z = (stL (ltOf (cfC (loadsL l 64))) (coresF x)).map fun c => ((c.val : Nat) : Int) := ⟨_, rfl⟩
  obtain ⟨ss, hss⟩ : ∃ z, z = stL (ltOf cfS) l := ⟨_, rfl⟩
  obtain ⟨nC, hnC⟩ : ∃ z, z = (coresF x).length := ⟨_, rfl⟩
  obtain ⟨nS, hnS⟩ : ∃ z, z = l.length := ⟨_, rfl⟩
  have LC : Hid (cs'.length = nC) := by show _ = _; rw [hcs', hnC, List.length_map, stL_length (cfC_swo _)]
  have LS : Hid (ss.length = nS) := by show _ = _; rw [hss, hnS, stL_length cfS_swo]
  have CB : Hid (∀ c ∈ cs', 0 ≤ c ∧ c < 64) := by
    show ∀ c ∈ cs', 0 ≤ c ∧ c < 64
    intro c hc; rw [hcs'] at hc; simp at hc; obtain ⟨a, _, rfl⟩ := hc; omega
  have SU : Hid (∀ s ∈ ss, 0 ≤ s.f2 ∧ s.f2 < 18446744073709551616) := by
    show ∀ s ∈ ss, _
    intro s hs; rw [hss] at hs; exact HU.out s ((stL_perm cfS_swo l).mem_iff.1 hs)
  have BO : Hid (balO l x = cs'.findSome? fun c => ss.findSome? (tryS (loadsL l 64) x c)) := by
    show _ = _
    rw [hcs', hss, List.findSome?_map]; rfl
  have LB : Hid (∀ c : Nat, 0 ≤ (loadsL l 64).getD c 0 ∧ (loadsL l 64).getD c 0 ≤ 1000000) := by
    intro c
    by_cases h : c < 64
    · rw [loadsL_get _ _ _ h]; have := loadN_le l c; omega
    · rw [List.getD_eq_getElem?_getD, List.getElem?_eq_none (by rw [loadsL_length]; omega)]; simp
  have LL : Hid ((loadsL l 64).length = 64) := loadsL_length _ _
  have F6 : Aside (BalW w w6 (loadsL l 64) cs' ss cB lb lcap AC AS) := by
    obtain ⟨h1, h2, h3, h4, h5⟩ := F4.out
    have hba : Below w4.heap.size w4 w6 := HO3.out.2.2.trans HS5.out.1
    rw [hcs', hss]
    exact ⟨h1.trans (hba.mono h1.size), h2.below hba, h3.below hba, h4, h5.below hba, HS5.out.2⟩
  rw [← hnC, ← hnS]
  rw [← HRES.out] at BO
  generalize loadsL l 64 = loads at F6 BO LB LL
  have hnC2 : nC ≤ 64 := by omega
  have hnS2 : nS ≤ 1000000 := by omega
  clear HO3 HS5 F4 HT HR HC HU hcs' hss hnC hnS HRES
  go_loopg [28] nC (fun kx s28 wr => ∃ (z : Int) (i : Nat), s28 = .int .i64 z ∧ Hid (z = (i : Int)) ∧ i ≤ nC ∧ nC ≤ i + kx ∧ Aside (BalW w wr loads cs' ss cB lb lcap AC AS) ∧ Hid ((cs'.drop i).findSome? (fun c => ss.findSome? (tryS loads x c)) = res))
  case atStart => exact ⟨0, 0, by first | rfl | go_num, (show Hid _ from rfl), by omega, by omega, F6, (show Hid _ from BO.out.symm)⟩
  case round =>
    clear F6 BO
    obtain ⟨z, i, rfl, hz, hi1, hi2, FB, heq⟩ := hrel
    by_cases hlt : i < nC
    · obtain ⟨ko, rfl⟩ : ∃ k, gk = k + 1 := ⟨gk - 1, by omega⟩
      have HI : i < cs'.length := by rw [LC.out]; exact hlt
      obtain ⟨gC, eC, hxC⟩ := FB.out.cs i HI
      have cb0 : decide (z < (nC : Int)) = true := by rw [hz.out]; exact decide_eq_true (by omega)
      have cp0 : (0 ≤ z) = True := eq_true (by rw [hz.out]; omega)
      have cq0 : (z < (nC : Int)) = True := eq_true (by rw [hz.out]; omega)
      obtain ⟨adC, hadC⟩ : ∃ a, a = (⟨gC, 0, none⟩ : Addr) := ⟨_, rfl⟩
      rw [← hadC] at eC
      obtain ⟨c, hc⟩ : ∃ c, c = cs'.getD i 0 := ⟨_, rfl⟩
      rw [← hc] at hxC
      have hxC' : wr.cell? (adC.add z.toNat) = some (.int .i64 c) := by rw [hadC, hz.out, Addr.add_lit, Int.toNat_natCast, Nat.zero_add]; exact hxC
      have HCx : Hid (c = cs'.getD i 0) := hc
      subst eC
      clear hxC hadC hc HI
      have HCB : Hid (0 ≤ c ∧ c < 64) := CB.out c (by rw [HCx.out]; simp [LC.out, hlt, List.getD])
      obtain ⟨cN, hcN⟩ : ∃ n : Nat, c = (n : Int) := ⟨c.toNat, by have := HCB.out; omega⟩
      subst hcN
      go_wp2
      have NX := findSome_next (fun c => ss.findSome? (tryS loads x c)) cs' 0 i (by rw [LC.out]; exact hlt) res heq.out
      rw [← HCx.out] at NX
      have HNX : Hid _ := NX
      clear NX heq HCx hxC'
      go_loopg [34] nS (fun kx s34 wr => ∃ (y : Int) (j : Nat), s34 = .int .i64 y ∧ Hid (y = (j : Int)) ∧ j ≤ nS ∧ nS ≤ j + kx ∧ Aside (BalW w wr loads cs' ss cB lb lcap (some adC) AS) ∧ Hid ((ss.drop j).findSome? (tryS loads x (cN : Int)) = ss.findSome? (tryS loads x (cN : Int))))
      case atStart => exact ⟨0, 0, by first | rfl | go_num, (show Hid _ from rfl), by omega, by omega, FB, (show Hid _ from rfl)⟩
      case round =>
        clear FB
        obtain ⟨y, j, rfl, hy, hj1, hj2, FB, heq⟩ := hrel
        by_cases hlt2 : j < nS
        · obtain ⟨gS, eS, hxS⟩ := FB.out.ss j (by rw [LS.out]; exact hlt2)
          have db0 : decide (y < (nS : Int)) = true := by rw [hy.out]; exact decide_eq_true (by omega)
          have dp0 : (0 ≤ y) = True := eq_true (by rw [hy.out]; omega)
          have dq0 : (y < (nS : Int)) = True := eq_true (by rw [hy.out]; omega)
          obtain ⟨adS, hadS⟩ : ∃ a, a = (⟨gS, 0, none⟩ : Addr) := ⟨_, rfl⟩
          rw [← hadS] at eS
          obtain ⟨s, hs⟩ : ∃ c, c = ss.getD j z38 := ⟨_, rfl⟩
          rw [← hs] at hxS
          have NX := findSome_next (tryS loads x (cN : Int)) ss z38 j (by rw [LS.out]; exact hlt2) _ heq.out
          rw [← hs] at NX
          have HNX2 : Hid _ := NX
          have HSU : Hid (0 ≤ s.f2 ∧ s.f2 < 18446744073709551616) := SU.out s (by rw [hs]; simp [LS.out, hlt2, List.getD])
          clear NX heq hs
          obtain ⟨f0, f1, f2⟩ := s
          have HSU2 : Hid (0 ≤ f2 ∧ f2 < 18446744073709551616) := HSU.out
          clear HSU
          have ea : adS.add (y.toNat * 3) = ⟨gS, j * 3, none⟩ := by rw [hadS, hy.out, Addr.add_lit, Int.toNat_natCast, Nat.zero_add]
          have hx0 : wr.cell? (adS.add (y.toNat * 3)) = some (.int .i64 f0) := by rw [ea]; exact hxS 0 _ rfl
          have hx1 : wr.cell? ⟨(adS.add (y.toNat * 3)).block, (adS.add (y.toNat * 3)).off + 1, none⟩ = some (.int .i64 f1) := by rw [ea]; exact hxS 1 _ rfl
          have hx2 : wr.cell? ⟨(adS.add (y.toNat * 3)).block, (adS.add (y.toNat * 3)).off + 2, none⟩ = some (.int .u64 f2) := by rw [ea]; exact hxS 2 _ rfl
          subst eS
          clear hxS hadS ea
          obtain ⟨w7a, hw7a⟩ : ∃ W, W = wr.alloc (Obj.cells #[.int .i64 f0, .int .i64 f1, .int .u64 f2] 38) := ⟨_, rfl⟩
          have hba : Below wr.heap.size wr w7a := by rw [hw7a]; exact (Below.refl _ _).alloc (Nat.le_refl _) _
          have hg0 : w7a.heap[wr.heap.size]? = some (.cells #[.int .i64 f0, .int .i64 f1, .int .u64 f2] 38 (0, 0)) := by rw [hw7a]; exact World.alloc_heap_new _ _
          have F7 : Aside _ := FB.out.next hba
          have hbx : (wr.alloc (Obj.cells #[.int .i64 f0, .int .i64 f1, .int .u64 f2] 38)).cell? ⟨cB, 0, none⟩ = some (.slice (some ⟨lb, 0, none⟩) 64 lcap) := by rw [← hw7a]; exact F7.out.lds.box
          have hgc : ∀ (W : World), Below w7a.heap.size w7a W → W.cell? ⟨wr.heap.size, 0, none⟩ = some (.int .i64 f0) := fun W hb => by
            have h0 : w7a.cell? ⟨wr.heap.size, 0, none⟩ = some (.int .i64 f0) := by simp [World.cell?, hg0]
            exact (hb.cell (World.block_lt_of_cell? _ _ h0)).trans h0
          have HGC : Aside _ := hgc
          clear hgc hg0 hba
          by_cases hf : f1 = (cN : Int)
          · subst hf
            obtain ⟨fN, hfN⟩ : ∃ n : Nat, f2 = (n : Int) := ⟨f2.toNat, by have := HSU2.out; omega⟩
            subst hfN
            have hand : bits BinOp.and IntKind.u64 (fN : Int) (x : Int) = ((fN &&& x : Nat) : Int) := bits_and_u64_nat _ _ (by have := HSU2.out; omega) hx
            have hax : fN &&& x < 18446744073709551616 := Nat.lt_of_le_of_lt Nat.and_le_right hx
            have CH := load_Choose.calls 65 ((fN &&& x : Nat) : Int) (some ⟨lb, 0, none⟩) lcap loads (chooseI (fN &&& x) loads) w7a F7.out.lt F7.out.lds.C (by rw [LL.out]; exact F7.out.cap) (choose_f (fN &&& x) hax loads 65 (by omega))
            rw [LL.out, hw7a] at CH
            have HCH : Aside _ := CH
            have hcr := choose_range (fN &&& x) loads
            rw [LL.out] at hcr
            obtain ⟨tt, htt⟩ : ∃ t, t = chooseI (fN &&& x) loads := ⟨_, rfl⟩
            rw [← htt] at hcr HCH
            have HTT : Hid _ := htt
            have HWA : Hid _ := hw7a
            clear CH htt hw7a hax
            go_wp2_with (go_at_call 20; refine Calls.mono HCH.out ?_; rintro e w7 ⟨rfl, hb7⟩; have HB7 : Aside _ := hb7; clear hb7 hbx HCH)
            have F8 : Aside (BalW w w7 loads cs' ss cB lb lcap (some adC) (some adS)) := F7.out.next (by rw [HWA.out]; exact HB7.out)
            have hg7 := HGC.out w7 (by rw [HWA.out]; exact HB7.out)
            clear F7 HWA HB7 HGC
            by_cases ht : 0 ≤ tt
            · obtain ⟨tN, htN⟩ : ∃ n : Nat, tt = (n : Int) := ⟨tt.toNat, by omega⟩
              subst htN
              have hb7 := F8.out.lds.box
              have hvt := F8.out.lds.row tN (by omega)
              have hvc := F8.out.lds.row cN (by have := HCB.out; omega)
              have bt := LB.out tN
              have hrt : Hid (rd loads (tN : Int) = loads.getD tN 0) := rd_nat _ _
              have hrc : Hid (rd loads (cN : Int) = loads.getD cN 0) := rd_nat _ _
              generalize loads.getD tN 0 = vt at hvt bt hrt
              generalize loads.getD cN 0 = vc at hvc hrc
              have n1 : ((tN : Int)).toNat = tN := by omega
              have n2 : ((cN : Int)).toNat = cN := by omega
              have b1 : (tN : Int) < 64 := by omega
              have b2 : (cN : Int) < 64 := by have := HCB.out; omega
              have p1 : (0 : Int) ≤ (tN : Int) := by omega
              have p2 : (0 : Int) ≤ (cN : Int) := by omega
              have e8 : IntKind.i64.wrap (vt + 1) = vt + 1 := by rw [IntKind.wrap_i64]; omega
              by_cases hv : vt + 1 < vc
              · have hv1 : decide (vt + 1 < vc) = true := decide_eq_true hv
                go_wp2
                repeat (go_quiet (fail); try go_wp2)
                go_returns
                have hr : res = some (f0, (tN : Int)) := HNX.out.2 _ (HNX2.out.2 _ (by
                  unfold tryS
                  rw [if_pos rfl]
                  simp only [Int.toNat_natCast]
                  rw [← HTT.out, hrt.out, hrc.out]
                  exact if_pos ⟨by omega, hv⟩))
                refine ⟨?_, F8.out.below.trans (below_drewN_ _ _ _)⟩
                rw [HRV.out, hr]; rfl
              · have hv1 : decide (vt + 1 < vc) = false := decide_eq_false hv
                obtain ⟨kk, rfl⟩ : ∃ k, gk = k + 1 := ⟨gk - 1, by omega⟩
                go_wp2
                repeat (go_quiet (fail); try go_wp2)
                go_roundg kk
                case measure => omega
                case rel => exact ⟨wrap64 (y + 1), j + 1, rfl, (show Hid _ from by have := hy.out; show _ = _; rw [wrap64_id (by omega) (by omega)]; omega), by omega, by omega, F8.out.next (below_drewN_ _ _ _), (show Hid _ from HNX2.out.1 (by
                  unfold tryS
                  rw [if_pos rfl]
                  simp only [Int.toNat_natCast]
                  rw [← HTT.out, hrt.out, hrc.out]
                  exact if_neg (fun h => by have := h.2; omega)))⟩
            · have ht1 : decide (0 ≤ tt) = false := decide_eq_false ht
              have hb7 := F8.out.lds.box
              obtain ⟨kk, rfl⟩ : ∃ k, gk = k + 1 := ⟨gk - 1, by omega⟩
              go_wp2
              repeat (go_quiet (fail); try go_wp2)
              go_roundg kk
              case measure => omega
              case rel => exact ⟨wrap64 (y + 1), j + 1, rfl, (show Hid _ from by have := hy.out; show _ = _; rw [wrap64_id (by omega) (by omega)]; omega), by omega, by omega, F8.out.next (below_drewN_ _ _ _), (show Hid _ from HNX2.out.1 (by
                unfold tryS
                rw [if_pos rfl]
                simp only [Int.toNat_natCast]
                rw [← HTT.out]
                exact if_neg (fun h => by have := h.1; omega)))⟩
          · have hf1 : (f1 != (cN : Int)) = true := by simpa using hf
            have hf2 : (f1 == (cN : Int)) = false := by simpa using hf
            have e9 : IntKind.i64.wrap (y + 1) = y + 1 := by have := hy.out; rw [IntKind.wrap_i64]; omega
            obtain ⟨kk, rfl⟩ : ∃ k, gk = k + 1 := ⟨gk - 1, by omega⟩
            go_wp2
            go_roundg kk
            case measure => omega
            case rel => exact ⟨y + 1, j + 1, rfl, (show Hid _ from by have := hy.out; show _ = _; omega), by omega, by omega, by rw [← hw7a]; exact F7, (show Hid _ from HNX2.out.1 (by unfold tryS; exact if_neg hf))⟩
        · have db0 : decide (y < (nS : Int)) = false := by rw [hy.out]; exact decide_eq_false (by omega)
          have hnone := findSome_stop _ ss j (by rw [LS.out]; omega) _ heq.out
          have e9 : IntKind.i64.wrap (z + 1) = z + 1 := by have := hz.out; rw [IntKind.wrap_i64]; omega
          have HN : Hid _ := HNX.out.1 hnone
          clear hnone HNX heq
          go_wp2
          go_roundg ko
          case measure => omega
          case rel => exact ⟨z + 1, i + 1, rfl, (show Hid _ from by have := hz.out; show _ = _; omega), by omega, by omega, FB, (show Hid _ from HN.out)⟩
    · have cb0 : decide (z < (nC : Int)) = false := by rw [hz.out]; exact decide_eq_false (by omega)
      have hnone := findSome_stop _ cs' i (by rw [LC.out]; omega) _ heq.out
      have HN : Hid _ := hnone
      clear hnone heq
      go_wp2
      go_returns
      refine ⟨?_, FB.out.below⟩
      rw [HRV.out, HN.out]; rfl
end Go.Proofs.YtgkmipfcadiobaaDoor
set_option linter.unusedVariables false
namespace Go.Proofs.YtgkmipfcadiobaaDoor
open Go Go.Shelf Go.RowKit Go.Lib Go.Sort Pl
open Go.Proofs.YtgkmipfcadiobaaDoorW.PrintWords Go.Proofs.YtgkmipfcadiobaaDoorW.PrintMore
open Go.Proofs.YtgkmipfcadiobaaDoor.GA (S38 z38 k38 k38_open k38_mk k38_mkM)
/-- The first seat with an Id is moved. -/
def setCore : List S38 → Int → Int → List S38
  | [], _, _ => []
  | s :: l, id, t => if s.f0 = id then ⟨s.f0, t, s.f2⟩ :: l else s :: setCore l id t
def settleF (online : Nat) : Nat → List S38 → Nat → List S38 × Nat
  | 0, cur, n => (cur, n)
  | f + 1, cur, n => match balO cur online with | none => (cur, n) | some r => settleF online f (setCore cur r.1 r.2) (n + 1)
/-- A row of seats of one's own. -/
def OutAt (W : World) (base : Nat) (v : Value) (n : Nat) (cur : List S38) : Prop := ∃ inner, W.ownsRow base 38 3 v n inner ∧ Reps (fun s cs => cs = encS s) 3 cur inner
theorem OutAt.below {W W' : World} {base : Nat} {v : Value} {n : Nat} {cur : List S38} (h : OutAt W base v n cur) (hb : Below W.heap.size W W') : OutAt W' base v n cur := by
  obtain ⟨inner, ho, hr⟩ := h
  exact ⟨inner, own_move ho (fun k hk => hb.block k (own_lt ho k hk)), hr⟩
theorem OutAt.C {W : World} {base : Nat} {v : Value} {n : Nat} {cur : List S38} (h : OutAt W base v n cur) (hn : cur.length = n) : ∃ A c, v = .slice A n c ∧ Kd.C k38 W A n cur := by
  obtain ⟨inner, ho, hr⟩ := h
  exact own_reads_row ho (hr.imp_ (fun s cs e => by subst e; exact k38_mk W s)) hn
theorem OutAt.R {W : World} {base : Nat} {v : Value} {cur : List S38} (h : OutAt W base v cur.length cur) : Kd.R k38 38 W base (fun _ => True) v cur := by
  obtain ⟨inner, ho, hr⟩ := h
  exact ⟨fun _ _ => trivial, inner, ho, hr.imp_ (fun s cs e => by subst e; exact k38_mkM W base _ s)⟩
theorem pred58 (id : Int) (ib : Nat) (w : World) (hb : w.cell? ⟨ib, 0, none⟩ = some (.int .i64 id)) :
    PredBelow Tryd.prog 58 #[.pointer (some ⟨ib, 0, none⟩)] (fun x => .agg (encS x).toArray) (fun s : S38 => s.f0 == id) w := by
  intro W x hB
  have hc : W.cell? ⟨ib, 0, none⟩ = some (.int .i64 id) := (hB.cell (World.block_lt_of_cell? _ _ hb)).trans hb
  have hba : Below W.heap.size W (W.alloc (Obj.cells #[.int .i64 x.f0, .int .i64 x.f1, .int .u64 x.f2] 38)) := (Below.refl _ _).alloc (Nat.le_refl _) _
  have hc2 : (W.alloc (Obj.cells #[.int .i64 x.f0, .int .i64 x.f1, .int .u64 x.f2] 38)).cell? ⟨ib, 0, none⟩ = some (.int .i64 id) := (hba.cell (World.block_lt_of_cell? _ _ hc)).trans hc
  have HBA : Aside (Below w.heap.size w (W.alloc (Obj.cells #[.int .i64 x.f0, .int .i64 x.f1, .int .u64 x.f2] 38))) := hB.trans (hba.mono hB.size)
  clear hB hb hba
  obtain ⟨f0, f1, f2⟩ := x
  unfold encS
  go_enter Tryd.func58, Tryd.ntmps58
  go_wp2
  go_ret
  exact ⟨rfl, HBA.out⟩
theorem OutAt.set {W : World} {base g cap n : Nat} {cur : List S38} (h : OutAt W base (.slice (some ⟨g, 0, none⟩) n cap) n cur) (k : Nat) (hk : k < cur.length) (t : Int) :
    OutAt (W.setCell ⟨g, k * 3 + 1, none⟩ (.int .i64 t)) base (.slice (some ⟨g, 0, none⟩) n cap) n (cur.set k ⟨cur[k].f0, t, cur[k].f2⟩) := by
  obtain ⟨inner, ho, hr⟩ := h
  refine ⟨_, (ho.stored (k * 3 + 1) _).1, by rw [List.length_set, List.length_set]; exact hr.1, fun j p hj => ?_⟩
  by_cases e : j = k
  · subst e
    have hp : p = ⟨cur[j].f0, t, cur[j].f2⟩ := by
      rw [List.getElem?_set_self hk] at hj
      exact (Option.some.inj hj).symm
    have h0 : (inner.drop (j * 3)).take 3 = encS cur[j] := hr.2 j _ (List.getElem?_eq_getElem hk)
    rw [List.drop_set, if_neg (by omega), List.take_set, h0, hp, show j * 3 + 1 - j * 3 = 1 by omega]
    rfl
  · rw [List.getElem?_set_ne (Ne.symm e)] at hj
    have h0 : (inner.drop (j * 3)).take 3 = encS p := hr.2 j _ hj
    rw [List.drop_set]
    split
    · exact h0
    · rw [List.take_set, h0, List.set_eq_of_length_le]
      simp [encS]; omega
theorem OutAt.cell {W : World} {base g cap n : Nat} {cur : List S38} (h : OutAt W base (.slice (some ⟨g, 0, none⟩) n cap) n cur) (hn : cur.length = n) (i : Nat) (hi : i < n) :
    (∀ j v, (encS (cur.getD i z38))[j]? = some v → W.cell? ⟨g, i * 3 + j, none⟩ = some v) ∧ base ≤ g ∧ g < W.heap.size ∧ n ≤ cap := by
  obtain ⟨inner, ho, hr⟩ := h
  rcases ho.2 with ⟨h0, h1⟩ | ⟨g', cap', cells, he, hg, hh, hc, _, hs, htk⟩
  · omega
  · injection he with e1 e2 e3
    injection e1 with e1
    injection e1 with e1
    subst e1 e3
    refine ⟨fun j v hv => ?_, hg, (Array.getElem?_eq_some_iff.1 hh).1, hc⟩
    have hj : j < 3 := by have := (List.getElem?_eq_some_iff.1 hv).1; simpa [encS] using this
    have hi' : i < cur.length := by omega
    have h0 : (inner.drop (i * 3)).take 3 = encS cur[i] := hr.2 i _ (List.getElem?_eq_getElem hi')
    have ed : cur.getD i z38 = cur[i] := by simp [hi', List.getD]
    rw [ed, ← h0, List.getElem?_take_of_lt hj, List.getElem?_drop, ← htk, List.getElem?_take_of_lt (by omega), Array.getElem?_toList] at hv
    simp only [World.cell?, hh, Option.isSome_none, Bool.false_eq_true, if_false]
    exact hv
theorem OutAt.frozen {W : World} {base g cap n : Nat} {cur : List S38} (h : OutAt W base (.slice (some ⟨g, 0, none⟩) n cap) n cur) (h0 : 0 < n) (j : Nat) : W.frozen? ⟨g, j, none⟩ = false := by
  obtain ⟨inner, ho, hr⟩ := h
  rcases ho.2 with ⟨_, h1⟩ | ⟨g', cap', cells, he, hg, hh, _⟩
  · omega
  · injection he with e1 e2 e3
    injection e1 with e1
    injection e1 with e1
    subst e1
    simp [World.frozen?, hh]
theorem OutAt.form {W : World} {base n : Nat} {v : Value} {cur : List S38} (h : OutAt W base v n cur) (h0 : 0 < n) : ∃ g cap, v = .slice (some ⟨g, 0, none⟩) n cap := by
  obtain ⟨inner, ho, hr⟩ := h
  rcases ho.2 with ⟨_, h1⟩ | ⟨g', cap', cells, he, _⟩
  · omega
  · exact ⟨g', cap', he⟩
/-- The first seat with an Id. -/
theorem setCore_first : ∀ (cur : List S38) (id t : Int), (∃ s ∈ cur, s.f0 = id) → ∃ k, ∃ h : k < cur.length, cur[k].f0 = id ∧ (∀ j (hj : j < k), (cur[j]'(by omega)).f0 ≠ id) ∧ setCore cur id t = cur.set k ⟨cur[k].f0, t, cur[k].f2⟩
  | [], id, t, h => by obtain ⟨s, hs, _⟩ := h; cases hs
  | s :: l, id, t, h => by
    by_cases e : s.f0 = id
    · exact ⟨0, by simp, e, fun j hj => by omega, by rw [setCore, if_pos e]; rfl⟩
    · obtain ⟨k, hk, h1, h2, h3⟩ := setCore_first l id t (by
        obtain ⟨s', hs', he⟩ := h
        rcases List.mem_cons.1 hs' with rfl | hm
        · exact absurd he e
        · exact ⟨s', hm, he⟩)
      refine ⟨k + 1, by simpa using hk, h1, fun j hj => ?_, by rw [setCore, if_neg e, h3]; rfl⟩
      cases j with
      | zero => exact e
      | succ j => exact h2 j (by omega)
theorem setCore_length : ∀ (cur : List S38) (id t : Int), (setCore cur id t).length = cur.length
  | [], _, _ => rfl
  | s :: l, id, t => by
    rw [setCore]
    split
    · rfl
    · rw [List.length_cons, setCore_length l]; rfl
theorem setCore_f2 : ∀ (cur : List S38) (id t : Int) (p : Int → Prop), (∀ s ∈ cur, p s.f2) → ∀ s ∈ setCore cur id t, p s.f2
  | [], _, _, p, h, s, hs => by cases hs
  | a :: l, id, t, p, h, s, hs => by
    rw [setCore] at hs
    split at hs
    · rcases List.mem_cons.1 hs with rfl | hm
      · exact h a (List.mem_cons_self ..)
      · exact h s (List.mem_cons_of_mem _ hm)
    · rcases List.mem_cons.1 hs with rfl | hm
      · exact h s (List.mem_cons_self ..)
      · exact setCore_f2 l id t p (fun x hx => h x (List.mem_cons_of_mem _ hx)) s hm
/-- Who is told to move is one of the seats. -/
theorem balO_mem (l : List S38) (x : Nat) (r : Int × Int) (h : balO l x = some r) : ∃ s ∈ l, s.f0 = r.1 := by
  unfold balO at h
  obtain ⟨c, hc, h⟩ := List.exists_of_findSome?_eq_some h
  obtain ⟨s, hs, h⟩ := List.exists_of_findSome?_eq_some h
  refine ⟨s, (stL_perm cfS_swo l).mem_iff.1 hs, ?_⟩
  unfold tryS at h
  split at h
  · split at h
    · rw [← Option.some.inj h]
    · cases h
  · cases h
theorem e58 : ∀ args w, (callFunc 58 args).run Tryd.prog w = .ok (.enter 58 args) w := enters_of Tryd.func58 (by kernel_rfl) rfl
theorem encS_hk : ∀ x, (encS x).length = 3 := fun _ => rfl
theorem getD_bang (cur : List S38) (i : Nat) (h : i < cur.length) : cur[i]! = cur.getD i z38 := by simp [h, List.getD]
set_option maxHeartbeats 4000000 in
set_option maxRecDepth 1000000 in
theorem set_calls (A0 : Option Addr) (c0 : Nat) (l : List S38) (x : Nat) (hx : x < 18446744073709551616) (w : World) (hT : Lt w) (hr0 : Kd.C k38 w A0 l.length l) (hn : l.length ≤ 1000000) (hU : ∀ s ∈ l, 0 ≤ s.f2 ∧ s.f2 < 18446744073709551616) :
    Calls Tryd.prog 25 #[.slice A0 l.length c0, .int .u64 (x : Nat)] w fun e w' => ∃ v : Value, e = .returned (.tuple #[v, .int .i64 ((settleF x (l.length * (l.length + 64)) l 0).2 : Nat)]) ∧ Kd.R k38 38 w' w.heap.size (fun _ => True) v (settleF x (l.length * (l.length + 64)) l 0).1 ∧ Below w.heap.size w w' := by
  have HT : Aside _ := hT
  have HU : Aside _ := hU
  have HC1 : Aside _ := clone53 A0 l.length c0 l w hr0 hn
  clear hT hr0 hU
  obtain ⟨n, hnn⟩ : ∃ z, z = l.length := ⟨_, rfl⟩
  rw [← hnn] at HC1 hn ⊢
  obtain ⟨M, hM⟩ : ∃ z, z = n * (n + 64) := ⟨_, rfl⟩
  rw [← hM]
  obtain ⟨res, hres⟩ : ∃ z, z = settleF x M l 0 := ⟨_, rfl⟩
  rw [← hres]
  have HRES : Hid (settleF x M l 0 = res) := hres.symm
  have HN : Hid (l.length = n) := hnn.symm
  obtain ⟨q, hq⟩ : ∃ z, z = n + 64 := ⟨_, rfl⟩
  have e1 : IntKind.i64.wrap ((n : Int) + 64) = (q : Int) := by rw [IntKind.wrap_i64]; omega
  have hMb : M ≤ 1000064000000 := by rw [hM]; exact Nat.le_trans (Nat.mul_le_mul hn (by omega : n + 64 ≤ 1000064)) (by decide)
  have e2 : IntKind.i64.wrap ((n : Int) * (q : Int)) = (M : Int) := by
    have : (n : Int) * (q : Int) = (M : Int) := by rw [hM, hq]; exact (Int.natCast_mul _ _).symm
    rw [this, IntKind.wrap_i64]; omega
  have HM0 : Hid (n = 0 → M = 0) := fun h => by rw [hM, h]
  clear hnn hM hres hq
  go_enter Tryd.func25, Tryd.ntmps25
  go_wp2_with (go_at_call 53; refine Calls.mono HC1.out ?_; rintro e w1 ⟨v, inner, rfl, ho, hr, hb⟩; have HO : Aside (OutAt w1 w.heap.size v n l ∧ Below w.heap.size w w1) := ⟨⟨inner, ho, hr.imp_ (fun s cs h => k38_open h)⟩, hb⟩; clear ho hr hb HC1)
  go_loopg [7] M (fun kx s7 wr => ∃ (m : Nat) (cur : List S38), s7 = .int .i64 m ∧ m + kx = M ∧ Aside (OutAt wr w.heap.size v n cur ∧ Below w.heap.size w wr) ∧ Hid (cur.length = n) ∧ Hid (∀ s ∈ cur, 0 ≤ s.f2 ∧ s.f2 < 18446744073709551616) ∧ Hid (settleF x kx cur m = res))
  case atStart => exact ⟨0, l, by first | rfl | go_num, by omega, HO, (show Hid _ from HN.out), (show Hid _ from HU.out), (show Hid _ from HRES.out)⟩
  case round =>
    clear HO HU HRES
    obtain ⟨m, cur, rfl, hmk, HO, HCL, HU, heq⟩ := hrel
    by_cases hlt : (m : Int) < (M : Int)
    · obtain ⟨kk, rfl⟩ : ∃ k, gk = k + 1 := ⟨gk - 1, by omega⟩
      have hn0 : 0 < n := by
        rcases Nat.eq_zero_or_pos n with h | h
        · have := HM0.out h; omega
        · exact h
      obtain ⟨g, cap, rfl⟩ := HO.out.1.form hn0
      have hg := HO.out.1.cell HCL.out 0 hn0
      have CB := bal_calls (some ⟨g, 0, none⟩) cap cur x hx wr (HT.out.below HO.out.2) (by
        obtain ⟨A, c, e, hC⟩ := HO.out.1.C HCL.out
        injection e with e1 e2 e3
        subst e1
        rw [HCL.out]
        exact hC) (by rw [HCL.out]; exact hg.2.2.2) (by rw [HCL.out]; exact hn) HU.out
      rw [HCL.out] at CB
      have HGG : Hid (w.heap.size ≤ g ∧ n ≤ cap) := ⟨hg.2.1, hg.2.2.2⟩
      clear hg
      cases hB : balO cur x with
      | none =>
        rw [hB] at CB
        have HCB : Aside (Calls Tryd.prog 22 #[.slice (some ⟨g, 0, none⟩) n cap, .int .u64 (x : Nat)] wr fun e w' => e = .returned (.tuple #[.int .i64 0, .int .i64 0, .bool false]) ∧ Below wr.heap.size wr w') := CB
        clear CB
        have hst := heq.out
        rw [settleF, hB] at hst
        have HST : Hid ((cur, m) = res) := hst
        clear hst heq hB
        go_wp2_with (go_at_call 22; refine Calls.mono HCB.out ?_; rintro e w2 ⟨rfl, hb2⟩; have HB2 : Aside _ := hb2; clear hb2 HCB)
        go_returns
        have hw : Below wr.heap.size wr (w2.alloc (Obj.cells #[.int .i64 0] 3)) := HB2.out.alloc HB2.out.size _
        refine ⟨.slice (some ⟨g, 0, none⟩) n cap, by rw [← HST.out]; rfl, ?_, HO.out.2.trans (hw.mono HO.out.2.size)⟩
        rw [← HST.out]
        have := HO.out.1.below hw
        rw [← HCL.out] at this
        have h2 := this.R
        rw [HCL.out] at h2
        exact h2
      | some r =>
        rw [hB] at CB
        have HCB : Aside (Calls Tryd.prog 22 #[.slice (some ⟨g, 0, none⟩) n cap, .int .u64 (x : Nat)] wr fun e w' => e = .returned (.tuple #[.int .i64 r.1, .int .i64 r.2, .bool true]) ∧ Below wr.heap.size wr w') := CB
        clear CB
        have hst := heq.out
        rw [settleF, hB] at hst
        have HST : Hid (settleF x kk (setCore cur r.1 r.2) (m + 1) = res) := hst
        obtain ⟨k, hk, hk1, hk2, hk3⟩ := setCore_first cur r.1 r.2 (balO_mem cur x r hB)
        have HK : Hid _ := And.intro hk1 (And.intro hk2 hk3)
        have hkn : k < n := by have := HCL.out; omega
        clear hst heq hB hk1 hk2 hk3
        obtain ⟨id, tt⟩ := r
        go_wp2_with (go_at_call 22; refine Calls.mono HCB.out ?_; rintro e w2 ⟨rfl, hb2⟩; have HB2 : Aside _ := hb2; clear hb2 HCB)
        obtain ⟨w3, hw3⟩ : ∃ W, W = w2.alloc (Obj.cells #[.int .i64 id] 3) := ⟨_, rfl⟩
        obtain ⟨ib, hib⟩ : ∃ z, z = w2.heap.size := ⟨_, rfl⟩
        have hbx : w3.cell? ⟨ib, 0, none⟩ = some (.int .i64 id) := by rw [hw3, hib]; exact (Boxed.new w2 3 _).cell
        have hw : Below wr.heap.size wr w3 := by rw [hw3]; exact HB2.out.alloc HB2.out.size _
        have HO3 : Aside (OutAt w3 w.heap.size (.slice (some ⟨g, 0, none⟩) n cap) n cur) := HO.out.1.below hw
        have HBW3 : Aside (Below w.heap.size w w3) := HO.out.2.trans (hw.mono HO.out.2.size)
        have hcell := fun i hi => HO3.out.cell HCL.out i hi
        have CI := AnyQ.slices_IndexFunc Tryd.laysIndex57 3 Tryd.isAgg38 Tryd.sizeOf38 encS encS_hk (fun s : S38 => s.f0 == id) 58 #[.pointer (some ⟨ib, 0, none⟩)] e58 g 0 n cap cur w3 (pred58 id ib w3 hbx) (by rw [HCL.out]; exact Nat.le_refl _) (by omega) (hcell 0 hn0).2.2.1 (fun j hj i v hv => by
          rw [Nat.zero_add]
          rw [getD_bang _ _ hj] at hv
          exact (hcell j (by have := HCL.out; omega)).1 i v hv)
        have hidx : Lib.idxBy (fun _ y => (fun s : S38 => s.f0 == id) y) (cur.take n) default = (k : Int) := Lib.idxBy_hit _ cur n k default hkn (by rw [HCL.out]; exact Nat.le_refl _) (by
          rw [getElem!_pos cur k hk]; simpa using HK.out.1) (fun j hj => by
          rw [getElem!_pos cur j (by omega)]; simpa using HK.out.2.1 j hj)
        rw [hidx] at CI
        have HCI : Aside _ := CI
        have e8 : IntKind.i64.wrap ((m : Int) + 1) = ((m + 1 : Nat) : Int) := by rw [IntKind.wrap_i64]; omega
        rw [← hw3, ← hib]
        clear CI hidx hcell hbx hw hw3 hib HB2 HO
        have n1 : ((k : Int)).toNat = k := by omega
        have b1 : (k : Int) < (n : Int) := by omega
        have p1 : (0 : Int) ≤ (k : Int) := by omega
        go_wp2_with (go_at_call 57; refine Calls.mono HCI.out ?_; rintro e w4 ⟨rfl, hb4⟩; have HO4 : Aside (OutAt w4 w.heap.size (.slice (some ⟨g, 0, none⟩) n cap) n cur) := HO3.out.below hb4; have HBW4 : Aside (Below w.heap.size w w4) := HBW3.out.trans (hb4.mono HBW3.out.size); have hc4 := (HO4.out.cell HCL.out k hkn).1 1 _ rfl; have hf4 := HO4.out.frozen hn0 (k * 3 + 1); clear hb4 HCI HO3 HBW3)
        go_roundg kk
        case measure => omega
        case rel =>
          have h5 := HO4.out.set k hk tt
          rw [← HK.out.2.2] at h5
          exact ⟨m + 1, setCore cur id tt, by first | rfl | go_num, by omega, ⟨h5, HBW4.out.setCell HGG.out.1 _⟩, (show Hid _ from by show _ = _; rw [setCore_length]; exact HCL.out), (show Hid _ from setCore_f2 cur id tt (fun z => 0 ≤ z ∧ z < 18446744073709551616) HU.out), (show Hid _ from HST.out)⟩
    · go_wp2
      go_returns
      obtain rfl : gk = 0 := by omega
      have hst := heq.out
      rw [settleF] at hst
      refine ⟨v, by rw [← hst]; rfl, ?_, HO.out.2⟩
      rw [← hst]
      have := HO.out.1
      rw [← HCL.out] at this
      exact this.R
end Go.Proofs.YtgkmipfcadiobaaDoor
set_option linter.unusedVariables false
namespace Go.Proofs.YtgkmipfcadiobaaDoor.GivenL
open Go.RowKit Go.Proofs.YtgkmipfcadiobaaDoorW.PrintWords Go.Proofs.YtgkmipfcadiobaaDoorW.PrintLast Go.Proofs.YtgkmipfcadiobaaDoorW.PrintMore
open Go.Proofs.YtgkmipfcadiobaaDoor Pl
open Go.Proofs.YtgkmipfcadiobaaDoor.GA (S38 k38)
def okS (l0 : List S38) (a1 : Int) : Prop := (0 ≤ a1 ∧ a1 < 18446744073709551616) ∧ l0.length ≤ 1000000 ∧ ∀ s ∈ l0, 0 ≤ s.f2 ∧ s.f2 < 18446744073709551616
instance (l0 : List S38) (a1 : Int) : Decidable (okS l0 a1) := by unfold okS; infer_instance
def balT (r : Option (Int × Int)) : Int × Int × Bool := match r with | some (i, t) => (i, t, true) | none => (0, 0, false)
def load_Balance.f (l0 : List S38) (a1 : Int) : Option (Int × Int × Bool) := if okS l0 a1 then some (balT (balO l0 a1.toNat)) else none
theorem load_Balance.calls (A0 : Option Addr) (c0 : Nat) (l0 : List S38) (a1 : Int) (r1 : Int) (r2 : Int) (r3 : Bool) (w : World) (hT : Lt w) (hr0 : Kd.C k38 w A0 l0.length l0) (hc0 : l0.length ≤ c0) (h : load_Balance.f l0 a1 = some (r1, r2, r3)) :
    Calls Tryd.prog 22 #[.slice A0 l0.length c0, .int .u64 a1] w fun e w' => e = .returned (.tuple #[.int .i64 r1, .int .i64 r2, .bool r3]) ∧ Below w.heap.size w w' := by
  unfold load_Balance.f at h
  split at h
  · rename_i hb
    obtain ⟨x, rfl⟩ := Int.eq_ofNat_of_zero_le hb.1.1
    have hc := bal_calls A0 c0 l0 x (by have := hb.1.2; omega) w hT hr0 hc0 hb.2.1 hb.2.2
    have hv : balV (balO l0 x) = .tuple #[.int .i64 r1, .int .i64 r2, .bool r3] := by
      have h1 := Option.some.inj h
      rw [Int.toNat_natCast] at h1
      unfold balV
      unfold balT at h1
      cases hr : balO l0 x with
      | none => rw [hr] at h1; simp only [Prod.mk.injEq] at h1; obtain ⟨rfl, rfl, rfl⟩ := h1; rfl
      | some r => rw [hr] at h1; simp only [Prod.mk.injEq] at h1; obtain ⟨rfl, rfl, rfl⟩ := h1; rfl
    rw [hv] at hc
    exact hc
  · cases h
def load_Settle.f (l0 : List S38) (a1 : Int) : Option (List S38 × Int) := if okS l0 a1 then some ((settleF a1.toNat (l0.length * (l0.length + 64)) l0 0).1, (((settleF a1.toNat (l0.length * (l0.length + 64)) l0 0).2 : Nat) : Int)) else none
theorem load_Settle.calls (A0 : Option Addr) (c0 : Nat) (l0 : List S38) (a1 : Int) (r1 : List S38) (r2 : Int) (w : World) (hT : Lt w) (hr0 : Kd.C k38 w A0 l0.length l0) (hc0 : l0.length ≤ c0) (h : load_Settle.f l0 a1 = some (r1, r2)) :
    Calls Tryd.prog 25 #[.slice A0 l0.length c0, .int .u64 a1] w fun e w' => ∃ v0_ : Value, e = .returned (.tuple #[v0_, .int .i64 r2]) ∧ Kd.R k38 38 w' w.heap.size (fun _ => True) v0_ r1 ∧ Below w.heap.size w w' := by
  unfold load_Settle.f at h
  split at h
  · rename_i hb
    obtain ⟨x, rfl⟩ := Int.eq_ofNat_of_zero_le hb.1.1
    have h1 := Option.some.inj h
    rw [Int.toNat_natCast] at h1
    simp only [Prod.mk.injEq] at h1
    obtain ⟨rfl, rfl⟩ := h1
    exact set_calls A0 c0 l0 x (by have := hb.1.2; omega) w hT hr0 hb.2.1 hb.2.2
  · cases h
end Go.Proofs.YtgkmipfcadiobaaDoor.GivenL
set_option linter.unusedVariables false
namespace Go.Proofs.YtgkmipfcadiobaaDoor
open Go Go.Shelf Go.RowKit Go.Sort Pl
open Go.Proofs.YtgkmipfcadiobaaDoor.GA (S38 k38)
open Go.Proofs.YtgkmipfcadiobaaDoor.GivenL
def insF {α : Type} (lt : α → α → Bool) (x : α) : List α → List α
  | [] => [x]
  | y :: ys => if lt y x = true then y :: insF lt x ys else x :: y :: ys
def stF {α : Type} (lt : α → α → Bool) (xs : List α) : List α := xs.foldr (insF lt) []
theorem mrg_one {α : Type} (lt : α → α → Bool) (x : α) : ∀ ys : List α, mrg lt [x] ys = insF lt x ys
  | [] => mrg_nil_right lt [x]
  | y :: ys => by
    rw [mrg_cons, insF, mrg_one lt x ys, mrg_nil_left]
theorem stL_eq {α : Type} {lt : α → α → Bool} (H : SWO lt) : ∀ xs : List α, stL lt xs = stF lt xs
  | [] => rfl
  | x :: xs => by rw [stL_cons H, stL_eq H xs, mrg_one]; rfl
theorem balO_eq (l : List S38) (x : Nat) : balO l x = (stF (ltOf (cfC (loadsL l 64))) (coresF x)).findSome? fun c => (stF (ltOf cfS) l).findSome? (tryS (loadsL l 64) x ((c.val : Nat) : Int)) := by
  unfold balO
  rw [stL_eq (cfC_swo _), stL_eq cfS_swo]
def ex3 : List S38 := [⟨1, 0, 3⟩, ⟨2, 0, 3⟩, ⟨3, 0, 3⟩]
def ex3b : List S38 := [⟨1, 1, 3⟩, ⟨2, 0, 3⟩, ⟨3, 0, 3⟩]
theorem bal_ex : balO ex3 3 = some (1, 1) := by rw [balO_eq]; decide +kernel
theorem bal_ex2 : balO ex3b 3 = none := by rw [balO_eq]; decide +kernel
theorem set_ex : settleF 3 201 ex3 0 = (ex3b, 1) := by
  rw [settleF, bal_ex]
  show settleF 3 200 ex3b 1 = _
  rw [settleF, bal_ex2]
end Go.Proofs.YtgkmipfcadiobaaDoor
