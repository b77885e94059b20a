/- slices.SortStableFunc at seats: the row holds the stable sort of what it held. slices.stableCmpFunc and slices.SortStableFunc at seats: the row holds the stable sort of what it held. slices.SortStableFunc at int: the row holds the stable sort of what it held. slices.stableCmpFunc and slices.SortStableFunc at int: the row holds the stable sort of what it held. -/
import Derived.Test.YtgkmipfcadiobaaDoorLC
import Derived.Test.YtgkmipfcadiobaaDoorLB
import Derived.Test.YtgkmipfcadiobaaDoorLD
set_option linter.unusedVariables false
namespace Go.Proofs.YtgkmipfcadiobaaDoor
open Go Go.Shelf Go.RowKit Go.Lib Go.Sort
variable {α : Type} [Inhabited α]
theorem e95 : ∀ args w, (callFunc 95 args).run Tryd.prog w = .ok (.enter 95 args) w := enters_of Tryd.func95 (by kernel_rfl) rfl
theorem e84 : ∀ args w, (callFunc 84 args).run Tryd.prog w = .ok (.enter 84 args) w := enters_of Tryd.func84 (by kernel_rfl) rfl
theorem symQ (enc : α → List Value) (cf : α → α → Int) (g : Nat) (cb : Array Value) (blk off cap : Nat) (d0 : Array α) (w0 : World)
    (eg : ∀ args w, (callFunc g args).run Tryd.prog w = .ok (.enter g args) w) (hcmp : CmpLays Tryd.prog g cb enc 3 cf blk off d0.size w0) (R : RowK enc 3 w0 blk off d0) (hsz : d0.size < 2305843009213693952) :
    ∀ (f a m b : Nat) (d : Array α) (w : World), b - a ≤ f → d.size = d0.size → SWK enc 3 w0 blk off d w → a < m → m < b → b ≤ d0.size →
    Calls Tryd.prog 84 #[.slice (some ⟨blk, off, none⟩) d0.size cap, .int .i64 a, .int .i64 m, .int .i64 b, .func (.func g) #[] cb] w fun e' w' => e' = .returned (.tuple #[]) ∧ SWK enc 3 w0 blk off (symM (ltOf cf) f a m b d) w'
  | 0, a, m, b, d, w, hf, hs, S, h1, h2, hb => by omega
  | f + 1, a, m, b, d, w, hf, hs, S, h1, h2, hb => by
    by_cases c1 : m - a = 1
    · have := symQ_one layQS enc cf g cb blk off cap a m b d0 d w0 w eg hcmp R hs.symm S (by omega) (by omega) h2 (by omega) (by omega)
      rw [hs] at this
      rw [symM, if_pos c1]
      exact this
    · by_cases c2 : b - m = 1
      · have := symQ_last layQS enc cf g cb blk off cap a m b d0 d w0 w eg hcmp R hs.symm S (by omega) (by omega) (by omega) (by omega) (by omega)
        rw [hs] at this
        rw [symM, if_neg c1, if_pos c2]
        exact this
      · have rot : ∀ (s m e : Nat) (d : Array α) (w : World), d.size = d0.size → SWK enc 3 w0 blk off d w → s < m → m < e → e ≤ d0.size → Calls Tryd.prog 95 #[.slice (some ⟨blk, off, none⟩) d0.size cap, .int .i64 s, .int .i64 m, .int .i64 e, .func (.func g) #[] cb] w fun e' w' => e' = .returned (.tuple #[]) ∧ SWK enc 3 w0 blk off (rotG m ((m - s) + (e - m)) (m - s) (e - m) d) w' := by
          intro s m e d w hs S h1 h2 hb
          have := rotateQ enc (.func (.func g) #[] cb) blk off cap s m e d0 d w0 w R hs.symm S h1 h2 (by omega) (by omega)
          rw [hs] at this
          exact this
        by_cases c3 : (a + b) / 2 < m
        · exact symQ_hi layQS enc cf g cb blk off cap a m b f ((a + b) / 2) d0 d w0 w eg hcmp R hs S (by omega) (by omega) hb hsz rfl c3 hf e95 e84 rot (symQ enc cf g cb blk off cap d0 w0 eg hcmp R hsz f)
        · exact symQ_lo layQS enc cf g cb blk off cap a m b f ((a + b) / 2) d0 d w0 w eg hcmp R hs S (by omega) (by omega) hb hsz rfl (by omega) hf e95 e84 rot (symQ enc cf g cb blk off cap d0 w0 eg hcmp R hsz f)
theorem size_insInner (lt : α → α → Bool) (a : Nat) : ∀ (j : Nat) (d : Array α), (insInner lt a j d).size = d.size
  | 0, _ => rfl
  | j + 1, d => by
    rw [insInner]
    split
    · rw [size_insInner lt a j, size_swp]
    · rfl
theorem size_insOuter (lt : α → α → Bool) (a b : Nat) : ∀ (n i : Nat) (d : Array α), b - i = n → (insOuter lt a b i d).size = d.size
  | 0, i, d, h => by rw [insOuter, if_neg (by omega)]
  | n + 1, i, d, h => by rw [insOuter, if_pos (by omega), size_insOuter lt a b n (i + 1) _ (by omega), size_insInner]
theorem size_insertionSort (lt : α → α → Bool) (a b : Nat) (d : Array α) : (insertionSort lt d a b).size = d.size := size_insOuter lt a b _ _ d rfl
/-- slices.insertionSortCmpFunc at seats, from a world of the sort's to a world of the sort's. -/
theorem insQ (enc : α → List Value) (cf : α → α → Int) (g : Nat) (cb : Array Value) (blk off cap a b : Nat) (d0 d : Array α) (w0 w : World)
    (eg : ∀ args w, (callFunc g args).run Tryd.prog w = .ok (.enter g args) w) (hcmp : CmpLays Tryd.prog g cb enc 3 cf blk off d0.size w0) (R : RowK enc 3 w0 blk off d0) (hsz : d0.size < 2305843009213693952)
    (hs : d.size = d0.size) (S : SWK enc 3 w0 blk off d w) (hab : a ≤ b) (hb : b ≤ d0.size) :
    Calls Tryd.prog 83 #[.slice (some ⟨blk, off, none⟩) d0.size cap, .int .i64 a, .int .i64 b, .func (.func g) #[] cb] w fun e w' => e = .returned (.tuple #[]) ∧ SWK enc 3 w0 blk off (insertionSort (ltOf cf) d a b) w' := by
  have hC : CmpLays Tryd.prog g cb enc 3 cf blk off d.size w := fun m os dk hdk x y => by
    obtain ⟨n0, os0, rfl⟩ := S
    rw [sortWorldK_on enc 3 w0 blk off n0 m d dk os0 os R.hblk hdk]
    exact hcmp _ _ dk (by omega) x y
  have := AnyQ.insertionSortCmpFunc Tryd.laysSort83 3 (by exact Tryd.isAgg38) (by exact Tryd.sizeOf38) enc R.hk R.h1 cf g cb blk off cap a b d w eg hC (S.holds R.hblk R.hH hs) (S.lt R.hblk) hab (by omega) (by omega)
  rw [hs] at this
  refine Calls.mono this ?_
  rintro e w' ⟨rfl, n, os, rfl⟩
  exact ⟨rfl, S.on R.hblk n _ os (size_insertionSort ..)⟩
/-- The blocks of a list, each sorted. -/
def blkS (lt : α → α → Bool) (s : Nat) (xs : List α) : List α := if h : 0 < s ∧ s ≤ xs.length then stL lt (xs.take s) ++ blkS lt s (xs.drop s) else stL lt xs
termination_by xs.length
decreasing_by simp; omega
theorem blkS_lt {β : Type} (lt : β → β → Bool) {s : Nat} {xs : List β} (h : xs.length < s) : blkS lt s xs = stL lt xs := by rw [blkS, dif_neg (by omega)]
theorem blkS_app {β : Type} (lt : β → β → Bool) {s : Nat} {xs ys : List β} (h : xs.length = s) (h0 : 0 < s) : blkS lt s (xs ++ ys) = stL lt xs ++ blkS lt s ys := by
  rw [blkS, dif_pos ⟨h0, by simp; omega⟩, List.take_append_of_le_length (by omega), List.take_of_length_le (by omega), List.drop_append_of_le_length (by omega), List.drop_of_length_le (by omega), List.nil_append]
theorem blkS_le {β : Type} {lt : β → β → Bool} {s : Nat} {xs : List β} (h : xs.length ≤ s) (h0 : 0 < s) : blkS lt s xs = stL lt xs := by
  by_cases e : xs.length = s
  · have := blkS_app lt (ys := []) e h0
    rwa [List.append_nil, blkS_lt lt (xs := []) (by simpa using h0), stL_nil, List.append_nil] at this
  · exact blkS_lt lt (by omega)
theorem length_blkS {β : Type} {lt : β → β → Bool} (H : SWO lt) (s : Nat) (xs : List β) : (blkS lt s xs).length = xs.length := by
  induction h : xs.length using Nat.strongRecOn generalizing xs with
  | ind n ih =>
    rw [blkS]
    split
    · rename_i hc
      rw [List.length_append, stL_length H, ih (xs.drop s).length (by simp; omega) _ rfl]
      simp; omega
    · rw [stL_length H, h]
end Go.Proofs.YtgkmipfcadiobaaDoor
set_option linter.unusedVariables false
namespace Go.Proofs.YtgkmipfcadiobaaDoor
open Go Go.Shelf Go.RowKit Go.Lib Go.Sort
variable {α : Type} [Inhabited α]
theorem toList_eq_self {β : Type} {d : Array β} {l : List β} (h : d.toList = l) : d = l.toArray := by subst h; rfl
theorem blk1 {lt : α → α → Bool} (H : SWO lt) {dk : Array α} {P Q X : List α} {a b : Nat} (h : dk.toList = P ++ Q) (ha : P.length = a) (hb : b = a + 20) (hQ : 20 ≤ Q.length) (hT : P ++ blkS lt 20 Q = X) :
    ∃ P2 Q2, (insertionSort lt dk a b).toList = P2 ++ Q2 ∧ P2.length = b ∧ Q2.length + 20 = Q.length ∧ P2 ++ blkS lt 20 Q2 = X := by
  obtain ⟨Q1, Q2, rfl, h1, h2⟩ := split_at Q 20 hQ
  refine ⟨P ++ stL lt Q1, Q2, ?_, ?_, ?_, ?_⟩
  · rw [insertionSort_fr H (A := P) (X := Q1) (B := Q2) h ha.symm (by omega)]; simp
  · rw [List.length_append, stL_length H]; omega
  · simp; omega
  · rw [← hT, blkS_app lt h1 (by omega)]; simp
theorem blk2 {lt : α → α → Bool} (H : SWO lt) {dk : Array α} {P Q X : List α} {a n : Nat} (h : dk.toList = P ++ Q) (ha : P.length = a) (hn : a + Q.length = n) (hQ : Q.length < 20) (hT : P ++ blkS lt 20 Q = X) :
    (insertionSort lt dk a n).toList = X := by
  have := insertionSort_fr H (A := P) (X := Q) (B := []) (by simpa using h) ha.symm hn.symm
  rw [this, ← hT, blkS_lt lt hQ]; simp
theorem mrg3 {lt : α → α → Bool} (H : SWO lt) {dk : Array α} {P Q X : List α} {a m b s s2 f : Nat} (h : dk.toList = P ++ blkS lt s Q) (ha : P.length = a) (hm : m = a + s) (hb : b = a + s2) (hs2 : s2 = 2 * s) (h0 : 0 < s) (hQ : s2 ≤ Q.length) (hf : b - a ≤ f) (hT : P ++ blkS lt s2 Q = X) :
    ∃ P2 Q2, (symM lt f a m b dk).toList = P2 ++ blkS lt s Q2 ∧ P2.length = b ∧ Q2.length + s2 = Q.length ∧ P2 ++ blkS lt s2 Q2 = X := by
  obtain ⟨Q12, Q3, rfl, h12, h3⟩ := split_at Q s2 hQ
  obtain ⟨Q1, Q2, rfl, h1, h2⟩ := split_at Q12 s (by omega)
  have e1 : blkS lt s (Q1 ++ Q2 ++ Q3) = stL lt Q1 ++ (stL lt Q2 ++ blkS lt s Q3) := by rw [List.append_assoc, blkS_app lt h1 h0, blkS_app lt (by omega) h0]
  refine ⟨P ++ stL lt (Q1 ++ Q2), Q3, ?_, ?_, ?_, ?_⟩
  · have := symM_fr H f a m b dk P (stL lt Q1) (stL lt Q2) (blkS lt s Q3) (by rw [h, e1]) ha.symm (by rw [stL_length H]; omega) (by rw [stL_length H]; omega) (by rw [stL_length H]; omega) (by rw [stL_length H]; omega) (stL_srt H _) (stL_srt H _) hf
    rw [this, stL_append H]; simp
  · rw [List.length_append, stL_length H]; simp at h12 ⊢; omega
  · simp at h12 ⊢; omega
  · rw [← hT, blkS_app lt h12 (by omega)]; simp
theorem mrg2 {lt : α → α → Bool} (H : SWO lt) {dk : Array α} {P Q X : List α} {a m n s s2 f : Nat} (h : dk.toList = P ++ blkS lt s Q) (ha : P.length = a) (hm : m = a + s) (hn : n = a + Q.length) (hs2 : s2 = 2 * s) (h0 : 0 < s) (hQ : s < Q.length) (hQ2 : Q.length < s2) (hf : n - a ≤ f) (hT : P ++ blkS lt s2 Q = X) :
    (symM lt f a m n dk).toList = X := by
  obtain ⟨Q1, Q2, rfl, h1, h2⟩ := split_at Q s (by omega)
  have := symM_fr H f a m n dk P (stL lt Q1) (stL lt Q2) [] (by rw [h, blkS_app lt h1 h0, blkS_lt lt (by simp at hQ2; omega)]; simp) ha.symm (by rw [stL_length H]; omega) (by rw [stL_length H]; omega) (by rw [stL_length H]; omega) (by rw [stL_length H]; omega) (stL_srt H _) (stL_srt H _) hf
  rw [this, ← hT, blkS_lt lt hQ2, stL_append H]; simp
theorem mrg1 {β : Type} {lt : β → β → Bool} {dk : Array β} {P Q X : List β} {s s2 : Nat} (h : dk.toList = P ++ blkS lt s Q) (hs2 : s2 = 2 * s) (h0 : 0 < s) (hQ : Q.length ≤ s) (hT : P ++ blkS lt s2 Q = X) : dk.toList = X := by
  rw [h, ← hT, blkS_le hQ h0, blkS_lt lt (by omega)]
set_option maxHeartbeats 16000000 in
set_option maxRecDepth 1000000 in
theorem stableQ (enc : α → List Value) (cf : α → α → Int) (H : SWO (ltOf cf)) (g : Nat) (cb : Array Value) (blk off cap : Nat) (d0 : Array α) (w0 w : World)
    (eg : ∀ args w, (callFunc g args).run Tryd.prog w = .ok (.enter g args) w) (hcmp : CmpLays Tryd.prog g cb enc 3 cf blk off d0.size w0) (R : RowK enc 3 w0 blk off d0) (hsz : d0.size < 1000000000000) (S : SWK enc 3 w0 blk off d0 w) :
    Calls Tryd.prog 71 #[.slice (some ⟨blk, off, none⟩) d0.size cap, .int .i64 d0.size, .func (.func g) #[] cb] w fun e' w' => e' = .returned (.tuple #[]) ∧ SWK enc 3 w0 blk off (stL (ltOf cf) d0.toList).toArray w' := by
  have HINS : Aside _ := fun a b d w => insQ enc cf g cb blk off cap a b d0 d w0 w eg hcmp R (by omega)
  have HSYM : Aside _ := fun f a m b d w => symQ enc cf g cb blk off cap d0 w0 eg hcmp R (by omega) f a m b d w
  have S0 : Aside (SWK enc 3 w0 blk off d0 w) := S
  have HL : Hid (d0.toList.length = d0.size) := Array.length_toList
  have hd0 : Hid (∀ d : Array α, d.toList.length = d.size) := fun d => Array.length_toList
  obtain ⟨N, hN⟩ : ∃ n, n = d0.size := ⟨_, rfl⟩
  rw [← hN] at HL HINS HSYM hsz ⊢
  obtain ⟨X, hX⟩ : ∃ x, x = d0.toList := ⟨_, rfl⟩
  rw [← hX] at HL ⊢
  have HX : Hid (d0.toList = X) := hX.symm
  clear S hcmp R hN hX
  go_enter Tryd.func71, Tryd.ntmps71
  go_wp2
  go_loopg [7, 8] N (fun kx s7 s8 wr => ∃ (a b : Nat) (P Q : List α) (dk : Array α), s7 = .int .i64 a ∧ s8 = .int .i64 b ∧ b ≤ a + 20 ∧ a + 20 ≤ b ∧ a + Q.length ≤ N ∧ N ≤ a + Q.length ∧ Q.length ≤ kx ∧
    Hid (P.length = a) ∧ Hid (dk.toList = P ++ Q) ∧ Aside (SWK enc 3 w0 blk off dk wr) ∧ Hid (P ++ blkS (ltOf cf) 20 Q = blkS (ltOf cf) 20 X))
  case atStart => exact ⟨0, 20, [], X, d0, by first | rfl | go_num, by first | rfl | go_num, by omega, by omega, by have := HL.out; omega, by have := HL.out; omega, by have := HL.out; omega, (show Hid _ from rfl), (show Hid _ from HX.out), S0, (show Hid _ from rfl)⟩
  case round =>
    clear S0
    obtain ⟨a, b, P, Q, dk, rfl, rfl, hb1, hb2, hn1, hn2, hk, hP, hdk, S1, heq⟩ := hrel
    have hds : Hid (dk.toList.length = dk.size) := hd0.out dk
    have hdz : Hid (dk.size = N) := by have := hds.out; rw [hdk.out, List.length_append, hP.out] at this; show _ = _; omega
    by_cases hlt : (b : Int) ≤ (N : Int)
    · have e1 : IntKind.i64.wrap ((b : Int) + 20) = ((b + 20 : Nat) : Int) := by rw [IntKind.wrap_i64]; omega
      have C := HINS.out a b dk wr hdz.out S1.out (by omega) (by omega)
      have HC := (show Hid _ from C)
      clear C S1
      go_wp2_with (go_at_call 83; refine Calls.mono (Hid.out HC) ?_; rintro e w' ⟨rfl, S2⟩)
      have S3 : Aside (SWK enc 3 w0 blk off (insertionSort (ltOf cf) dk a b) w') := S2
      clear S2 HC
      obtain ⟨P2, Q2, k1, k2, k3, k4⟩ := blk1 H hdk.out hP.out (by omega : b = a + 20) (by omega) heq.out
      obtain ⟨j, rfl⟩ : ∃ j, gk = j + 1 := ⟨gk - 1, by omega⟩
      go_roundg j
      case measure => omega
      case rel => exact ⟨b, b + 20, P2, Q2, insertionSort (ltOf cf) dk a b, rfl, by first | rfl | go_num, by omega, by omega, by omega, by omega, by omega, (show Hid _ from k2), (show Hid _ from k1), S3, (show Hid _ from k4)⟩
    · have C := HINS.out a N dk wr hdz.out S1.out (by omega) (by omega)
      have HC := (show Hid _ from C)
      clear C S1
      go_wp2_with (go_at_call 83; refine Calls.mono (Hid.out HC) ?_; rintro e w' ⟨rfl, S2⟩)
      have S3 : Aside (SWK enc 3 w0 blk off (insertionSort (ltOf cf) dk a N) w') := S2
      clear S2 HC
      have k1 : Hid ((insertionSort (ltOf cf) dk a N).toList = blkS (ltOf cf) 20 X) := blk2 H hdk.out hP.out (by omega) (by omega) heq.out
      generalize insertionSort (ltOf cf) dk a N = d1 at S3 k1
      clear hds hdz hdk heq hP
      go_loopg [6, 7, 8, 9] N (fun kx s6 s7 s8 s9 wr => ∃ (s : Nat) (dj : Array α), s6 = .int .i64 s ∧ 1 ≤ s ∧ s ≤ 2 * N + 20 ∧ N ≤ s + kx ∧
        Hid (dj.toList = blkS (ltOf cf) s X) ∧ Aside (SWK enc 3 w0 blk off dj wr))
      case atStart => exact ⟨20, d1, by first | rfl | go_num, by omega, by omega, by omega, k1, S3⟩
      case round =>
        clear S3 k1
        obtain ⟨s, dj, rfl, hs1, hs2, hsk, hdj, S1⟩ := hrel
        by_cases hlt2 : (s : Int) < (N : Int)
        · obtain ⟨jo, rfl⟩ : ∃ j, gk = j + 1 := ⟨gk - 1, by omega⟩
          obtain ⟨s2, hs22⟩ : ∃ t, t = 2 * s := ⟨_, rfl⟩
          have e1 : IntKind.i64.wrap (2 * (s : Int)) = (s2 : Int) := by rw [IntKind.wrap_i64]; omega
          have e2 : IntKind.i64.wrap ((s : Int) * 2) = (s2 : Int) := by rw [IntKind.wrap_i64]; omega
          have HS2 : Hid (s2 = 2 * s) := hs22
          have hs3 : 2 * s ≤ s2 := by omega
          have hs4 : s2 ≤ 2 * s := by omega
          clear hs22
          go_wp2_with fail
          go_loopg [7, 8] N (fun kx s7 s8 wr => ∃ (a b : Nat) (P Q : List α) (dk : Array α), s7 = .int .i64 a ∧ s8 = .int .i64 b ∧ b ≤ a + s2 ∧ a + s2 ≤ b ∧ a + Q.length ≤ N ∧ N ≤ a + Q.length ∧ Q.length ≤ kx ∧
            Hid (P.length = a) ∧ Hid (dk.toList = P ++ blkS (ltOf cf) s Q) ∧ Aside (SWK enc 3 w0 blk off dk wr) ∧ Hid (P ++ blkS (ltOf cf) s2 Q = blkS (ltOf cf) s2 X))
          case atStart => exact ⟨0, s2, [], X, dj, by first | rfl | go_num, by first | rfl | go_num, by omega, by omega, by have := HL.out; omega, by have := HL.out; omega, by have := HL.out; omega, (show Hid _ from rfl), (show Hid _ from hdj.out), S1, (show Hid _ from rfl)⟩
          case round =>
            clear S1
            obtain ⟨a, b, P, Q, dk, rfl, rfl, hb1, hb2, hn1, hn2, hk, hP, hdk, S1, heq⟩ := hrel
            have hds : Hid (dk.toList.length = dk.size) := hd0.out dk
            have hdz : Hid (dk.size = N) := by have := hds.out; rw [hdk.out, List.length_append, hP.out, length_blkS H] at this; show _ = _; omega
            have e3 : IntKind.i64.wrap ((a : Int) + (s : Int)) = ((a + s : Nat) : Int) := by rw [IntKind.wrap_i64]; omega
            by_cases hlt3 : (b : Int) ≤ (N : Int)
            · have e4 : IntKind.i64.wrap ((b : Int) + (s2 : Int)) = ((b + s2 : Nat) : Int) := by rw [IntKind.wrap_i64]; omega
              have C := HSYM.out N a (a + s) b dk wr (by omega) hdz.out S1.out (by omega) (by omega) (by omega)
              have HC := (show Hid _ from C)
              clear C S1
              go_wp2_with (go_at_call 84; refine Calls.mono (Hid.out HC) ?_; rintro e w' ⟨rfl, S2⟩)
              have S3 : Aside (SWK enc 3 w0 blk off (symM (ltOf cf) N a (a + s) b dk) w') := S2
              clear S2 HC
              obtain ⟨P2, Q2, k1, k2, k3, k4⟩ := mrg3 H (f := N) hdk.out hP.out rfl (by omega : b = a + s2) HS2.out (by omega) (by omega) (by omega) heq.out
              obtain ⟨j, rfl⟩ : ∃ j, gk = j + 1 := ⟨gk - 1, by omega⟩
              go_roundg j
              case measure => omega
              case rel => exact ⟨b, b + s2, P2, Q2, symM (ltOf cf) N a (a + s) b dk, rfl, by first | rfl | go_num, by omega, by omega, by omega, by omega, by omega, (show Hid _ from k2), (show Hid _ from k1), S3, (show Hid _ from k4)⟩
            · by_cases hlt4 : ((a + s : Nat) : Int) < (N : Int)
              · have C := HSYM.out N a (a + s) N dk wr (by omega) hdz.out S1.out (by omega) (by omega) (by omega)
                have HC := (show Hid _ from C)
                clear C S1
                go_wp2_with (go_at_call 84; refine Calls.mono (Hid.out HC) ?_; rintro e w' ⟨rfl, S2⟩)
                have S3 : Aside (SWK enc 3 w0 blk off (symM (ltOf cf) N a (a + s) N dk) w') := S2
                clear S2 HC
                have k1 := mrg2 H (f := N) hdk.out hP.out rfl (by omega : N = a + Q.length) HS2.out (by omega) (by omega) (by omega) (by omega) heq.out
                go_roundg jo
                case measure => omega
                case rel => exact ⟨s2, symM (ltOf cf) N a (a + s) N dk, rfl, by omega, by omega, by omega, (show Hid _ from k1), S3⟩
              · have k1 := mrg1 hdk.out HS2.out (by omega) (by omega) heq.out
                go_wp2
                go_roundg jo
                case measure => omega
                case rel => exact ⟨s2, dk, rfl, by omega, by omega, by omega, (show Hid _ from k1), S1⟩
        · go_wp2
          go_end0
          refine ⟨rfl, ?_⟩
          have : dj.toList = stL (ltOf cf) X := by rw [hdj.out, blkS_le (by have := HL.out; omega) (by omega)]
          rw [← toList_eq_self this]
          exact S1.out
/-- slices.SortStableFunc at seats. -/
theorem sortStableQ (enc : α → List Value) (cf : α → α → Int) (H : SWO (ltOf cf)) (g : Nat) (cb : Array Value) (blk off cap : Nat) (d0 : Array α) (w0 w : World)
    (eg : ∀ args w, (callFunc g args).run Tryd.prog w = .ok (.enter g args) w) (hcmp : CmpLays Tryd.prog g cb enc 3 cf blk off d0.size w0) (R : RowK enc 3 w0 blk off d0) (hsz : d0.size < 1000000000000) (S : SWK enc 3 w0 blk off d0 w) :
    Calls Tryd.prog 54 #[.slice (some ⟨blk, off, none⟩) d0.size cap, .func (.func g) #[] cb] w fun e' w' => e' = .returned (.tuple #[]) ∧ SWK enc 3 w0 blk off (stL (ltOf cf) d0.toList).toArray w' := by
  have C := stableQ enc cf H g cb blk off cap d0 w0 w eg hcmp R hsz S
  have HC := (show Hid _ from C)
  clear C S hcmp R
  generalize d0.size = N at HC hsz ⊢
  go_enter Tryd.func54, Tryd.ntmps54
  go_wp2_with (go_at_call 71; refine Calls.mono (Hid.out HC) ?_; rintro e w' ⟨rfl, S2⟩)
  go_end0
  exact ⟨rfl, S2⟩
end Go.Proofs.YtgkmipfcadiobaaDoor
set_option linter.unusedVariables false
namespace Go.Proofs.YtgkmipfcadiobaaDoor
open Go Go.Shelf Go.RowKit Go.Lib Go.Sort
variable {α : Type} [Inhabited α]
theorem e94 : ∀ args w, (callFunc 94 args).run Tryd.prog w = .ok (.enter 94 args) w := enters_of Tryd.func94 (by kernel_rfl) rfl
theorem e82 : ∀ args w, (callFunc 82 args).run Tryd.prog w = .ok (.enter 82 args) w := enters_of Tryd.func82 (by kernel_rfl) rfl
theorem sym1 (enc : α → Value) (cf : α → α → Int) (g : Nat) (cb : Array Value) (blk off cap : Nat) (d0 : Array α) (w0 : World)
    (eg : ∀ args w, (callFunc g args).run Tryd.prog w = .ok (.enter g args) w) (hcmp : CmpLays1 Tryd.prog g cb enc cf blk off d0.size w0) (R : Row1 enc w0 blk off d0) (hsz : d0.size < 2305843009213693952) :
    ∀ (f a m b : Nat) (d : Array α) (w : World), b - a ≤ f → d.size = d0.size → SW enc w0 blk off d w → a < m → m < b → b ≤ d0.size →
    Calls Tryd.prog 82 #[.slice (some ⟨blk, off, none⟩) d0.size cap, .int .i64 a, .int .i64 m, .int .i64 b, .func (.func g) #[] cb] w fun e' w' => e' = .returned (.tuple #[]) ∧ SW enc w0 blk off (symM (ltOf cf) f a m b d) w'
  | 0, a, m, b, d, w, hf, hs, S, h1, h2, hb => by omega
  | f + 1, a, m, b, d, w, hf, hs, S, h1, h2, hb => by
    by_cases c1 : m - a = 1
    · have := sym1_one layIS enc cf g cb blk off cap a m b d0 d w0 w eg hcmp R hs.symm S (by omega) (by omega) h2 (by omega) (by omega)
      rw [hs] at this
      rw [symM, if_pos c1]
      exact this
    · by_cases c2 : b - m = 1
      · have := sym1_last layIS enc cf g cb blk off cap a m b d0 d w0 w eg hcmp R hs.symm S (by omega) (by omega) (by omega) (by omega) (by omega)
        rw [hs] at this
        rw [symM, if_neg c1, if_pos c2]
        exact this
      · have rot : ∀ (s m e : Nat) (d : Array α) (w : World), d.size = d0.size → SW enc w0 blk off d w → s < m → m < e → e ≤ d0.size → Calls Tryd.prog 94 #[.slice (some ⟨blk, off, none⟩) d0.size cap, .int .i64 s, .int .i64 m, .int .i64 e, .func (.func g) #[] cb] w fun e' w' => e' = .returned (.tuple #[]) ∧ SW enc w0 blk off (rotG m ((m - s) + (e - m)) (m - s) (e - m) d) w' := by
          intro s m e d w hs S h1 h2 hb
          have := rotate1 enc (.func (.func g) #[] cb) blk off cap s m e d0 d w0 w R hs.symm S h1 h2 (by omega) (by omega)
          rw [hs] at this
          exact this
        by_cases c3 : (a + b) / 2 < m
        · exact sym1_hi layIS enc cf g cb blk off cap a m b f ((a + b) / 2) d0 d w0 w eg hcmp R hs S (by omega) (by omega) hb hsz rfl c3 hf e94 e82 rot (sym1 enc cf g cb blk off cap d0 w0 eg hcmp R hsz f)
        · exact sym1_lo layIS enc cf g cb blk off cap a m b f ((a + b) / 2) d0 d w0 w eg hcmp R hs S (by omega) (by omega) hb hsz rfl (by omega) hf e94 e82 rot (sym1 enc cf g cb blk off cap d0 w0 eg hcmp R hsz f)
/-- slices.insertionSortCmpFunc at int, from a world of the sort's to a world of the sort's. -/
theorem ins1 (enc : α → Value) (cf : α → α → Int) (g : Nat) (cb : Array Value) (blk off cap a b : Nat) (d0 d : Array α) (w0 w : World)
    (eg : ∀ args w, (callFunc g args).run Tryd.prog w = .ok (.enter g args) w) (hcmp : CmpLays1 Tryd.prog g cb enc cf blk off d0.size w0) (R : Row1 enc w0 blk off d0) (hsz : d0.size < 2305843009213693952)
    (hs : d.size = d0.size) (S : SW enc w0 blk off d w) (hab : a ≤ b) (hb : b ≤ d0.size) :
    Calls Tryd.prog 81 #[.slice (some ⟨blk, off, none⟩) d0.size cap, .int .i64 a, .int .i64 b, .func (.func g) #[] cb] w fun e w' => e = .returned (.tuple #[]) ∧ SW enc w0 blk off (insertionSort (ltOf cf) d a b) w' := by
  have := Any.insertionSortCmpFunc_s Tryd.laysSort81 enc cf g cb blk off cap a b d0 d w0 w eg hcmp R hs.symm S hab (by omega) (by omega)
  rw [hs] at this
  exact this
end Go.Proofs.YtgkmipfcadiobaaDoor
set_option linter.unusedVariables false
namespace Go.Proofs.YtgkmipfcadiobaaDoor
open Go Go.Shelf Go.RowKit Go.Lib Go.Sort
variable {α : Type} [Inhabited α]
set_option maxHeartbeats 16000000 in
set_option maxRecDepth 1000000 in
theorem stable1 (enc : α → Value) (cf : α → α → Int) (H : SWO (ltOf cf)) (g : Nat) (cb : Array Value) (blk off cap : Nat) (d0 : Array α) (w0 w : World)
    (eg : ∀ args w, (callFunc g args).run Tryd.prog w = .ok (.enter g args) w) (hcmp : CmpLays1 Tryd.prog g cb enc cf blk off d0.size w0) (R : Row1 enc w0 blk off d0) (hsz : d0.size < 1000000000000) (S : SW enc w0 blk off d0 w) :
    Calls Tryd.prog 69 #[.slice (some ⟨blk, off, none⟩) d0.size cap, .int .i64 d0.size, .func (.func g) #[] cb] w fun e' w' => e' = .returned (.tuple #[]) ∧ SW enc w0 blk off (stL (ltOf cf) d0.toList).toArray w' := by
  have HINS : Aside _ := fun a b d w => ins1 enc cf g cb blk off cap a b d0 d w0 w eg hcmp R (by omega)
  have HSYM : Aside _ := fun f a m b d w => sym1 enc cf g cb blk off cap d0 w0 eg hcmp R (by omega) f a m b d w
  have S0 : Aside (SW enc w0 blk off d0 w) := S
  have HL : Hid (d0.toList.length = d0.size) := Array.length_toList
  have hd0 : Hid (∀ d : Array α, d.toList.length = d.size) := fun d => Array.length_toList
  obtain ⟨N, hN⟩ : ∃ n, n = d0.size := ⟨_, rfl⟩
  rw [← hN] at HL HINS HSYM hsz ⊢
  obtain ⟨X, hX⟩ : ∃ x, x = d0.toList := ⟨_, rfl⟩
  rw [← hX] at HL ⊢
  have HX : Hid (d0.toList = X) := hX.symm
  clear S hcmp R hN hX
  go_enter Tryd.func69, Tryd.ntmps69
  go_wp2
  go_loopg [7, 8] N (fun kx s7 s8 wr => ∃ (a b : Nat) (P Q : List α) (dk : Array α), s7 = .int .i64 a ∧ s8 = .int .i64 b ∧ b ≤ a + 20 ∧ a + 20 ≤ b ∧ a + Q.length ≤ N ∧ N ≤ a + Q.length ∧ Q.length ≤ kx ∧
    Hid (P.length = a) ∧ Hid (dk.toList = P ++ Q) ∧ Aside (SW enc w0 blk off dk wr) ∧ Hid (P ++ blkS (ltOf cf) 20 Q = blkS (ltOf cf) 20 X))
  case atStart => exact ⟨0, 20, [], X, d0, by first | rfl | go_num, by first | rfl | go_num, by omega, by omega, by have := HL.out; omega, by have := HL.out; omega, by have := HL.out; omega, (show Hid _ from rfl), (show Hid _ from HX.out), S0, (show Hid _ from rfl)⟩
  case round =>
    clear S0
    obtain ⟨a, b, P, Q, dk, rfl, rfl, hb1, hb2, hn1, hn2, hk, hP, hdk, S1, heq⟩ := hrel
    have hds : Hid (dk.toList.length = dk.size) := hd0.out dk
    have hdz : Hid (dk.size = N) := by have := hds.out; rw [hdk.out, List.length_append, hP.out] at this; show _ = _; omega
    by_cases hlt : (b : Int) ≤ (N : Int)
    · have e1 : IntKind.i64.wrap ((b : Int) + 20) = ((b + 20 : Nat) : Int) := by rw [IntKind.wrap_i64]; omega
      have C := HINS.out a b dk wr hdz.out S1.out (by omega) (by omega)
      have HC := (show Hid _ from C)
      clear C S1
      go_wp2_with (go_at_call 81; refine Calls.mono (Hid.out HC) ?_; rintro e w' ⟨rfl, S2⟩)
      have S3 : Aside (SW enc w0 blk off (insertionSort (ltOf cf) dk a b) w') := S2
      clear S2 HC
      obtain ⟨P2, Q2, k1, k2, k3, k4⟩ := blk1 H hdk.out hP.out (by omega : b = a + 20) (by omega) heq.out
      obtain ⟨j, rfl⟩ : ∃ j, gk = j + 1 := ⟨gk - 1, by omega⟩
      go_roundg j
      case measure => omega
      case rel => exact ⟨b, b + 20, P2, Q2, insertionSort (ltOf cf) dk a b, rfl, by first | rfl | go_num, by omega, by omega, by omega, by omega, by omega, (show Hid _ from k2), (show Hid _ from k1), S3, (show Hid _ from k4)⟩
    · have C := HINS.out a N dk wr hdz.out S1.out (by omega) (by omega)
      have HC := (show Hid _ from C)
      clear C S1
      go_wp2_with (go_at_call 81; refine Calls.mono (Hid.out HC) ?_; rintro e w' ⟨rfl, S2⟩)
      have S3 : Aside (SW enc w0 blk off (insertionSort (ltOf cf) dk a N) w') := S2
      clear S2 HC
      have k1 : Hid ((insertionSort (ltOf cf) dk a N).toList = blkS (ltOf cf) 20 X) := blk2 H hdk.out hP.out (by omega) (by omega) heq.out
      generalize insertionSort (ltOf cf) dk a N = d1 at S3 k1
      clear hds hdz hdk heq hP
      go_loopg [6, 7, 8, 9] N (fun kx s6 s7 s8 s9 wr => ∃ (s : Nat) (dj : Array α), s6 = .int .i64 s ∧ 1 ≤ s ∧ s ≤ 2 * N + 20 ∧ N ≤ s + kx ∧
        Hid (dj.toList = blkS (ltOf cf) s X) ∧ Aside (SW enc w0 blk off dj wr))
      case atStart => exact ⟨20, d1, by first | rfl | go_num, by omega, by omega, by omega, k1, S3⟩
      case round =>
        clear S3 k1
        obtain ⟨s, dj, rfl, hs1, hs2, hsk, hdj, S1⟩ := hrel
        by_cases hlt2 : (s : Int) < (N : Int)
        · obtain ⟨jo, rfl⟩ : ∃ j, gk = j + 1 := ⟨gk - 1, by omega⟩
          obtain ⟨s2, hs22⟩ : ∃ t, t = 2 * s := ⟨_, rfl⟩
          have e1 : IntKind.i64.wrap (2 * (s : Int)) = (s2 : Int) := by rw [IntKind.wrap_i64]; omega
          have e2 : IntKind.i64.wrap ((s : Int) * 2) = (s2 : Int) := by rw [IntKind.wrap_i64]; omega
          have HS2 : Hid (s2 = 2 * s) := hs22
          have hs3 : 2 * s ≤ s2 := by omega
          have hs4 : s2 ≤ 2 * s := by omega
          clear hs22
          go_wp2_with fail
          go_loopg [7, 8] N (fun kx s7 s8 wr => ∃ (a b : Nat) (P Q : List α) (dk : Array α), s7 = .int .i64 a ∧ s8 = .int .i64 b ∧ b ≤ a + s2 ∧ a + s2 ≤ b ∧ a + Q.length ≤ N ∧ N ≤ a + Q.length ∧ Q.length ≤ kx ∧
            Hid (P.length = a) ∧ Hid (dk.toList = P ++ blkS (ltOf cf) s Q) ∧ Aside (SW enc w0 blk off dk wr) ∧ Hid (P ++ blkS (ltOf cf) s2 Q = blkS (ltOf cf) s2 X))
          case atStart => exact ⟨0, s2, [], X, dj, by first | rfl | go_num, by first | rfl | go_num, by omega, by omega, by have := HL.out; omega, by have := HL.out; omega, by have := HL.out; omega, (show Hid _ from rfl), (show Hid _ from hdj.out), S1, (show Hid _ from rfl)⟩
          case round =>
            clear S1
            obtain ⟨a, b, P, Q, dk, rfl, rfl, hb1, hb2, hn1, hn2, hk, hP, hdk, S1, heq⟩ := hrel
            have hds : Hid (dk.toList.length = dk.size) := hd0.out dk
            have hdz : Hid (dk.size = N) := by have := hds.out; rw [hdk.out, List.length_append, hP.out, length_blkS H] at this; show _ = _; omega
            have e3 : IntKind.i64.wrap ((a : Int) + (s : Int)) = ((a + s : Nat) : Int) := by rw [IntKind.wrap_i64]; omega
            by_cases hlt3 : (b : Int) ≤ (N : Int)
            · have e4 : IntKind.i64.wrap ((b : Int) + (s2 : Int)) = ((b + s2 : Nat) : Int) := by rw [IntKind.wrap_i64]; omega
              have C := HSYM.out N a (a + s) b dk wr (by omega) hdz.out S1.out (by omega) (by omega) (by omega)
              have HC := (show Hid _ from C)
              clear C S1
              go_wp2_with (go_at_call 82; refine Calls.mono (Hid.out HC) ?_; rintro e w' ⟨rfl, S2⟩)
              have S3 : Aside (SW enc w0 blk off (symM (ltOf cf) N a (a + s) b dk) w') := S2
              clear S2 HC
              obtain ⟨P2, Q2, k1, k2, k3, k4⟩ := mrg3 H (f := N) hdk.out hP.out rfl (by omega : b = a + s2) HS2.out (by omega) (by omega) (by omega) heq.out
              obtain ⟨j, rfl⟩ : ∃ j, gk = j + 1 := ⟨gk - 1, by omega⟩
              go_roundg j
              case measure => omega
              case rel => exact ⟨b, b + s2, P2, Q2, symM (ltOf cf) N a (a + s) b dk, rfl, by first | rfl | go_num, by omega, by omega, by omega, by omega, by omega, (show Hid _ from k2), (show Hid _ from k1), S3, (show Hid _ from k4)⟩
            · by_cases hlt4 : ((a + s : Nat) : Int) < (N : Int)
              · have C := HSYM.out N a (a + s) N dk wr (by omega) hdz.out S1.out (by omega) (by omega) (by omega)
                have HC := (show Hid _ from C)
                clear C S1
                go_wp2_with (go_at_call 82; refine Calls.mono (Hid.out HC) ?_; rintro e w' ⟨rfl, S2⟩)
                have S3 : Aside (SW enc w0 blk off (symM (ltOf cf) N a (a + s) N dk) w') := S2
                clear S2 HC
                have k1 := mrg2 H (f := N) hdk.out hP.out rfl (by omega : N = a + Q.length) HS2.out (by omega) (by omega) (by omega) (by omega) heq.out
                go_roundg jo
                case measure => omega
                case rel => exact ⟨s2, symM (ltOf cf) N a (a + s) N dk, rfl, by omega, by omega, by omega, (show Hid _ from k1), S3⟩
              · have k1 := mrg1 hdk.out HS2.out (by omega) (by omega) heq.out
                go_wp2
                go_roundg jo
                case measure => omega
                case rel => exact ⟨s2, dk, rfl, by omega, by omega, by omega, (show Hid _ from k1), S1⟩
        · go_wp2
          go_end0
          refine ⟨rfl, ?_⟩
          have : dj.toList = stL (ltOf cf) X := by rw [hdj.out, blkS_le (by have := HL.out; omega) (by omega)]
          rw [← toList_eq_self this]
          exact S1.out
/-- slices.SortStableFunc at int. -/
theorem sortStable1 (enc : α → Value) (cf : α → α → Int) (H : SWO (ltOf cf)) (g : Nat) (cb : Array Value) (blk off cap : Nat) (d0 : Array α) (w0 w : World)
    (eg : ∀ args w, (callFunc g args).run Tryd.prog w = .ok (.enter g args) w) (hcmp : CmpLays1 Tryd.prog g cb enc cf blk off d0.size w0) (R : Row1 enc w0 blk off d0) (hsz : d0.size < 1000000000000) (S : SW enc w0 blk off d0 w) :
    Calls Tryd.prog 50 #[.slice (some ⟨blk, off, none⟩) d0.size cap, .func (.func g) #[] cb] w fun e' w' => e' = .returned (.tuple #[]) ∧ SW enc w0 blk off (stL (ltOf cf) d0.toList).toArray w' := by
  have C := stable1 enc cf H g cb blk off cap d0 w0 w eg hcmp R hsz S
  have HC := (show Hid _ from C)
  clear C S hcmp R
  generalize d0.size = N at HC hsz ⊢
  go_enter Tryd.func50, Tryd.ntmps50
  go_wp2_with (go_at_call 69; refine Calls.mono (Hid.out HC) ?_; rintro e w' ⟨rfl, S2⟩)
  go_end0
  exact ⟨rfl, S2⟩
end Go.Proofs.YtgkmipfcadiobaaDoor
