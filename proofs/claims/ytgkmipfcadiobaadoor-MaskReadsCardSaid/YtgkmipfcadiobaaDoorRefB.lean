/- What the document's own Digits, Text and Remap (diapauseref03) compute, over the printed readings. -/
import Derived.Test.YtgkmipfcadiobaaDoorRefA
import Derived.Test.YtgkmipfcadiobaaDoorGMx7
set_option linter.unusedVariables false
namespace Go.Proofs.YtgkmipfcadiobaaDoor.GM
open Go Go.RowKit Go.Proofs.YtgkmipfcadiobaaDoor Pl Go.Proofs.YtgkmipfcadiobaaDoorW.PrintWords Go.Proofs.YtgkmipfcadiobaaDoorW.PrintMore Given
def mkB (l : List UInt8) : ByteArray := ⟨l.toArray⟩
theorem mkB_list (l : List UInt8) : (mkB l).toList = l := by rw [ByteArray.toList_eq]; simp [mkB]
theorem mkB_size (l : List UInt8) : (mkB l).size = l.length := by show l.toArray.size = _; simp
theorem mkB_app (a b : List UInt8) : mkB a ++ mkB b = mkB (a ++ b) := by apply ByteArray.ext; simp [mkB]
set_option maxRecDepth 100000 in
theorem digits_all : ∀ n : Nat, n < 100 → diapauseref03_Digits.f 2 (n : Int) = some (mkB (dd n)) := by decide +kernel
theorem digits_r (k : Nat) (hk : 2 ≤ k) (n : Nat) (hn : n < 100) : diapauseref03_Digits.f k (n : Int) = some (mkB (dd n)) := at_rounds (diapauseref03_Digits.mono (n : Int)) hk (digits_all n hn)
/-- Is a number the first core of a run? -/
def isS (x i : Nat) : Bool := x.testBit i && !hasB x ((i : Int) - 1)
def st (x p : Nat) : List Nat := (List.range p).filter (isS x)
theorem st_starts (x : Nat) : st x 64 = starts x := by
  unfold st starts cores
  rw [List.filter_filter]
  apply List.filter_congr
  intro i _
  unfold isS
  cases x.testBit i <;> simp
theorem st_succ (x p : Nat) : st x (p + 1) = st x p ++ if isS x p = true then [p] else [] := by
  unfold st
  rw [List.range_succ, List.filter_append]
  congr 1
  split
  · rename_i h; simp [h]
  · rename_i h; simp [h]
theorem st_run (x p : Nat) (hp : isS x p = true) (hh : hasB x (p : Nat) = true) : ∀ d, d + 1 ≤ runLen x p → st x (p + 1 + d) = st x p ++ [p] := by
  intro d
  induction d with
  | zero => intro _; rw [Nat.add_zero, st_succ, if_pos hp]
  | succ d ih =>
    intro h
    have hall := runF_all x 64 p d (by unfold runLen at h; omega)
    have : isS x (p + 1 + d) = false := by
      unfold isS
      have e : ((p + 1 + d : Nat) : Int) - 1 = ((p + d : Nat) : Int) := by omega
      rw [e, hall]
      simp
    rw [show p + 1 + (d + 1) = (p + 1 + d) + 1 by omega, st_succ, this, ih (by omega)]
    simp
def outL (x : Nat) (cs : List Nat) : List UInt8 := Lib.join (cs.map (segL x)) [44]
theorem join_snoc (l : List (List UInt8)) (a sep : List UInt8) (h : l ≠ []) : Lib.join (l ++ [a]) sep = Lib.join l sep ++ sep ++ a := by
  cases l with
  | nil => exact absurd rfl h
  | cons y r => rw [List.cons_append, Lib.join_cons, Lib.join_cons]; simp [Lib.joinTail]
theorem dd_ne (c : Nat) : dd c ≠ [] := by unfold dd; split <;> simp
theorem segL_ne (x c : Nat) (h : c < 100) : segL x c ≠ [] := by
  unfold segL
  rw [dd_eq c h]
  intro e
  exact dd_ne c (List.append_eq_nil_iff.1 e).1
theorem outL_nil (x : Nat) (cs : List Nat) (h : ∀ c ∈ cs, c < 100) : outL x cs = [] ↔ cs = [] := by
  constructor
  · intro e
    cases cs with
    | nil => rfl
    | cons c r =>
      unfold outL at e
      rw [List.map_cons, Lib.join_cons] at e
      exact absurd (List.append_eq_nil_iff.1 e).1 (segL_ne x c (h c List.mem_cons_self))
  · rintro rfl; rfl
theorem outL_snoc (x : Nat) (cs : List Nat) (c : Nat) (h : cs ≠ []) : outL x (cs ++ [c]) = outL x cs ++ [44] ++ segL x c := by
  unfold outL
  rw [List.map_append, List.map_singleton]
  exact join_snoc _ _ _ (by simpa using h)
theorem outL_len (x p : Nat) (hp : p ≤ 64) : (outL x (st x p)).length ≤ 1000 := by
  unfold outL
  have h := join_bound ((st x p).map (segL x)) [44] (fun y hy => by
    obtain ⟨c, hc, rfl⟩ := List.mem_map.1 hy
    have h1 := List.mem_filter.1 hc
    have h2 : c < 64 := Nat.lt_of_lt_of_le (List.mem_range.1 h1.1) hp
    exact segL_len x c (by rw [hasB_nat x c h2]; have := h1.2; unfold isS at this; rw [Bool.and_eq_true] at this; exact this.1))
  have h2 : (st x p).length ≤ p := by have := List.length_filter_le (isS x) (List.range p); unfold st; simpa using this
  simp only [List.length_map, List.length_cons, List.length_nil] at h
  omega
theorem text_j2 (x : Nat) (k : Nat) (hk : 2 ≤ k) (o : List UInt8) (ho : o.length ≤ 100000) (p e : Nat) (he : e < 64) (hpe : p ≤ e) (v : ByteArray)
    (h : diapauseref03_Text.l0 k (x : Int) (mkB (o ++ (dd p ++ if p < e then 45 :: dd e else []))) ((e + 1 : Nat) : Int) = some v) : diapauseref03_Text.j2 (k + 1) (x : Int) (mkB o) (p : Int) (e : Int) = some v := by
  have hd : (dd p).length ≤ 2 := by unfold dd; split <;> simp
  have hd2 : (dd e).length ≤ 2 := by unfold dd; split <;> simp
  rw [diapauseref03_Text.j2, digits_r k hk p (by omega), bs, if_pos (by rw [mkB_size, mkB_size]; omega)]
  have e45 : (⟨#[45]⟩ : ByteArray) = mkB [45] := rfl
  rw [mkB_app, w64 (by omega)]
  by_cases hlt : p < e
  · rw [if_pos hlt] at h
    rw [if_pos (by omega), if_pos (by rw [mkB_size, List.length_append]; omega), digits_r k hk e (by omega), bs, e45, mkB_app, if_pos (by rw [mkB_size, mkB_size, List.length_append, List.length_append, List.length_singleton]; omega), mkB_app]
    have e2 : o ++ dd p ++ [45] ++ dd e = o ++ (dd p ++ 45 :: dd e) := by simp
    rw [e2]
    exact h
  · rw [if_neg hlt, List.append_nil] at h
    rw [if_neg (by omega)]
    exact h
theorem text_l1 (x : Nat) (hx : x < U64) (o : ByteArray) (p e : Nat) (k : Nat) (hk : 66 ≤ k) (v : ByteArray) (hend : hasB x ((e + 1 : Nat) : Int) = false) (he : e < 64)
    (h : (if o.toList = ([] : List UInt8) then (diapauseref03_Text.j2 k (x : Int) o (p : Int) (e : Int)) else (if o.size + 1 ≤ 9223372036854775807 then (diapauseref03_Text.j2 k (x : Int) (o ++ (⟨#[44]⟩ : ByteArray)) (p : Int) (e : Int)) else (none))) = some v) :
    ∀ (n q : Nat), q + n = e → (∀ j, q < j → j ≤ e → hasB x (j : Nat) = true) → diapauseref03_Text.l1 (k + n + 1) (x : Int) o (p : Int) (q : Int) = some v := by
  intro n
  induction n with
  | zero =>
    intro q hq hall
    obtain rfl : q = e := by omega
    rw [diapauseref03_Text.l1, w64 (by omega), has_r _ (by omega) x hx, hend, bs, if_neg (by decide)]
    exact h
  | succ n ih =>
    intro q hq hall
    rw [show k + (n + 1) + 1 = (k + n + 1) + 1 by omega, diapauseref03_Text.l1, w64 (by omega), has_r _ (by omega) x hx, hall (q + 1) (by omega) (by omega), bs, if_pos rfl]
    exact ih (q + 1) (by omega) (fun j h1 h2 => hall j (by omega) h2)
theorem text_loop (x : Nat) (hx : x < U64) (k : Nat) (hk : 70 ≤ k) : ∀ (m p : Nat), p + m = 64 → (x.testBit p = true → hasB x ((p : Int) - 1) = false) → ∃ K, diapauseref03_Text.l0 (k + K) (x : Int) (mkB (outL x (st x p))) (p : Int) = some (textB x) := by
  intro m
  induction m using Nat.strongRecOn with
  | ind m ih =>
    intro p hp hprev
    by_cases h64 : p = 64
    · subst h64
      refine ⟨1, ?_⟩
      rw [diapauseref03_Text.l0, if_neg (by decide), mkB_list, st_starts]
      have hs : ∀ c ∈ starts x, c < 100 := fun c hc => by have := (starts_has x c hc).2; omega
      by_cases h0 : x = 0
      · subst h0
        rfl
      · have hne : starts x ≠ [] := fun e => h0 (starts_nil x hx e)
        rw [if_neg (fun e => hne ((outL_nil x _ hs).1 e))]
        congr 1
        unfold textB
        rw [textL_join x hx h0]
        rfl
    · have hp64 : p < 64 := by omega
      cases hb : x.testBit p with
      | false =>
        have hnot : isS x p = false := by unfold isS; rw [hb]; rfl
        obtain ⟨K, hK⟩ := ih (m - 1) (by omega) (p + 1) (by omega) (fun _ => by
          have e : (((p + 1 : Nat) : Int) - 1) = (p : Int) := by omega
          rw [e, hasB_nat x p hp64, hb])
        refine ⟨K + 1, ?_⟩
        rw [show k + (K + 1) = (k + K) + 1 by omega, diapauseref03_Text.l0, if_pos (by omega), has_r _ (by omega) x hx, hasB_nat x p hp64, hb, bs, if_neg (by decide), w64 (by omega)]
        rw [st_succ, hnot] at hK
        simpa using hK
      | true =>
        have hh : hasB x (p : Nat) = true := by rw [hasB_nat x p hp64]; exact hb
        have hS : isS x p = true := by unfold isS; rw [hb, hprev hb]; rfl
        have hf := runLen_fits x p hh
        have hend := runF_end x 64 p (by omega)
        obtain ⟨e, he⟩ : ∃ e, e = p + runLen x p - 1 := ⟨_, rfl⟩
        have he1 : e + 1 = p + runF x 64 p := by unfold runLen at he hf; omega
        rw [← he1] at hend
        have hnext : st x (e + 1) = st x p ++ [p] := by
          have := st_run x p hS hh (runLen x p - 1) (by omega)
          rw [show p + 1 + (runLen x p - 1) = e + 1 by omega] at this
          exact this
        obtain ⟨K, hK⟩ := ih (64 - (e + 1)) (by omega) (e + 1) (by omega) (fun h => by
          by_cases h6 : e + 1 < 64
          · rw [hasB_nat x (e + 1) h6, h] at hend; cases hend
          · rw [Nat.testBit_lt_two_pow (Nat.lt_of_lt_of_le hx (show 2 ^ 64 ≤ 2 ^ (e + 1) from Nat.pow_le_pow_right (by decide) (by omega)))] at h; cases h)
        have hseg : segL x p = dd p ++ if p < e then 45 :: dd e else [] := by
          unfold segL
          rw [dd_eq p (by omega), ← he, dd_eq e (by omega)]
          congr 1
          by_cases h1 : 1 < runLen x p
          · rw [if_pos h1, if_pos (by omega)]
          · rw [if_neg h1, if_neg (by omega)]
        have hol := outL_len x p (by omega)
        rw [hnext] at hK
        have hj : (if (mkB (outL x (st x p))).toList = ([] : List UInt8) then (diapauseref03_Text.j2 (k + K + 1) (x : Int) (mkB (outL x (st x p))) (p : Int) (e : Int)) else (if (mkB (outL x (st x p))).size + 1 ≤ 9223372036854775807 then (diapauseref03_Text.j2 (k + K + 1) (x : Int) ((mkB (outL x (st x p))) ++ (⟨#[44]⟩ : ByteArray)) (p : Int) (e : Int)) else (none))) = some (textB x) := by
          have hs : ∀ c ∈ st x p, c < 100 := fun c hc => by have := List.mem_range.1 (List.mem_filter.1 hc).1; omega
          rw [mkB_list]
          by_cases h0 : st x p = []
          · rw [if_pos ((outL_nil x _ hs).2 h0)]
            apply text_j2 x (k + K) (by omega) _ (by omega) p e (by omega) (by omega)
            rw [← hseg]
            rw [h0] at hK ⊢
            have e0 : outL x ([] ++ [p]) = outL x [] ++ segL x p := by unfold outL; simp [Lib.join_one, Lib.join_nil]
            rw [e0] at hK
            exact hK
          · rw [if_neg (fun e => h0 ((outL_nil x _ hs).1 e)), if_pos (by rw [mkB_size]; omega), show (⟨#[44]⟩ : ByteArray) = mkB [44] from rfl, mkB_app]
            apply text_j2 x (k + K) (by omega) _ (by rw [List.length_append, List.length_singleton]; omega) p e (by omega) (by omega)
            rw [← hseg, ← outL_snoc x _ p h0]
            exact hK
        have hl1 := text_l1 x hx _ p e (k + K + 1) (by omega) _ hend (by omega) hj (e - p) p (by omega) (fun j h1 h2 => by
          have := runF_all x 64 p (j - p) (by omega)
          rwa [show p + (j - p) = j by omega] at this)
        refine ⟨K + 1 + (e - p) + 1 + 1, ?_⟩
        rw [show k + (K + 1 + (e - p) + 1 + 1) = (k + K + 1 + (e - p) + 1) + 1 by omega, diapauseref03_Text.l0, if_pos (by omega), has_r _ (by omega) x hx, hh, bs, if_pos rfl]
        exact hl1
theorem textR_r (x : Nat) (hx : x < U64) : ∃ K, ∀ k, K ≤ k → diapauseref03_Text.f k (x : Int) = some (textB x) := by
  obtain ⟨K, hK⟩ := text_loop x hx 70 (by omega) 64 0 rfl (fun _ => hasB_out x _ (by left; decide))
  exact Ev.of (k := 70 + K) (diapauseref03_Text.mono (x : Int)) hK
/-! Remap -/
theorem remap_loop (s o : Nat) (hs : s < U64) (ho : o < U64) (op : Bool) (k : Nat) (hk : 66 ≤ k) (v : Int × Int) (l : List Int) (hl : l = ofNs ((List.range 64).filter fun i => s.testBit i && o.testBit i))
    (h : (if (l.length : Int) > 0 then ((diapauseref03_Of.f k l).bind fun t243 => (some (t243, 0))) else (if op = true then (if (o : Int) > 0 then (some ((o : Int), 0)) else (some (0, 13))) else (some (0, 13)))) = some v) :
    ∀ (n c : Nat), c + n = 64 → diapauseref03_Remap.l0 (k + n + 1) (s : Int) (o : Int) op (ofNs ((List.range c).filter fun i => s.testBit i && o.testBit i)) (c : Int) = some v := by
  intro n
  induction n with
  | zero =>
    intro c hc
    obtain rfl : c = 64 := by omega
    rw [Nat.add_zero, diapauseref03_Remap.l0, if_neg (by decide), ← hl]
    exact h
  | succ n ih =>
    intro c hc
    have h1 := ih (c + 1) (by omega)
    have hlen := List.length_filter_le (fun i => s.testBit i && o.testBit i) (List.range c)
    rw [List.length_range] at hlen
    rw [List.range_succ, List.filter_append] at h1
    rw [show k + (n + 1) + 1 = (k + n + 1) + 1 by omega, diapauseref03_Remap.l0, if_pos (by omega), has_r _ (by omega) s hs, hasB_nat s c (by omega), bs, w64 (by omega)]
    cases b1 : s.testBit c
    · rw [if_neg (by decide)]
      rw [List.filter_cons_of_neg (by simp [b1]), List.filter_nil, List.append_nil] at h1
      exact h1
    · rw [if_pos rfl, has_r _ (by omega) o ho, hasB_nat o c (by omega), bs]
      cases b2 : o.testBit c
      · rw [if_neg (by decide)]
        rw [List.filter_cons_of_neg (by simp [b1, b2]), List.filter_nil, List.append_nil] at h1
        exact h1
      · rw [if_pos rfl, if_pos (by rw [ofNs_length]; omega)]
        rw [List.filter_cons_of_pos (by simp [b1, b2]), List.filter_nil] at h1
        simpa [ofNs] using h1
theorem remap_r (s o : Nat) (hs : s < U64) (ho : o < U64) (op : Bool) : ∃ K, ∀ k, K ≤ k → diapauseref03_Remap.f k (s : Int) (o : Int) op = mask_Remap.f (s : Int) (o : Int) op := by
  have hcl : (List.range 64).filter (fun i => s.testBit i && o.testBit i) = cores (s &&& o) := by
    unfold cores
    apply List.filter_congr
    intro i _
    rw [Nat.testBit_and]
  have hlen := cores_length (s &&& o)
  obtain ⟨K, hK⟩ := of_r' (ofNs (cores (s &&& o))) (by rw [ofNs_length]; omega)
  have e : setOf (inL (ofNs (cores (s &&& o)))) = s &&& o := by
    apply set_ext (setOf_lt _) (and_lt o hs)
    intro i hi
    rw [setOf_test _ _ hi, inL_ofNs, Bool.eq_iff_iff, decide_eq_true_iff, mem_cores]
    exact ⟨fun h => h.2, fun h => ⟨hi, h⟩⟩
  rw [e] at hK
  refine ⟨K + 66 + 64 + 1, fun k hk => ?_⟩
  rw [remap_f s o hs ho]
  unfold diapauseref03_Remap.f
  have := remap_loop s o hs ho op (k - 65) (by omega) (if s &&& o = 0 then (if op = true ∧ o ≠ 0 then ((o : Int), 0) else (0, 13)) else (((s &&& o : Nat) : Int), 0)) (ofNs (cores (s &&& o))) (by rw [hcl]) ?_ 64 0 rfl
  · rw [show k - 65 + 64 + 1 = k by omega] at this
    have h2 : diapauseref03_Remap.l0 k (s : Int) (o : Int) op [] 0 = some (if s &&& o = 0 then (if op = true ∧ o ≠ 0 then ((o : Int), 0) else (0, 13)) else (((s &&& o : Nat) : Int), 0)) := this
    rw [h2]
    split
    · split <;> rfl
    · rfl
  · rw [ofNs_length]
    by_cases h0 : s &&& o = 0
    · rw [if_pos h0, h0, cores_zero, if_neg (by decide)]
      cases op
      · rw [if_neg (by decide), if_neg (by simp)]
      · rw [if_pos rfl]
        by_cases h2 : o = 0
        · rw [if_neg (by omega), if_neg (by simp [h2])]
        · rw [if_pos (by omega), if_pos ⟨rfl, h2⟩]
    · rw [if_neg h0]
      have : (cores (s &&& o)).length ≠ 0 := fun e => h0 (cores_nil (and_lt o hs) (List.length_eq_zero_iff.1 e))
      rw [if_pos (by omega), hK _ (by omega), bs]
end Go.Proofs.YtgkmipfcadiobaaDoor.GM
