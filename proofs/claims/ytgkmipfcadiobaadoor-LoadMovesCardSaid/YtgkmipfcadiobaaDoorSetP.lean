/- What load.Balance's moves and load.Settle come to: the squares of the loads grow less; in the end there is no move more. -/
import Derived.Test.YtgkmipfcadiobaaDoorChS
set_option linter.unusedVariables false
namespace Go.Proofs.YtgkmipfcadiobaaDoor.GL
open Go Go.RowKit Go.Proofs.YtgkmipfcadiobaaDoor Pl Go.Proofs.YtgkmipfcadiobaaDoorW.PrintWords Go.Proofs.YtgkmipfcadiobaaDoorW.PrintMore GivenT GivenL GA
theorem rd_loads (l : List S38) (c : Nat) (h : c < 64) : rd (loadsL l 64) (c : Int) = ((loadN l c : Nat) : Int) := by rw [rd_nat, loadsL_get l 64 c h]
theorem mem_coresF (x : Nat) (c : Fin 64) : c ∈ coresF x ↔ x.testBit c.val = true := by simp [coresF]
theorem mem_csort (x : Nat) (l : List Int) (c : Fin 64) : c ∈ stL (ltOf (cfC l)) (coresF x) ↔ x.testBit c.val = true := by
  rw [(stL_perm (cfC_swo l) (coresF x)).mem_iff, mem_coresF]
theorem mem_ssort (l : List S38) (s : S38) : s ∈ stL (ltOf cfS) l ↔ s ∈ l := (stL_perm cfS_swo l).mem_iff
theorem hasN_and {a x k : Nat} (h : hasN (a &&& x) k = true) : k < 64 ∧ a.testBit k = true ∧ x.testBit k = true := by
  unfold hasN at h
  rw [Nat.testBit_and] at h
  simpa [and_assoc] using h
theorem bal_some {l : List S38} {x : Nat} {id t : Int} (h : balO l x = some (id, t)) :
    ∃ (s : S38) (c tN : Nat), s ∈ l ∧ s.f0 = id ∧ s.f1 = (c : Int) ∧ c < 64 ∧ x.testBit c = true ∧ t = (tN : Int) ∧ tN < 64 ∧ x.testBit tN = true ∧ s.f2.toNat.testBit tN = true ∧ loadN l tN + 1 < loadN l c := by
  unfold balO at h
  obtain ⟨c, hc, h⟩ := List.exists_of_findSome?_eq_some h
  obtain ⟨s, hs, h⟩ := List.exists_of_findSome?_eq_some h
  rw [mem_csort] at hc
  rw [mem_ssort] at hs
  unfold tryS at h
  split at h
  · rename_i h1
    split at h
    · rename_i h2
      have h3 := Option.some.inj h
      injection h3 with e1 e2
      rcases chooseI_spec (s.f2.toNat &&& x) (loadsL l 64) with ⟨g1, _⟩ | ⟨d, g1, g2, g3, _⟩
      · rw [g1] at h2; omega
      · rw [loadsL_length] at g2
        obtain ⟨k1, k2, k3⟩ := hasN_and g3
        rw [g1] at h2 e2
        rw [rd_loads l d g2, rd_loads l c.val c.isLt] at h2
        exact ⟨s, c.val, d, hs, e1, h1, c.isLt, hc, e2.symm, g2, k3, k2, by omega⟩
    · cases h
  · cases h
theorem bal_none {l : List S38} {x : Nat} (h : balO l x = none) (s : S38) (hs : s ∈ l) (c : Nat) (h1 : s.f1 = (c : Int)) (hc : c < 64) (hx : x.testBit c = true) (k : Nat) (hk : k < 64) (hk1 : s.f2.toNat.testBit k = true) (hk2 : x.testBit k = true) :
    loadN l c ≤ loadN l k + 1 := by
  unfold balO at h
  rw [List.findSome?_eq_none_iff] at h
  have h2 := h ⟨c, hc⟩ ((mem_csort x _ _).2 hx)
  rw [List.findSome?_eq_none_iff] at h2
  have h3 := h2 s ((mem_ssort l s).2 hs)
  unfold tryS at h3
  rw [if_pos h1] at h3
  have hN : hasN (s.f2.toNat &&& x) k = true := by unfold hasN; rw [Nat.testBit_and, hk1, hk2]; simp [hk]
  rcases chooseI_spec (s.f2.toNat &&& x) (loadsL l 64) with ⟨g1, g2⟩ | ⟨d, g1, g2, g3, g4⟩
  · have := g2 k (by rw [loadsL_length]; exact hk)
    rw [hN] at this; cases this
  · rw [loadsL_length] at g2
    have g5 := (g4 k (by rw [loadsL_length]; exact hk) hN).1
    rw [rd_loads l d g2, rd_loads l k hk] at g5
    split at h3
    · cases h3
    · rename_i h4
      rw [g1, rd_loads l d g2] at h4
      have e : rd (loadsL l 64) ((⟨c, hc⟩ : Fin 64).val : Int) = ((loadN l c : Nat) : Int) := rd_loads l c hc
      rw [e] at h4
      omega
/-! Loads behind a move. -/
theorem loadN_cons (s : S38) (l : List S38) (c : Nat) : loadN (s :: l) c = (if s.f1 = (c : Int) then 1 else 0) + loadN l c := by
  unfold loadN
  by_cases h : s.f1 = (c : Int)
  · rw [List.filter_cons_of_pos (by simpa using h), if_pos h, List.length_cons]; omega
  · rw [List.filter_cons_of_neg (by simpa using h), if_neg h]; omega
theorem loadN_set : ∀ (l : List S38) (k : Nat) (h : k < l.length) (s : S38) (c : Nat), loadN (l.set k s) c + (if l[k].f1 = (c : Int) then 1 else 0) = loadN l c + (if s.f1 = (c : Int) then 1 else 0)
  | [], k, h, s, c => by simp at h
  | a :: l, 0, h, s, c => by
    rw [List.set_cons_zero, loadN_cons, loadN_cons]
    simp only [List.getElem_cons_zero]
    omega
  | a :: l, k + 1, h, s, c => by
    rw [List.set_cons_succ, loadN_cons, loadN_cons]
    simp only [List.getElem_cons_succ]
    have := loadN_set l k (by simpa using h) s c
    omega
def sqF (f : Nat → Nat) : Nat → Nat
  | 0 => 0
  | n + 1 => sqF f n + f n * f n
def smF (f : Nat → Nat) : Nat → Nat
  | 0 => 0
  | n + 1 => smF f n + f n
def sq (l : List S38) : Nat := sqF (loadN l) 64
theorem sqF_move (f g : Nat → Nat) (a b : Nat) (hab : a ≠ b) (ha : g a + 1 = f a) (hb : g b = f b + 1) (ho : ∀ c, c ≠ a → c ≠ b → g c = f c) : ∀ n, sqF g n + (if a < n then 2 * f a - 1 else 0) = sqF f n + (if b < n then 2 * f b + 1 else 0)
  | 0 => by simp [sqF]
  | n + 1 => by
    have ih := sqF_move f g a b hab ha hb ho n
    rw [sqF, sqF]
    by_cases e1 : n = a
    · subst e1
      rw [if_neg (by omega)] at ih
      rw [if_pos (by omega)]
      have : f n * f n = g n * g n + (2 * f n - 1) := by
        rw [← ha, Nat.succ_mul, Nat.mul_succ]; omega
      by_cases e2 : b < n
      · rw [if_pos e2] at ih; rw [if_pos (by omega)]; omega
      · rw [if_neg e2] at ih; rw [if_neg (by omega)]; omega
    · by_cases e2 : n = b
      · subst e2
        rw [if_neg (show ¬ n < n by omega)] at ih
        rw [if_pos (show n < n + 1 by omega)]
        have : g n * g n = f n * f n + (2 * f n + 1) := by
          rw [hb, Nat.succ_mul, Nat.mul_succ]; omega
        by_cases e3 : a < n
        · rw [if_pos e3] at ih; rw [if_pos (by omega)]; omega
        · rw [if_neg e3] at ih; rw [if_neg (by omega)]; omega
      · rw [ho n e1 e2]
        have c1 : (if a < n + 1 then 2 * f a - 1 else 0) = if a < n then 2 * f a - 1 else 0 := by
          by_cases h : a < n
          · rw [if_pos h, if_pos (by omega)]
          · rw [if_neg h, if_neg (by omega)]
        have c2 : (if b < n + 1 then 2 * f b + 1 else 0) = if b < n then 2 * f b + 1 else 0 := by
          by_cases h : b < n
          · rw [if_pos h, if_pos (by omega)]
          · rw [if_neg h, if_neg (by omega)]
        rw [c1, c2]; omega
theorem sqF_pos (f : Nat → Nat) (c : Nat) : ∀ n, c < n → f c * f c ≤ sqF f n
  | 0, h => by omega
  | n + 1, h => by
    rw [sqF]
    by_cases e : c = n
    · subst e; omega
    · have := sqF_pos f c n (by omega); omega
theorem sqF_le (f : Nat → Nat) (m : Nat) (hm : ∀ c, f c ≤ m) : ∀ n, sqF f n ≤ m * smF f n
  | 0 => by simp [sqF]
  | n + 1 => by
    rw [sqF, smF, Nat.mul_add]
    have h1 := sqF_le f m hm n
    have h2 := Nat.mul_le_mul_right (f n) (hm n)
    omega
theorem smF_add (f g h : Nat → Nat) (e : ∀ c, f c = g c + h c) : ∀ n, smF f n = smF g n + smF h n
  | 0 => rfl
  | n + 1 => by rw [smF, smF, smF, smF_add f g h e n, e n]; omega
theorem smF_one (z : Int) : ∀ n, smF (fun c => if z = (c : Int) then 1 else 0) n ≤ 1 ∧ ((n : Int) ≤ z ∨ z < 0 → smF (fun c => if z = (c : Int) then 1 else 0) n = 0)
  | 0 => ⟨by simp [smF], fun _ => rfl⟩
  | n + 1 => by
    obtain ⟨h1, h2⟩ := smF_one z n
    rw [smF]
    by_cases e : z = (n : Int)
    · have := h2 (by omega)
      simp only [e, if_true] at this ⊢
      exact ⟨by omega, fun h => by omega⟩
    · simp only [if_neg e]
      exact ⟨by omega, fun h => by have := h2 (by omega); omega⟩
theorem smF_loads : ∀ (l : List S38) (n : Nat), smF (loadN l) n ≤ l.length
  | [], n => by
    have : ∀ n, smF (loadN []) n = 0 := by
      intro n; induction n with
      | zero => rfl
      | succ n ih => rw [smF, ih]; rfl
    rw [this]; exact Nat.zero_le _
  | s :: l, n => by
    rw [smF_add (loadN (s :: l)) (fun c => if s.f1 = (c : Int) then 1 else 0) (loadN l) (loadN_cons s l) n]
    have := (smF_one s.f1 n).1
    have := smF_loads l n
    rw [List.length_cons]; omega
theorem sq_le (l : List S38) : sq l ≤ l.length * l.length := by
  have h1 := sqF_le (loadN l) l.length (loadN_le l) 64
  have h2 := Nat.mul_le_mul_left l.length (smF_loads l 64)
  exact Nat.le_trans h1 h2
abbrev apart (l : List S38) : Prop := l.Pairwise (fun a b => a.f0 ≠ b.f0)
theorem apart_inj {l : List S38} (h : apart l) {i j : Nat} (hi : i < l.length) (hj : j < l.length) (e : l[i].f0 = l[j].f0) : i = j := by
  rcases Nat.lt_trichotomy i j with h1 | h1 | h1
  · exact absurd e (List.pairwise_iff_getElem.1 h i j hi hj h1)
  · exact h1
  · exact absurd e.symm (List.pairwise_iff_getElem.1 h j i hj hi h1)
/-- A move told, and made. -/
theorem move_made {l : List S38} {x : Nat} {id t : Int} (ha : apart l) (h : balO l x = some (id, t)) :
    ∃ (k : Nat) (hk : k < l.length) (c tN : Nat), l[k].f0 = id ∧ l[k].f1 = (c : Int) ∧ c < 64 ∧ x.testBit c = true ∧ t = (tN : Int) ∧ tN < 64 ∧ x.testBit tN = true ∧ l[k].f2.toNat.testBit tN = true ∧ c ≠ tN ∧
      setCore l id t = l.set k ⟨l[k].f0, t, l[k].f2⟩ ∧ apart (setCore l id t) ∧ sq (setCore l id t) + 2 ≤ sq l := by
  obtain ⟨s, c, tN, hs, h1, h2, h3, h4, rfl, h6, h7, h8, h9⟩ := bal_some h
  obtain ⟨k, hk, g1, g2, g3⟩ := setCore_first l id (tN : Int) ⟨s, hs, h1⟩
  obtain ⟨j, hj, rfl⟩ := List.mem_iff_getElem.1 hs
  obtain rfl : k = j := apart_inj ha hk hj (g1.trans h1.symm)
  have hne : c ≠ tN := by intro e; subst e; omega
  refine ⟨k, hk, c, tN, h1, h2, h3, h4, rfl, h6, h7, h8, hne, g3, ?_, ?_⟩
  · rw [g3]
    refine List.pairwise_iff_getElem.2 fun i j hi hj hij => ?_
    simp only [List.length_set] at hi hj
    have e : ∀ (i : Nat) (hi : i < l.length), ((l.set k ⟨l[k].f0, (tN : Int), l[k].f2⟩)[i]'(by simpa using hi)).f0 = l[i].f0 := by
      intro i hi
      rw [List.getElem_set]
      split
      · rename_i e; subst e; rfl
      · rfl
    rw [e i hi, e j hj]
    exact List.pairwise_iff_getElem.1 ha i j hi hj hij
  · rw [g3]
    have hl := fun c' => loadN_set l k hk ⟨l[k].f0, (tN : Int), l[k].f2⟩ c'
    have m := sqF_move (loadN l) (loadN (l.set k ⟨l[k].f0, (tN : Int), l[k].f2⟩)) c tN hne
      (by have := hl c; rw [if_pos h2, if_neg (by simp only; omega)] at this; omega)
      (by have := hl tN; rw [if_neg (by rw [h2]; omega), if_pos rfl] at this; omega)
      (fun c' n1 n2 => by have := hl c'; rw [if_neg (by rw [h2]; omega), if_neg (by simp only; omega)] at this; omega) 64
    rw [if_pos h3, if_pos h6] at m
    unfold sq
    omega
/-- What became of each seat. -/
def Went (x : Nat) (a b : S38) : Prop := b.f0 = a.f0 ∧ b.f2 = a.f2 ∧ (b.f1 = a.f1 ∨ ∃ c d : Nat, a.f1 = (c : Int) ∧ c < 64 ∧ x.testBit c = true ∧ b.f1 = (d : Int) ∧ d < 64 ∧ x.testBit d = true ∧ a.f2.toNat.testBit d = true)
theorem Went.refl (x : Nat) (a : S38) : Went x a a := ⟨rfl, rfl, .inl rfl⟩
theorem Went.trans {x : Nat} {a b c : S38} (h1 : Went x a b) (h2 : Went x b c) : Went x a c := by
  obtain ⟨p1, p2, p3⟩ := h1
  obtain ⟨q1, q2, q3⟩ := h2
  refine ⟨q1.trans p1, q2.trans p2, ?_⟩
  rcases q3 with q3 | ⟨c1, d1, r1, r2, r3, r4, r5, r6, r7⟩
  · rcases p3 with p3 | ⟨c1, d1, r1, r2, r3, r4, r5, r6, r7⟩
    · exact .inl (q3.trans p3)
    · exact .inr ⟨c1, d1, r1, r2, r3, q3.trans r4, r5, r6, r7⟩
  · rw [p2] at r7
    rcases p3 with p3 | ⟨c2, d2, s1, s2, s3, s4, s5, s6, s7⟩
    · exact .inr ⟨c1, d1, p3.symm.trans r1, r2, r3, r4, r5, r6, r7⟩
    · exact .inr ⟨c2, d1, s1, s2, s3, r4, r5, r6, r7⟩
theorem settle_spec (x : Nat) : ∀ (f : Nat) (cur : List S38) (n : Nat), apart cur → sq cur ≤ 2 * f + 1 →
    balO (settleF x f cur n).1 x = none ∧ (settleF x f cur n).1.length = cur.length ∧ apart (settleF x f cur n).1 ∧ n ≤ (settleF x f cur n).2 ∧ sq (settleF x f cur n).1 + 2 * ((settleF x f cur n).2 - n) ≤ sq cur ∧
      ((settleF x f cur n).2 = n → (settleF x f cur n).1 = cur) ∧ ∀ i, (h : i < cur.length) → (h' : i < (settleF x f cur n).1.length) → Went x cur[i] (settleF x f cur n).1[i]
  | 0, cur, n, ha, hq => by
    rw [settleF]
    refine ⟨?_, rfl, ha, Nat.le_refl _, by show sq cur + 2 * (n - n) ≤ sq cur; omega, fun _ => rfl, fun i h h' => Went.refl x _⟩
    cases hb : balO cur x with
    | none => rfl
    | some r =>
      obtain ⟨id, t⟩ := r
      obtain ⟨_, _, _, _, _, _, _, _, _, _, _, _, _, _, _, hsq⟩ := move_made ha hb
      omega
  | f + 1, cur, n, ha, hq => by
    rw [settleF]
    cases hb : balO cur x with
    | none => exact ⟨hb, rfl, ha, Nat.le_refl _, by show sq cur + 2 * (n - n) ≤ sq cur; omega, fun _ => rfl, fun i h h' => Went.refl x _⟩
    | some r =>
      obtain ⟨id, t⟩ := r
      obtain ⟨k, hk, c, tN, m1, m2, m3, m4, m5, m6, m7, m8, m9, m10, m11, m12⟩ := move_made ha hb
      obtain ⟨i1, i2, i3, i4, i5, i6, i7⟩ := settle_spec x f (setCore cur id t) (n + 1) m11 (by omega)
      simp only
      rw [setCore_length] at i2
      refine ⟨i1, i2, i3, by omega, by omega, fun e => by omega, fun i h h' => ?_⟩
      have hi2 : i < (setCore cur id t).length := by rw [setCore_length]; exact h
      refine Went.trans ?_ (i7 i hi2 h')
      have e : (setCore cur id t)[i] = (cur.set k ⟨cur[k].f0, t, cur[k].f2⟩)[i]'(by simpa using h) := by congr 1
      rw [e, List.getElem_set]
      split
      · rename_i e; subst e
        exact ⟨rfl, rfl, .inr ⟨c, tN, m2, m3, m4, m5, m6, m7, m8⟩⟩
      · exact Went.refl x _
theorem settle_all (x : Nat) (l : List S38) (ha : apart l) : sq l ≤ 2 * (l.length * (l.length + 64)) + 1 := by
  have h1 := sq_le l
  have h2 : l.length * (l.length + 64) = l.length * l.length + l.length * 64 := Nat.mul_add _ _ _
  omega
end Go.Proofs.YtgkmipfcadiobaaDoor.GL
