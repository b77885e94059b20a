/- LoadEven's plain law. -/
import Derived.Test.YtgkmipfcadiobaaDoorSetP
import Derived.Test.YtgkmipfcadiobaaDoorGEx1
set_option linter.unusedVariables false
namespace Go.Proofs.YtgkmipfcadiobaaDoor.GE
open Go Go.RowKit Go.Proofs.YtgkmipfcadiobaaDoor Pl Go.Proofs.YtgkmipfcadiobaaDoorW.PrintWords Go.Proofs.YtgkmipfcadiobaaDoorW.PrintMore GivenT GivenL GA GL
def ofNs (l : List Nat) : List Int := l.map fun n : Nat => (n : Int)
theorem all_loop (k : Nat) (hk : 66 ≤ k) (x : Nat) (hx : x < 18446744073709551616) : ∀ (n c : Nat) (acc : List Int), c + n = 64 → acc.length ≤ c → diapauseref03_All.l0 (k + n + 1) (x : Int) acc (c : Int) = some (acc ++ ofNs ((List.range' c n).filter fun i => x.testBit i)) := by
  intro n
  induction n with
  | zero =>
    intro c acc h ha
    rw [diapauseref03_All.l0, if_neg (by omega)]
    simp [ofNs]
  | succ n ih =>
    intro c acc h ha
    rw [show k + (n + 1) + 1 = (k + n + 1) + 1 by omega, diapauseref03_All.l0, if_pos (by omega), has_r _ (by omega) x hx, hasL_nat x c (by omega), bs, w64 (by omega), List.range'_succ]
    cases hb : x.testBit c
    · rw [if_neg (by decide), ih (c + 1) acc (by omega) (by omega), List.filter_cons_of_neg (by simp [hb])]
    · rw [if_pos rfl, if_pos (by omega), ih (c + 1) (acc ++ [(c : Int)]) (by omega) (by simp; omega), List.filter_cons_of_pos (by simp [hb])]
      simp [ofNs]
theorem all_r (k : Nat) (hk : 140 ≤ k) (x : Nat) (hx : x < 18446744073709551616) : diapauseref03_All.f k (x : Int) = some (ofNs (cores x)) := by
  unfold diapauseref03_All.f
  have := all_loop (k - 65) (by omega) x hx 64 0 [] rfl (by simp)
  rw [show k - 65 + 64 + 1 = k by omega, List.nil_append] at this
  unfold cores
  rw [List.range_eq_range']
  exact this
def seatAt (ps cs : List Int) (j : Nat) : S38 := ⟨(j : Int) + 1, rd cs (Int.tmod (rd ps (j : Int)) (cs.length : Int)), 18446744073709551615⟩
def seatsN (ps cs : List Int) (n : Nat) : List S38 := (List.range n).map (seatAt ps cs)
theorem seatsN_len (ps cs : List Int) (n : Nat) : (seatsN ps cs n).length = n := by simp [seatsN]
theorem seatsN_apart (ps cs : List Int) (n : Nat) : apart (seatsN ps cs n) := by
  refine List.pairwise_iff_getElem.2 fun i j hi hj hij => ?_
  simp only [seatsN, List.getElem_map, List.getElem_range, seatAt]
  omega
def smL (f : Nat → Nat) : List Nat → Nat
  | [] => 0
  | c :: cs => f c + smL f cs
theorem smL_add (f g h : Nat → Nat) (e : ∀ c, f c = g c + h c) : ∀ cs, smL f cs = smL g cs + smL h cs
  | [] => rfl
  | c :: cs => by rw [smL, smL, smL, smL_add f g h e cs, e c]; omega
theorem smL_zero (z : Nat) : ∀ cs : List Nat, z ∉ cs → smL (fun c => if (z : Int) = (c : Int) then 1 else 0) cs = 0
  | [], _ => rfl
  | c :: cs, h => by
    rw [List.mem_cons, not_or] at h
    rw [smL, smL_zero z cs h.2, if_neg (by omega)]
theorem smL_one (z : Nat) : ∀ cs : List Nat, cs.Nodup → z ∈ cs → smL (fun c => if (z : Int) = (c : Int) then 1 else 0) cs = 1
  | [], _, h => by cases h
  | c :: cs, hn, h => by
    rw [List.nodup_cons] at hn
    rw [smL]
    by_cases e : z = c
    · subst e
      rw [if_pos rfl, smL_zero z cs hn.1]
    · rcases List.mem_cons.1 h with h | h
      · exact absurd h e
      · rw [if_neg (by omega), smL_one z cs hn.2 h]
theorem smL_all (cs : List Nat) (hn : cs.Nodup) : ∀ l : List S38, (∀ s ∈ l, ∃ c ∈ cs, s.f1 = (c : Nat)) → smL (loadN l) cs = l.length
  | [], _ => by
    have : ∀ cs : List Nat, smL (loadN []) cs = 0 := by
      intro cs; induction cs with
      | nil => rfl
      | cons c cs ih => rw [smL, ih]; rfl
    exact this cs
  | s :: l, h => by
    obtain ⟨z, hz, e⟩ := h s (List.mem_cons_self ..)
    rw [smL_add (loadN (s :: l)) (fun c => if s.f1 = (c : Int) then 1 else 0) (loadN l) (loadN_cons s l) cs, e, smL_one z cs hn hz, smL_all cs hn l (fun s' hs' => h s' (List.mem_cons_of_mem _ hs')), List.length_cons]
    omega
theorem sum_take_succ (f : Nat → Nat) : ∀ (cs : List Nat) (i : Nat) (h : i < cs.length), smL f (cs.take (i + 1)) = smL f (cs.take i) + f cs[i]
  | [], i, h => by simp at h
  | c :: cs, 0, h => by simp [smL]
  | c :: cs, i + 1, h => by
    rw [List.take_succ_cons, List.take_succ_cons, smL, smL, sum_take_succ f cs i (by simpa using h)]
    simp only [List.getElem_cons_succ]
    omega
theorem count_loop (x : Nat) (ps : List Int) (out : List S38) (n : Nat) (hn : n ≤ 40) (hout : out.length = n) (hps : ps.length = n) (heven : ∀ c ∈ cores x, ∀ d ∈ cores x, loadN out c ≤ loadN out d + 1) (hsum : smL (loadN out) (cores x) = n) (k : Nat) (hk : 100 < k) :
    ∀ (m i : Nat) (least most : Nat), i + m = (cores x).length → (least = n ∨ ∃ c ∈ cores x, least = loadN out c) → (most = 0 ∨ ∃ c ∈ cores x, most = loadN out c) →
      diapauselaw15_LoadEven.l1 (k + m + 1) ps true (ofNs (cores x)) out (least : Int) (most : Int) ((smL (loadN out) ((cores x).take i) : Nat) : Int) (i : Int) = some true
  | 0, i, least, most, he, hl, hm => by
    have hb : ∀ c, loadN out c ≤ n := fun c => by rw [← hout]; exact loadN_le out c
    have h1 : (most : Int) - (least : Int) ≤ 1 := by
      rcases hm with rfl | ⟨c, hc, rfl⟩
      · omega
      · rcases hl with rfl | ⟨d, hd, rfl⟩
        · have := hb c; omega
        · have := heven c hc d hd; omega
    have h2 : least ≤ 40 ∧ most ≤ 40 := by
      refine ⟨?_, ?_⟩
      · rcases hl with rfl | ⟨d, hd, rfl⟩
        · exact hn
        · have := hb d; omega
      · rcases hm with rfl | ⟨c, hc, rfl⟩
        · omega
        · have := hb c; omega
    rw [diapauselaw15_LoadEven.l1, if_neg (by simp [ofNs]; omega), if_pos rfl, wrap64_id (by omega) (by omega), if_pos h1, List.take_of_length_le (by omega), hsum, hps]
    simp
  | m + 1, i, least, most, he, hl, hm => by
    have hi : i < (cores x).length := by omega
    have er : rd (ofNs (cores x)) (i : Int) = (((cores x)[i] : Nat) : Int) := by rw [rd_nat]; simp [ofNs, hi, List.getD]
    have hc := List.getElem_mem hi
    have hlen := cores_length x
    have hb : ∀ c, loadN out c ≤ n := fun c => by rw [← hout]; exact loadN_le out c
    have hsb : smL (loadN out) ((cores x).take i) + loadN out (cores x)[i] ≤ 64 * 40 + 40 := by
      have : ∀ cs : List Nat, smL (loadN out) cs ≤ cs.length * 40 := by
        intro cs; induction cs with
        | nil => exact Nat.zero_le _
        | cons c cs ih => rw [smL, List.length_cons]; have := hb c; omega
      have h1 := this ((cores x).take i)
      have h2 : ((cores x).take i).length ≤ 64 := by simp; omega
      have := hb (cores x)[i]
      omega
    rw [show k + (m + 1) + 1 = (k + m + 1) + 1 by omega, diapauselaw15_LoadEven.l1, if_pos (by simp [ofNs]; omega), if_pos (by omega), er, load_r out (by omega) _ _ (by omega), bs, loadI_nat, w64 (by omega), wrap64_id (by omega) (by omega)]
    have e1 : mn (least : Int) ((loadN out (cores x)[i] : Nat) : Int) = ((if least ≤ loadN out (cores x)[i] then least else loadN out (cores x)[i] : Nat) : Int) := by unfold mn; split <;> split <;> omega
    have e2 : mx (most : Int) ((loadN out (cores x)[i] : Nat) : Int) = ((if most < loadN out (cores x)[i] then loadN out (cores x)[i] else most : Nat) : Int) := by unfold mx; split <;> split <;> omega
    have e3 : ((smL (loadN out) ((cores x).take i) : Nat) : Int) + ((loadN out (cores x)[i] : Nat) : Int) = ((smL (loadN out) ((cores x).take (i + 1)) : Nat) : Int) := by rw [sum_take_succ _ _ i hi]; omega
    rw [e1, e2, e3]
    refine count_loop x ps out n hn hout hps heven hsum k hk m (i + 1) _ _ (by omega) ?_ ?_
    · split
      · exact hl
      · exact .inr ⟨_, hc, rfl⟩
    · split
      · exact .inr ⟨_, hc, rfl⟩
      · exact hm
theorem ones_bit (k : Nat) (h : k < 64) : (18446744073709551615 : Int).toNat.testBit k = true := by
  have : ∀ k : Fin 64, (18446744073709551615 : Int).toNat.testBit k.val = true := by decide +kernel
  exact this ⟨k, h⟩
theorem fill_loop (x : Nat) (hx : x < 18446744073709551616) (ps : List Int) (hn : ps.length ≤ 40) (hw : ∀ v ∈ ps, 0 ≤ v ∧ v < 256) (h0 : 0 < (cores x).length) (k : Nat) (hk : 300 < k) : ∀ (m i : Nat), i + m = ps.length →
    diapauselaw15_LoadEven.l0 (k + m + 1) ps (x : Int) true (ofNs (cores x)) (seatsN ps (ofNs (cores x)) i) (i : Int) = some true
  | 0, i, he => by
    obtain rfl : i = ps.length := by omega
    have hcl := cores_length x
    have hlen : (ofNs (cores x)).length = (cores x).length := by simp [ofNs]
    have hon : ∀ s ∈ seatsN ps (ofNs (cores x)) ps.length, s.f2 = 18446744073709551615 ∧ ∃ c ∈ cores x, s.f1 = (c : Nat) := by
      intro s hs
      simp only [seatsN, List.mem_map, List.mem_range] at hs
      obtain ⟨j, hj, rfl⟩ := hs
      refine ⟨rfl, ?_⟩
      have hv : 0 ≤ rd ps (j : Int) ∧ rd ps (j : Int) < 256 := by
        rw [rd_nat]
        have : ps.getD j 0 = ps[j] := by simp [hj, List.getD]
        rw [this]; exact hw _ (List.getElem_mem hj)
      have t1 := Int.tmod_nonneg ((ofNs (cores x)).length : Int) hv.1
      have t2 := Int.tmod_lt_of_pos (rd ps (j : Int)) (show (0 : Int) < ((ofNs (cores x)).length : Int) by omega)
      obtain ⟨q, hq⟩ := Int.eq_ofNat_of_zero_le t1
      simp only [seatAt]
      rw [hq] at t2 ⊢
      have hq2 : q < (cores x).length := by omega
      refine ⟨(cores x)[q], List.getElem_mem hq2, ?_⟩
      rw [rd_nat]; simp [ofNs, hq2, List.getD]
    rw [diapauselaw15_LoadEven.l0, if_neg (by omega)]
    have hset : load_Settle.f (seatsN ps (ofNs (cores x)) ps.length) (x : Int) = some ((settleF x (ps.length * (ps.length + 64)) (seatsN ps (ofNs (cores x)) ps.length) 0).1, (((settleF x (ps.length * (ps.length + 64)) (seatsN ps (ofNs (cores x)) ps.length) 0).2 : Nat) : Int)) := by
      unfold load_Settle.f
      rw [if_pos ⟨⟨by omega, by omega⟩, by rw [seatsN_len]; omega, fun s hs => by rw [(hon s hs).1]; omega⟩, seatsN_len, Int.toNat_natCast]
    rw [hset, bs]
    obtain ⟨g1, g2, g3, _, _, _, g7⟩ := settle_spec x (ps.length * (ps.length + 64)) (seatsN ps (ofNs (cores x)) ps.length) 0 (seatsN_apart _ _ _) (by
      have := settle_all x (seatsN ps (ofNs (cores x)) ps.length) (seatsN_apart _ _ _)
      rwa [seatsN_len] at this)
    generalize (settleF x (ps.length * (ps.length + 64)) (seatsN ps (ofNs (cores x)) ps.length) 0) = res at g1 g2 g3 g7 ⊢
    have hfin : ∀ s ∈ res.1, s.f2 = 18446744073709551615 ∧ ∃ c ∈ cores x, s.f1 = (c : Nat) := by
      intro s hs
      obtain ⟨j, hj, rfl⟩ := List.mem_iff_getElem.1 hs
      have hj' : j < (seatsN ps (ofNs (cores x)) ps.length).length := by omega
      obtain ⟨_, q2, q3⟩ := g7 j hj' hj
      obtain ⟨p2, p3⟩ := hon _ (List.getElem_mem hj')
      refine ⟨q2.trans p2, ?_⟩
      rcases q3 with q3 | ⟨c, d, _, _, _, q4, q5, q6, _⟩
      · obtain ⟨c, hc, e⟩ := p3
        exact ⟨c, hc, q3.trans e⟩
      · exact ⟨d, mem_cores.2 ⟨q5, q6⟩, q4⟩
    have hlen2 : res.1.length = ps.length := by rw [g2, seatsN_len]
    have := count_loop x ps res.1 ps.length hn hlen2 rfl (fun c hc d hd => by
      by_cases hz : loadN res.1 c = 0
      · omega
      · have hex : ∃ s ∈ res.1, s.f1 = (c : Int) := by
          have : 0 < (res.1.filter fun s => s.f1 == (c : Int)).length := by unfold loadN at hz; omega
          obtain ⟨s, hs⟩ := List.exists_mem_of_length_pos this
          rw [List.mem_filter] at hs
          exact ⟨s, hs.1, by simpa using hs.2⟩
        obtain ⟨s, hs, e⟩ := hex
        obtain ⟨c1, c2⟩ := mem_cores.1 hc
        obtain ⟨d1, d2⟩ := mem_cores.1 hd
        exact bal_none g1 s hs c e c1 c2 d d1 (by rw [(hfin s hs).1]; exact ones_bit d d1) d2) (by
        rw [smL_all (cores x) (by unfold cores; exact List.nodup_range.filter _) res.1 (fun s hs => (hfin s hs).2)]; exact hlen2) (k - (cores x).length - 1) (by omega) (cores x).length 0 ps.length 0 (by omega) (.inl rfl) (.inl rfl)
    rw [show k - (cores x).length - 1 + (cores x).length + 1 = k by omega, List.take_zero] at this
    exact this
  | m + 1, i, he => by
    have hi : i < ps.length := by omega
    have hv := hw _ (List.getElem_mem hi)
    have hlen : (ofNs (cores x)).length = (cores x).length := by simp [ofNs]
    have e : rd ps (i : Int) = ps[i] := by rw [rd_nat]; simp [hi, List.getD]
    have hv' : 0 ≤ rd ps (i : Int) ∧ rd ps (i : Int) < 256 := by rw [e]; exact hv
    have t1 := Int.tmod_nonneg ((ofNs (cores x)).length : Int) hv'.1
    have t2 := Int.tmod_lt_of_pos (rd ps (i : Int)) (show (0 : Int) < ((ofNs (cores x)).length : Int) by omega)
    have es : seatsN ps (ofNs (cores x)) i ++ [seatAt ps (ofNs (cores x)) i] = seatsN ps (ofNs (cores x)) (i + 1) := by unfold seatsN; rw [List.range_succ, List.map_append]; rfl
    rw [show k + (m + 1) + 1 = (k + m + 1) + 1 by omega, diapauselaw15_LoadEven.l0, if_pos (by omega), if_pos (by omega), if_neg (by omega), wrap64_id (n := rd ps (i : Int)) (by omega) (by omega), if_pos t1, if_pos t2, if_pos (by rw [seatsN_len]; omega), wrap64_id (n := (i : Int) + 1) (by omega) (by omega)]
    have ih := fill_loop x hx ps hn hw h0 k hk m (i + 1) (by omega)
    rw [← es, show ((i + 1 : Nat) : Int) = (i : Int) + 1 by omega] at ih
    exact ih
theorem loadEven_pure (l0 : List Int) (a1 : Int) (hw : ∀ v ∈ l0, (Lit.int .u8 v).wf = true) (h1 : (Lit.int .u64 a1).wf = true) : ∃ k, diapauselaw15_LoadEven.f k l0 a1 = some true := by
  obtain ⟨x, rfl, hx⟩ := bnd_u64 h1
  have hw' : ∀ v ∈ l0, 0 ≤ v ∧ v < 256 := by
    intro v hv
    have h := hw v hv
    simp [Lit.wf, IntKind.min, IntKind.max, IntKind.signed, IntKind.bits] at h
    omega
  refine ⟨400 + l0.length + 1 + 1, ?_⟩
  unfold diapauselaw15_LoadEven.f
  rw [awake_f, bs, all_r _ (by omega) x hx, bs]
  by_cases c1 : (l0.length : Int) > 40
  · rw [if_pos c1, diapauselaw15_LoadEven.j0, if_pos rfl]
  · rw [if_neg c1]
    have hlen : (ofNs (cores x)).length = (cores x).length := by simp [ofNs]
    by_cases c2 : (cores x).length = 0
    · have : (((ofNs (cores x)).length : Int) == 0) = true := by rw [hlen, c2]; rfl
      rw [this, diapauselaw15_LoadEven.j0, if_pos rfl]
    · have : (((ofNs (cores x)).length : Int) == 0) = false := by rw [hlen]; exact beq_eq_false_iff_ne.2 (by omega)
      rw [this, diapauselaw15_LoadEven.j0, if_neg (by decide)]
      exact fill_loop x hx l0 (by omega) hw' (by omega) 400 (by omega) l0.length 0 (by omega)
end Go.Proofs.YtgkmipfcadiobaaDoor.GE
