-- PRINTED BY print.sh 35421559b90ae4d0a3588c463048766b98c2df88dd9212a6774a882060cdf62d: not written by this session
import Derived.Test.YtcchnefndcnnnaaPEndsx0
namespace Go.Proofs.Ytcchnefndcnnnaa.PEnds
open Go.RowKit Go.Proofs.YtcchnefndcnnnaaW.PrintWords Go.Proofs.YtcchnefndcnnnaaW.PrintLast Go.Proofs.YtcchnefndcnnnaaW.PrintMore
attribute [local go_sem] max2_int min2_int max_two min_two max_three min_three max_four min_four   -- for this text's walks alone
set_option linter.unusedVariables false
set_option linter.unusedSimpArgs false

/-! ### diapauseref08_Held: function 24 -/
def diapauseref08_Held.f (a0 : Int) : Option (Int) := if a0 < 0 then (some 0) else (if a0 > 1099511627776 then (some 1099511627776) else (some a0))
set_option maxHeartbeats 8000000 in
set_option maxRecDepth 100000 in
theorem diapauseref08_Held.calls (a0 : Int) (r : Int) (w : World) (h : diapauseref08_Held.f a0 = some r) :
    Calls Try.prog 24 #[.int .i64 a0] w fun e w' => e = .returned (.int .i64 r) ∧ Drawn0 w w' := by
  have H : (if a0 < 0 then (some 0) else (if a0 > 1099511627776 then (some 1099511627776) else (some a0))) = some r := h
  clear h
  by_cases c2 : a0 < 0
  · rw [if_pos c2] at H
    have c2b0 : decide (a0 < 0) = true := decide_eq_true c2
    clear c2
    obtain rfl := Option.some.inj H
    go_enter Try.func24, Try.ntmps24
    go_wp2
    go_ret
    exact ⟨by first | rfl | (simp; done) | (simp [*]; done), by repeat (first | exact Drawn0.refl _ | apply Drawn0.step)⟩
  · rw [if_neg c2] at H
    have c2b0 : decide (a0 < 0) = false := decide_eq_false c2
    clear c2
    by_cases c3 : a0 > 1099511627776
    · rw [if_pos c3] at H
      have c3b0 : decide (1099511627776 < a0) = true := decide_eq_true c3
      clear c3
      obtain rfl := Option.some.inj H
      go_enter Try.func24, Try.ntmps24
      go_wp2
      go_ret
      exact ⟨by first | rfl | (simp; done) | (simp [*]; done), by repeat (first | exact Drawn0.refl _ | apply Drawn0.step)⟩
    · rw [if_neg c3] at H
      have c3b0 : decide (1099511627776 < a0) = false := decide_eq_false c3
      clear c3
      obtain rfl := Option.some.inj H
      go_enter Try.func24, Try.ntmps24
      go_wp2
      go_ret
      exact ⟨by first | rfl | (simp; done) | (simp [*]; done), by repeat (first | exact Drawn0.refl _ | apply Drawn0.step)⟩

/-! ### diapauseref08_Ends: function 13 -/
def diapauseref08_Ends.f (a0 : Int) (a1 : Int) (a2 : Int) : Option (Int) := if a0 < 1 then (some 0) else ((diapauseref08_Held.f a1).bind fun t101 => ((diapauseref08_Held.f a2).bind fun t102 => (if a0 = 0 then (none) else (if (wrap64 ((wrap64 (t101 - (Int.tmod t101 a0))) + a0)) > (wrap64 (t101 + t102)) then (some 0) else (some (wrap64 ((wrap64 (Int.tdiv (wrap64 ((wrap64 (t101 + t102)) - (wrap64 ((wrap64 (t101 - (Int.tmod t101 a0))) + a0)))) a0)) + 1)))))))
set_option maxHeartbeats 8000000 in
set_option maxRecDepth 100000 in
theorem diapauseref08_Ends.calls (a0 : Int) (a1 : Int) (a2 : Int) (r : Int) (w : World) (h : diapauseref08_Ends.f a0 a1 a2 = some r) :
    Calls Try.prog 13 #[.int .i64 a0, .int .i64 a1, .int .i64 a2] w fun e w' => e = .returned (.int .i64 r) ∧ Drawn0 w w' := by
  have H : (if a0 < 1 then (some 0) else ((diapauseref08_Held.f a1).bind fun t101 => ((diapauseref08_Held.f a2).bind fun t102 => (if a0 = 0 then (none) else (if (wrap64 ((wrap64 (t101 - (Int.tmod t101 a0))) + a0)) > (wrap64 (t101 + t102)) then (some 0) else (some (wrap64 ((wrap64 (Int.tdiv (wrap64 ((wrap64 (t101 + t102)) - (wrap64 ((wrap64 (t101 - (Int.tmod t101 a0))) + a0)))) a0)) + 1)))))))) = some r := h
  clear h
  by_cases c4 : a0 < 1
  · rw [if_pos c4] at H
    have c4b0 : decide (a0 < 1) = true := decide_eq_true c4
    clear c4
    obtain rfl := Option.some.inj H
    go_enter Try.func13, Try.ntmps13
    go_wp2
    go_ret
    exact ⟨by first | rfl | (simp; done) | (simp [*]; done), by repeat (first | exact Drawn0.refl _ | apply Drawn0.step)⟩
  · rw [if_neg c4] at H
    have c4b0 : decide (a0 < 1) = false := decide_eq_false c4
    clear c4
    replace H := Option.bind_eq_some_iff.mp H
    obtain ⟨t101, A50, H⟩ := H
    replace H : ((diapauseref08_Held.f a2).bind fun t102 => (if a0 = 0 then (none) else (if (wrap64 ((wrap64 (t101 - (Int.tmod t101 a0))) + a0)) > (wrap64 (t101 + t102)) then (some 0) else (some (wrap64 ((wrap64 (Int.tdiv (wrap64 ((wrap64 (t101 + t102)) - (wrap64 ((wrap64 (t101 - (Int.tmod t101 a0))) + a0)))) a0)) + 1)))))) = some r := H
    have A5 := Aside0.mk A50
    clear A50
    replace H := Option.bind_eq_some_iff.mp H
    obtain ⟨t102, A60, H⟩ := H
    replace H : (if a0 = 0 then (none) else (if (wrap64 ((wrap64 (t101 - (Int.tmod t101 a0))) + a0)) > (wrap64 (t101 + t102)) then (some 0) else (some (wrap64 ((wrap64 (Int.tdiv (wrap64 ((wrap64 (t101 + t102)) - (wrap64 ((wrap64 (t101 - (Int.tmod t101 a0))) + a0)))) a0)) + 1))))) = some r := H
    have A6 := Aside0.mk A60
    clear A60
    by_cases c7 : a0 = 0
    · rw [if_pos c7] at H
      exact absurd H (by simp)
    · rw [if_neg c7] at H
      have c7b0 : (a0 == 0) = false := beq_eq_false_iff_ne.mpr c7
      have c7b1 : (a0 != 0) = true := bne_iff_ne.mpr c7
      by_cases c8 : (wrap64 ((wrap64 (t101 - (Int.tmod t101 a0))) + a0)) > (wrap64 (t101 + t102))
      · rw [if_pos c8] at H
        have c8b0 : decide ((wrap64 (t101 + t102)) < (wrap64 ((wrap64 (t101 - (Int.tmod t101 a0))) + a0))) = true := decide_eq_true c8
        clear c8
        obtain rfl := Option.some.inj H
        go_enter Try.func13, Try.ntmps13
        go_wp2_with (first | ((with_reducible refine gate_callee (f := 24) rfl ?_); refine goesL_ (some 13) rfl rfl Try.func24 (by kernel_rfl) rfl #[.int .i64 a1] rfl (by (try simp only [List.map_toArray, List.map_cons, List.map_nil]); first | done | rfl | (simp only [List.length_drop, List.length_take]; rfl)) ?_; (with_reducible refine (diapauseref08_Held.calls a1 t101 _ A5.out).mono ?_); rintro e w' ⟨rfl, ⟨nd, rfl⟩⟩; refine ⟨_, rfl, ?_⟩) | ((with_reducible refine gate_callee (f := 24) rfl ?_); refine goesL_ (some 16) rfl rfl Try.func24 (by kernel_rfl) rfl #[.int .i64 a2] rfl (by (try simp only [List.map_toArray, List.map_cons, List.map_nil]); first | done | rfl | (simp only [List.length_drop, List.length_take]; rfl)) ?_; (with_reducible refine (diapauseref08_Held.calls a2 t102 _ A6.out).mono ?_); rintro e w' ⟨rfl, ⟨nd, rfl⟩⟩; refine ⟨_, rfl, ?_⟩))
        go_ret
        exact ⟨by first | rfl | (simp; done) | (simp [*]; done), by repeat (first | exact Drawn0.refl _ | apply Drawn0.step)⟩
      · rw [if_neg c8] at H
        have c8b0 : decide ((wrap64 (t101 + t102)) < (wrap64 ((wrap64 (t101 - (Int.tmod t101 a0))) + a0))) = false := decide_eq_false c8
        clear c8
        obtain rfl := Option.some.inj H
        go_enter Try.func13, Try.ntmps13
        go_wp2_with (first | ((with_reducible refine gate_callee (f := 24) rfl ?_); refine goesL_ (some 13) rfl rfl Try.func24 (by kernel_rfl) rfl #[.int .i64 a1] rfl (by (try simp only [List.map_toArray, List.map_cons, List.map_nil]); first | done | rfl | (simp only [List.length_drop, List.length_take]; rfl)) ?_; (with_reducible refine (diapauseref08_Held.calls a1 t101 _ A5.out).mono ?_); rintro e w' ⟨rfl, ⟨nd, rfl⟩⟩; refine ⟨_, rfl, ?_⟩) | ((with_reducible refine gate_callee (f := 24) rfl ?_); refine goesL_ (some 16) rfl rfl Try.func24 (by kernel_rfl) rfl #[.int .i64 a2] rfl (by (try simp only [List.map_toArray, List.map_cons, List.map_nil]); first | done | rfl | (simp only [List.length_drop, List.length_take]; rfl)) ?_; (with_reducible refine (diapauseref08_Held.calls a2 t102 _ A6.out).mono ?_); rintro e w' ⟨rfl, ⟨nd, rfl⟩⟩; refine ⟨_, rfl, ?_⟩))
        go_ret
        exact ⟨by first | rfl | (simp; done) | (simp [*]; done), by repeat (first | exact Drawn0.refl _ | apply Drawn0.step)⟩

end Go.Proofs.Ytcchnefndcnnnaa.PEnds
