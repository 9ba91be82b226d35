-- PRINTED BY print.sh 35421559b90ae4d0a3588c463048766b98c2df88dd9212a6774a882060cdf62d: not written by this session
import Derived.Test.YtjcenohbaamadaaPSpaceWithinx0
namespace Go.Proofs.Ytjcenohbaamadaa.PSpaceWithin
open Go.RowKit Go.Proofs.YtjcenohbaamadaaW.PrintWords Go.Proofs.YtjcenohbaamadaaW.PrintLast Go.Proofs.YtjcenohbaamadaaW.PrintMore
attribute [local go_sem] max2_int min2_int max_two min_two max_three min_three max_four min_four   -- for this text's walks alone
set_option linter.unusedVariables false
set_option linter.unusedSimpArgs false

/-! ### space_Key: function 9 -/
def space_Key.f (a0 : Int) (a1 : Int) (a2 : Int) : Option (Int × Bool) := if a0 < 0 then (some (0, false)) else (if a0 ≥ 16 then (some (0, false)) else (if a1 < 0 then (some (0, false)) else (if a1 > 268435455 then (some (0, false)) else (if a2 < 0 then (some (0, false)) else (if a2 ≥ 4294967296 then (some (0, false)) else (some (IntKind.u64.wrap ((IntKind.u64.wrap ((IntKind.u64.wrap ((IntKind.u64.wrap (a0)) * 1152921504606846976)) + (IntKind.u64.wrap ((IntKind.u64.wrap (a1)) * 4294967296)))) + (IntKind.u64.wrap (a2))), true)))))))
set_option maxHeartbeats 8000000 in
set_option maxRecDepth 100000 in
theorem space_Key.calls (a0 : Int) (a1 : Int) (a2 : Int) (r1 : Int) (r2 : Bool) (w : World) (h : space_Key.f a0 a1 a2 = some (r1, r2)) :
    Calls Try.prog 9 #[.int .i64 a0, .int .i64 a1, .int .i64 a2] w fun e w' => e = .returned (.tuple #[.int .u64 r1, .bool r2]) ∧ Drawn0 w w' := by
  have H : (if a0 < 0 then (some (0, false)) else (if a0 ≥ 16 then (some (0, false)) else (if a1 < 0 then (some (0, false)) else (if a1 > 268435455 then (some (0, false)) else (if a2 < 0 then (some (0, false)) else (if a2 ≥ 4294967296 then (some (0, false)) else (some (IntKind.u64.wrap ((IntKind.u64.wrap ((IntKind.u64.wrap ((IntKind.u64.wrap (a0)) * 1152921504606846976)) + (IntKind.u64.wrap ((IntKind.u64.wrap (a1)) * 4294967296)))) + (IntKind.u64.wrap (a2))), true)))))))) = some (r1, r2) := h
  clear h
  by_cases c4 : a0 < 0
  · rw [if_pos c4] at H
    have c4b0 : decide (a0 < 0) = true := decide_eq_true c4
    clear c4
    simp only [Option.some.injEq, Prod.mk.injEq] at H
    obtain ⟨rfl, rfl⟩ := H
    go_enter Try.func9, Try.ntmps9
    go_wp2
    go_ret2
    exact ⟨by first | rfl | (simp; done) | (simp [*]; done), by repeat (first | exact Drawn0.refl _ | apply Drawn0.step)⟩
  · rw [if_neg c4] at H
    have c4b0 : decide (a0 < 0) = false := decide_eq_false c4
    clear c4
    by_cases c5 : a0 ≥ 16
    · rw [if_pos c5] at H
      have c5b0 : decide (16 ≤ a0) = true := decide_eq_true c5
      clear c5
      simp only [Option.some.injEq, Prod.mk.injEq] at H
      obtain ⟨rfl, rfl⟩ := H
      go_enter Try.func9, Try.ntmps9
      go_wp2
      go_ret2
      exact ⟨by first | rfl | (simp; done) | (simp [*]; done), by repeat (first | exact Drawn0.refl _ | apply Drawn0.step)⟩
    · rw [if_neg c5] at H
      have c5b0 : decide (16 ≤ a0) = false := decide_eq_false c5
      clear c5
      by_cases c6 : a1 < 0
      · rw [if_pos c6] at H
        have c6b0 : decide (a1 < 0) = true := decide_eq_true c6
        clear c6
        simp only [Option.some.injEq, Prod.mk.injEq] at H
        obtain ⟨rfl, rfl⟩ := H
        go_enter Try.func9, Try.ntmps9
        go_wp2
        go_ret2
        exact ⟨by first | rfl | (simp; done) | (simp [*]; done), by repeat (first | exact Drawn0.refl _ | apply Drawn0.step)⟩
      · rw [if_neg c6] at H
        have c6b0 : decide (a1 < 0) = false := decide_eq_false c6
        clear c6
        by_cases c7 : a1 > 268435455
        · rw [if_pos c7] at H
          have c7b0 : decide (268435455 < a1) = true := decide_eq_true c7
          clear c7
          simp only [Option.some.injEq, Prod.mk.injEq] at H
          obtain ⟨rfl, rfl⟩ := H
          go_enter Try.func9, Try.ntmps9
          go_wp2
          go_ret2
          exact ⟨by first | rfl | (simp; done) | (simp [*]; done), by repeat (first | exact Drawn0.refl _ | apply Drawn0.step)⟩
        · rw [if_neg c7] at H
          have c7b0 : decide (268435455 < a1) = false := decide_eq_false c7
          clear c7
          by_cases c8 : a2 < 0
          · rw [if_pos c8] at H
            have c8b0 : decide (a2 < 0) = true := decide_eq_true c8
            clear c8
            simp only [Option.some.injEq, Prod.mk.injEq] at H
            obtain ⟨rfl, rfl⟩ := H
            go_enter Try.func9, Try.ntmps9
            go_wp2
            go_ret2
            exact ⟨by first | rfl | (simp; done) | (simp [*]; done), by repeat (first | exact Drawn0.refl _ | apply Drawn0.step)⟩
          · rw [if_neg c8] at H
            have c8b0 : decide (a2 < 0) = false := decide_eq_false c8
            clear c8
            by_cases c9 : a2 ≥ 4294967296
            · rw [if_pos c9] at H
              have c9b0 : decide (4294967296 ≤ a2) = true := decide_eq_true c9
              clear c9
              simp only [Option.some.injEq, Prod.mk.injEq] at H
              obtain ⟨rfl, rfl⟩ := H
              go_enter Try.func9, Try.ntmps9
              go_wp2
              go_ret2
              exact ⟨by first | rfl | (simp; done) | (simp [*]; done), by repeat (first | exact Drawn0.refl _ | apply Drawn0.step)⟩
            · rw [if_neg c9] at H
              have c9b0 : decide (4294967296 ≤ a2) = false := decide_eq_false c9
              clear c9
              simp only [Option.some.injEq, Prod.mk.injEq] at H
              obtain ⟨rfl, rfl⟩ := H
              go_enter Try.func9, Try.ntmps9
              go_wp2
              go_ret2
              exact ⟨by first | rfl | (simp; done) | (simp [*]; done), by repeat (first | exact Drawn0.refl _ | apply Drawn0.step)⟩

/-! ### space_Split: function 11 -/
def space_Split.f (a0 : Int) : Option (Int × Int × Int) := some (wrap64 (a0 / 1152921504606846976), Go.bits .and .i64 (wrap64 (a0 / 4294967296)) 268435455, (a0) % 4294967296)
set_option maxHeartbeats 8000000 in
set_option maxRecDepth 100000 in
theorem space_Split.calls (a0 : Int) (r1 : Int) (r2 : Int) (r3 : Int) (w : World) (h : space_Split.f a0 = some (r1, r2, r3)) :
    Calls Try.prog 11 #[.int .u64 a0] w fun e w' => e = .returned (.tuple #[.int .i64 r1, .int .i64 r2, .int .i64 r3]) ∧ Drawn0 w w' := by
  have H : (some (wrap64 (a0 / 1152921504606846976), Go.bits .and .i64 (wrap64 (a0 / 4294967296)) 268435455, (a0) % 4294967296)) = some (r1, r2, r3) := h
  clear h
  simp only [Option.some.injEq, Prod.mk.injEq] at H
  obtain ⟨rfl, rfl, rfl⟩ := H
  go_enter Try.func11, Try.ntmps11
  go_wp2
  go_ret3
  exact ⟨by first | rfl | (simp; done) | (simp [*]; done), by repeat (first | exact Drawn0.refl _ | apply Drawn0.step)⟩

/-! ### space_In: function 10 -/
def space_In.f (a0 : Int) (a1 : Int) (a2 : Int) : Option (Bool) := (space_Split.f a0).bind fun bt101 => (if bt101.1 = a1 then (some (bt101.2.1 == a2)) else (some false))
set_option maxHeartbeats 8000000 in
set_option maxRecDepth 100000 in
theorem space_In.calls (a0 : Int) (a1 : Int) (a2 : Int) (r : Bool) (w : World) (h : space_In.f a0 a1 a2 = some r) :
    Calls Try.prog 10 #[.int .u64 a0, .int .i64 a1, .int .i64 a2] w fun e w' => e = .returned (.bool r) ∧ Drawn0 w w' := by
  have H : ((space_Split.f a0).bind fun bt101 => (if bt101.1 = a1 then (some (bt101.2.1 == a2)) else (some false))) = some r := h
  clear h
  replace H := Option.bind_eq_some_iff.mp H
  obtain ⟨⟨t101, t102, t103⟩, A40, H⟩ := H
  replace H : (if t101 = a1 then (some (t102 == a2)) else (some false)) = some r := H
  have A4 := Aside0.mk A40
  clear A40
  by_cases c5 : t101 = a1
  · rw [if_pos c5] at H
    have c5b0 : (t101 == a1) = true := beq_iff_eq.mpr c5
    have c5b1 : (t101 != a1) = false := bne_eq_false_iff_eq.mpr c5
    clear c5
    obtain rfl := Option.some.inj H
    go_enter Try.func10, Try.ntmps10
    go_wp2_with (first | ((with_reducible refine gate_callee (f := 11) rfl ?_); refine goesL_ (some 12) rfl rfl Try.func11 (by kernel_rfl) rfl #[.int .u64 a0] rfl (by (try simp only [List.map_toArray, List.map_cons, List.map_nil]); first | done | rfl | (simp only [List.length_drop, List.length_take]; rfl)) ?_; (with_reducible refine (space_Split.calls a0 t101 t102 t103 _ A4.out).mono ?_); rintro e w' ⟨rfl, ⟨nd, rfl⟩⟩; refine ⟨_, rfl, ?_⟩))
    go_ret
    exact ⟨by first | rfl | (simp; done) | (simp [*]; done), by repeat (first | exact Drawn0.refl _ | apply Drawn0.step)⟩
  · rw [if_neg c5] at H
    have c5b0 : (t101 == a1) = false := beq_eq_false_iff_ne.mpr c5
    have c5b1 : (t101 != a1) = true := bne_iff_ne.mpr c5
    obtain rfl := Option.some.inj H
    go_enter Try.func10, Try.ntmps10
    go_wp2_with (first | ((with_reducible refine gate_callee (f := 11) rfl ?_); refine goesL_ (some 12) rfl rfl Try.func11 (by kernel_rfl) rfl #[.int .u64 a0] rfl (by (try simp only [List.map_toArray, List.map_cons, List.map_nil]); first | done | rfl | (simp only [List.length_drop, List.length_take]; rfl)) ?_; (with_reducible refine (space_Split.calls a0 t101 t102 t103 _ A4.out).mono ?_); rintro e w' ⟨rfl, ⟨nd, rfl⟩⟩; refine ⟨_, rfl, ?_⟩))
    go_ret
    exact ⟨by first | rfl | (simp; done) | (simp [*]; done), by repeat (first | exact Drawn0.refl _ | apply Drawn0.step)⟩

/-! ### bailiwicklaw13_examples: function 8 -/
def bailiwicklaw13_examples.f  : Option (Bool) := (space_Key.f 1 0 5).bind fun bt104 => (if bt104.1 = 1152921504606846981 then (if bt104.2 = true then ((space_In.f bt104.1 1 0).bind fun t106 => (some t106)) else (some false)) else (some false))
set_option maxHeartbeats 8000000 in
set_option maxRecDepth 100000 in
theorem bailiwicklaw13_examples.calls  (r : Bool) (w : World) (h : bailiwicklaw13_examples.f  = some r) :
    Calls Try.prog 8 #[] w fun e w' => e = .returned (.bool r) ∧ Drawn0 w w' := by
  have H : ((space_Key.f 1 0 5).bind fun bt104 => (if bt104.1 = 1152921504606846981 then (if bt104.2 = true then ((space_In.f bt104.1 1 0).bind fun t106 => (some t106)) else (some false)) else (some false))) = some r := h
  clear h
  replace H := Option.bind_eq_some_iff.mp H
  obtain ⟨⟨t104, t105⟩, A10, H⟩ := H
  replace H : (if t104 = 1152921504606846981 then (if t105 = true then ((space_In.f t104 1 0).bind fun t106 => (some t106)) else (some false)) else (some false)) = some r := H
  have A1 := Aside0.mk A10
  clear A10
  by_cases c2 : t104 = 1152921504606846981
  · rw [if_pos c2] at H
    have c2b0 : (t104 == 1152921504606846981) = true := beq_iff_eq.mpr c2
    have c2b1 : (t104 != 1152921504606846981) = false := bne_eq_false_iff_eq.mpr c2
    clear c2
    by_cases c3 : t105 = true
    · subst c3
      have H1 : ((space_In.f t104 1 0).bind fun t106 => (some t106)) = some r := by rw [if_pos rfl] at H; exact H
      clear H
      have H := H1
      clear H1
      replace H := Option.bind_eq_some_iff.mp H
      obtain ⟨t106, A40, H⟩ := H
      replace H : (some t106) = some r := H
      have A4 := Aside0.mk A40
      clear A40
      obtain rfl := Option.some.inj H
      go_enter Try.func8, Try.ntmps8
      go_wp2_with (first | ((with_reducible refine gate_callee (f := 9) rfl ?_); refine goesL_ (some 4) rfl rfl Try.func9 (by kernel_rfl) rfl #[.int .i64 1, .int .i64 0, .int .i64 5] rfl (by (try simp only [List.map_toArray, List.map_cons, List.map_nil]); first | done | rfl | (simp only [List.length_drop, List.length_take]; rfl)) ?_; (with_reducible refine (space_Key.calls 1 0 5 t104 true _ A1.out).mono ?_); rintro e w' ⟨rfl, ⟨nd, rfl⟩⟩; refine ⟨_, rfl, ?_⟩) | (go_at_call 10; (with_reducible refine (space_In.calls t104 1 0 t106 _ A4.out).mono ?_); rintro e w' ⟨rfl, ⟨nd, rfl⟩⟩))
      go_ret
      exact ⟨by first | rfl | (simp; done) | (simp [*]; done), by repeat (first | exact Drawn0.refl _ | apply Drawn0.step)⟩
    · replace c3 := Bool.eq_false_iff.mpr c3
      subst c3
      have H1 : (some false) = some r := by rw [if_neg (show ¬ (false = true) by decide)] at H; exact H
      clear H
      have H := H1
      clear H1
      obtain rfl := Option.some.inj H
      go_enter Try.func8, Try.ntmps8
      go_wp2_with (first | ((with_reducible refine gate_callee (f := 9) rfl ?_); refine goesL_ (some 4) rfl rfl Try.func9 (by kernel_rfl) rfl #[.int .i64 1, .int .i64 0, .int .i64 5] rfl (by (try simp only [List.map_toArray, List.map_cons, List.map_nil]); first | done | rfl | (simp only [List.length_drop, List.length_take]; rfl)) ?_; (with_reducible refine (space_Key.calls 1 0 5 t104 false _ A1.out).mono ?_); rintro e w' ⟨rfl, ⟨nd, rfl⟩⟩; refine ⟨_, rfl, ?_⟩))
      go_ret
      exact ⟨by first | rfl | (simp; done) | (simp [*]; done), by repeat (first | exact Drawn0.refl _ | apply Drawn0.step)⟩
  · rw [if_neg c2] at H
    have c2b0 : (t104 == 1152921504606846981) = false := beq_eq_false_iff_ne.mpr c2
    have c2b1 : (t104 != 1152921504606846981) = true := bne_iff_ne.mpr c2
    obtain rfl := Option.some.inj H
    go_enter Try.func8, Try.ntmps8
    go_wp2_with (first | ((with_reducible refine gate_callee (f := 9) rfl ?_); refine goesL_ (some 4) rfl rfl Try.func9 (by kernel_rfl) rfl #[.int .i64 1, .int .i64 0, .int .i64 5] rfl (by (try simp only [List.map_toArray, List.map_cons, List.map_nil]); first | done | rfl | (simp only [List.length_drop, List.length_take]; rfl)) ?_; (with_reducible refine (space_Key.calls 1 0 5 t104 t105 _ A1.out).mono ?_); rintro e w' ⟨rfl, ⟨nd, rfl⟩⟩; refine ⟨_, rfl, ?_⟩))
    go_ret
    exact ⟨by first | rfl | (simp; done) | (simp [*]; done), by repeat (first | exact Drawn0.refl _ | apply Drawn0.step)⟩

/-! ### bailiwicklaw13_SpaceWithin: function 3 -/
def bailiwicklaw13_SpaceWithin.f (a0 : Int) (a1 : Int) (a2 : Int) (a3 : Int) (a4 : Int) : Option (Bool) := (bailiwicklaw13_examples.f).bind fun t107 => (if t107 = true then ((space_Key.f (wrap64 (Int.tmod a0 16)) (wrap64 (Int.tmod a1 268435456)) (wrap64 (mn a2 a3))).bind fun bt108 => ((space_Key.f (wrap64 (Int.tmod a0 16)) (wrap64 (Int.tmod a1 268435456)) (wrap64 (mx a2 a3))).bind fun bt110 => (if a4 ≥ bt108.1 then (if bt108.2 = true then (if bt110.2 = true then (if bt108.1 ≤ bt110.1 then (if a4 ≤ bt110.1 then ((space_In.f a4 (wrap64 (Int.tmod a0 16)) (wrap64 (Int.tmod a1 268435456))).bind fun t112 => (if t112 = true then ((space_In.f bt108.1 (wrap64 (Int.tmod a0 16)) (wrap64 (Int.tmod a1 268435456))).bind fun t113 => (if t113 = true then ((space_In.f bt110.1 (wrap64 (Int.tmod a0 16)) (wrap64 (Int.tmod a1 268435456))).bind fun t114 => (some t114)) else (some false))) else (some false))) else ((space_In.f bt108.1 (wrap64 (Int.tmod a0 16)) (wrap64 (Int.tmod a1 268435456))).bind fun t115 => (if t115 = true then ((space_In.f bt110.1 (wrap64 (Int.tmod a0 16)) (wrap64 (Int.tmod a1 268435456))).bind fun t116 => (some t116)) else (some false)))) else (some false)) else (some false)) else (some false)) else (if bt108.2 = true then (if bt110.2 = true then (if bt108.1 ≤ bt110.1 then ((space_In.f bt108.1 (wrap64 (Int.tmod a0 16)) (wrap64 (Int.tmod a1 268435456))).bind fun t117 => (if t117 = true then ((space_In.f bt110.1 (wrap64 (Int.tmod a0 16)) (wrap64 (Int.tmod a1 268435456))).bind fun t118 => (some t118)) else (some false))) else (some false)) else (some false)) else (some false))))) else (some false))
set_option maxHeartbeats 8000000 in
set_option maxRecDepth 100000 in
theorem bailiwicklaw13_SpaceWithin.calls (a0 : Int) (a1 : Int) (a2 : Int) (a3 : Int) (a4 : Int) (r : Bool) (w : World) (h : bailiwicklaw13_SpaceWithin.f a0 a1 a2 a3 a4 = some r) :
    Calls Try.prog 3 #[.int .u8 a0, .int .u32 a1, .int .u32 a2, .int .u32 a3, .int .u64 a4] w fun e w' => e = .returned (.bool r) ∧ Below w.heap.size w w' := by
  have HB := Aside0.mk (Below.refl w.heap.size w)
  have H : ((bailiwicklaw13_examples.f).bind fun t107 => (if t107 = true then ((space_Key.f (wrap64 (Int.tmod a0 16)) (wrap64 (Int.tmod a1 268435456)) (wrap64 (mn a2 a3))).bind fun bt108 => ((space_Key.f (wrap64 (Int.tmod a0 16)) (wrap64 (Int.tmod a1 268435456)) (wrap64 (mx a2 a3))).bind fun bt110 => (if a4 ≥ bt108.1 then (if bt108.2 = true then (if bt110.2 = true then (if bt108.1 ≤ bt110.1 then (if a4 ≤ bt110.1 then ((space_In.f a4 (wrap64 (Int.tmod a0 16)) (wrap64 (Int.tmod a1 268435456))).bind fun t112 => (if t112 = true then ((space_In.f bt108.1 (wrap64 (Int.tmod a0 16)) (wrap64 (Int.tmod a1 268435456))).bind fun t113 => (if t113 = true then ((space_In.f bt110.1 (wrap64 (Int.tmod a0 16)) (wrap64 (Int.tmod a1 268435456))).bind fun t114 => (some t114)) else (some false))) else (some false))) else ((space_In.f bt108.1 (wrap64 (Int.tmod a0 16)) (wrap64 (Int.tmod a1 268435456))).bind fun t115 => (if t115 = true then ((space_In.f bt110.1 (wrap64 (Int.tmod a0 16)) (wrap64 (Int.tmod a1 268435456))).bind fun t116 => (some t116)) else (some false)))) else (some false)) else (some false)) else (some false)) else (if bt108.2 = true then (if bt110.2 = true then (if bt108.1 ≤ bt110.1 then ((space_In.f bt108.1 (wrap64 (Int.tmod a0 16)) (wrap64 (Int.tmod a1 268435456))).bind fun t117 => (if t117 = true then ((space_In.f bt110.1 (wrap64 (Int.tmod a0 16)) (wrap64 (Int.tmod a1 268435456))).bind fun t118 => (some t118)) else (some false))) else (some false)) else (some false)) else (some false))))) else (some false))) = some r := h
  clear h
  replace H := Option.bind_eq_some_iff.mp H
  obtain ⟨t107, A60, H⟩ := H
  replace H : (if t107 = true then ((space_Key.f (wrap64 (Int.tmod a0 16)) (wrap64 (Int.tmod a1 268435456)) (wrap64 (mn a2 a3))).bind fun bt108 => ((space_Key.f (wrap64 (Int.tmod a0 16)) (wrap64 (Int.tmod a1 268435456)) (wrap64 (mx a2 a3))).bind fun bt110 => (if a4 ≥ bt108.1 then (if bt108.2 = true then (if bt110.2 = true then (if bt108.1 ≤ bt110.1 then (if a4 ≤ bt110.1 then ((space_In.f a4 (wrap64 (Int.tmod a0 16)) (wrap64 (Int.tmod a1 268435456))).bind fun t112 => (if t112 = true then ((space_In.f bt108.1 (wrap64 (Int.tmod a0 16)) (wrap64 (Int.tmod a1 268435456))).bind fun t113 => (if t113 = true then ((space_In.f bt110.1 (wrap64 (Int.tmod a0 16)) (wrap64 (Int.tmod a1 268435456))).bind fun t114 => (some t114)) else (some false))) else (some false))) else ((space_In.f bt108.1 (wrap64 (Int.tmod a0 16)) (wrap64 (Int.tmod a1 268435456))).bind fun t115 => (if t115 = true then ((space_In.f bt110.1 (wrap64 (Int.tmod a0 16)) (wrap64 (Int.tmod a1 268435456))).bind fun t116 => (some t116)) else (some false)))) else (some false)) else (some false)) else (some false)) else (if bt108.2 = true then (if bt110.2 = true then (if bt108.1 ≤ bt110.1 then ((space_In.f bt108.1 (wrap64 (Int.tmod a0 16)) (wrap64 (Int.tmod a1 268435456))).bind fun t117 => (if t117 = true then ((space_In.f bt110.1 (wrap64 (Int.tmod a0 16)) (wrap64 (Int.tmod a1 268435456))).bind fun t118 => (some t118)) else (some false))) else (some false)) else (some false)) else (some false))))) else (some false)) = some r := H
  have A6 := Aside0.mk A60
  clear A60
  by_cases c7 : t107 = true
  · subst c7
    have H1 : ((space_Key.f (wrap64 (Int.tmod a0 16)) (wrap64 (Int.tmod a1 268435456)) (wrap64 (mn a2 a3))).bind fun bt108 => ((space_Key.f (wrap64 (Int.tmod a0 16)) (wrap64 (Int.tmod a1 268435456)) (wrap64 (mx a2 a3))).bind fun bt110 => (if a4 ≥ bt108.1 then (if bt108.2 = true then (if bt110.2 = true then (if bt108.1 ≤ bt110.1 then (if a4 ≤ bt110.1 then ((space_In.f a4 (wrap64 (Int.tmod a0 16)) (wrap64 (Int.tmod a1 268435456))).bind fun t112 => (if t112 = true then ((space_In.f bt108.1 (wrap64 (Int.tmod a0 16)) (wrap64 (Int.tmod a1 268435456))).bind fun t113 => (if t113 = true then ((space_In.f bt110.1 (wrap64 (Int.tmod a0 16)) (wrap64 (Int.tmod a1 268435456))).bind fun t114 => (some t114)) else (some false))) else (some false))) else ((space_In.f bt108.1 (wrap64 (Int.tmod a0 16)) (wrap64 (Int.tmod a1 268435456))).bind fun t115 => (if t115 = true then ((space_In.f bt110.1 (wrap64 (Int.tmod a0 16)) (wrap64 (Int.tmod a1 268435456))).bind fun t116 => (some t116)) else (some false)))) else (some false)) else (some false)) else (some false)) else (if bt108.2 = true then (if bt110.2 = true then (if bt108.1 ≤ bt110.1 then ((space_In.f bt108.1 (wrap64 (Int.tmod a0 16)) (wrap64 (Int.tmod a1 268435456))).bind fun t117 => (if t117 = true then ((space_In.f bt110.1 (wrap64 (Int.tmod a0 16)) (wrap64 (Int.tmod a1 268435456))).bind fun t118 => (some t118)) else (some false))) else (some false)) else (some false)) else (some false))))) = some r := by rw [if_pos rfl] at H; exact H
    clear H
    have H := H1
    clear H1
    obtain ⟨ji8, hji8⟩ : ∃ j_ : Int, (mn a2 a3) = j_ := ⟨_, rfl⟩
    replace H : ((space_Key.f (wrap64 (Int.tmod a0 16)) (wrap64 (Int.tmod a1 268435456)) (wrap64 (ji8))).bind fun bt108 => ((space_Key.f (wrap64 (Int.tmod a0 16)) (wrap64 (Int.tmod a1 268435456)) (wrap64 (mx a2 a3))).bind fun bt110 => (if a4 ≥ bt108.1 then (if bt108.2 = true then (if bt110.2 = true then (if bt108.1 ≤ bt110.1 then (if a4 ≤ bt110.1 then ((space_In.f a4 (wrap64 (Int.tmod a0 16)) (wrap64 (Int.tmod a1 268435456))).bind fun t112 => (if t112 = true then ((space_In.f bt108.1 (wrap64 (Int.tmod a0 16)) (wrap64 (Int.tmod a1 268435456))).bind fun t113 => (if t113 = true then ((space_In.f bt110.1 (wrap64 (Int.tmod a0 16)) (wrap64 (Int.tmod a1 268435456))).bind fun t114 => (some t114)) else (some false))) else (some false))) else ((space_In.f bt108.1 (wrap64 (Int.tmod a0 16)) (wrap64 (Int.tmod a1 268435456))).bind fun t115 => (if t115 = true then ((space_In.f bt110.1 (wrap64 (Int.tmod a0 16)) (wrap64 (Int.tmod a1 268435456))).bind fun t116 => (some t116)) else (some false)))) else (some false)) else (some false)) else (some false)) else (if bt108.2 = true then (if bt110.2 = true then (if bt108.1 ≤ bt110.1 then ((space_In.f bt108.1 (wrap64 (Int.tmod a0 16)) (wrap64 (Int.tmod a1 268435456))).bind fun t117 => (if t117 = true then ((space_In.f bt110.1 (wrap64 (Int.tmod a0 16)) (wrap64 (Int.tmod a1 268435456))).bind fun t118 => (some t118)) else (some false))) else (some false)) else (some false)) else (some false))))) = some r := by first | (rw [hji8] at H; exact H) | (simp only [hji8] at H ⊢; exact H)
    (try rw [hji8] at A6)
    have hji8_ : (if a3 < a2 then a3 else a2) = ji8 := hji8
    replace H := Option.bind_eq_some_iff.mp H
    obtain ⟨⟨t108, t109⟩, A90, H⟩ := H
    replace H : ((space_Key.f (wrap64 (Int.tmod a0 16)) (wrap64 (Int.tmod a1 268435456)) (wrap64 (mx a2 a3))).bind fun bt110 => (if a4 ≥ t108 then (if t109 = true then (if bt110.2 = true then (if t108 ≤ bt110.1 then (if a4 ≤ bt110.1 then ((space_In.f a4 (wrap64 (Int.tmod a0 16)) (wrap64 (Int.tmod a1 268435456))).bind fun t112 => (if t112 = true then ((space_In.f t108 (wrap64 (Int.tmod a0 16)) (wrap64 (Int.tmod a1 268435456))).bind fun t113 => (if t113 = true then ((space_In.f bt110.1 (wrap64 (Int.tmod a0 16)) (wrap64 (Int.tmod a1 268435456))).bind fun t114 => (some t114)) else (some false))) else (some false))) else ((space_In.f t108 (wrap64 (Int.tmod a0 16)) (wrap64 (Int.tmod a1 268435456))).bind fun t115 => (if t115 = true then ((space_In.f bt110.1 (wrap64 (Int.tmod a0 16)) (wrap64 (Int.tmod a1 268435456))).bind fun t116 => (some t116)) else (some false)))) else (some false)) else (some false)) else (some false)) else (if t109 = true then (if bt110.2 = true then (if t108 ≤ bt110.1 then ((space_In.f t108 (wrap64 (Int.tmod a0 16)) (wrap64 (Int.tmod a1 268435456))).bind fun t117 => (if t117 = true then ((space_In.f bt110.1 (wrap64 (Int.tmod a0 16)) (wrap64 (Int.tmod a1 268435456))).bind fun t118 => (some t118)) else (some false))) else (some false)) else (some false)) else (some false)))) = some r := H
    have A9 := Aside0.mk A90
    clear A90
    obtain ⟨ji10, hji10⟩ : ∃ j_ : Int, (mx a2 a3) = j_ := ⟨_, rfl⟩
    replace H : ((space_Key.f (wrap64 (Int.tmod a0 16)) (wrap64 (Int.tmod a1 268435456)) (wrap64 (ji10))).bind fun bt110 => (if a4 ≥ t108 then (if t109 = true then (if bt110.2 = true then (if t108 ≤ bt110.1 then (if a4 ≤ bt110.1 then ((space_In.f a4 (wrap64 (Int.tmod a0 16)) (wrap64 (Int.tmod a1 268435456))).bind fun t112 => (if t112 = true then ((space_In.f t108 (wrap64 (Int.tmod a0 16)) (wrap64 (Int.tmod a1 268435456))).bind fun t113 => (if t113 = true then ((space_In.f bt110.1 (wrap64 (Int.tmod a0 16)) (wrap64 (Int.tmod a1 268435456))).bind fun t114 => (some t114)) else (some false))) else (some false))) else ((space_In.f t108 (wrap64 (Int.tmod a0 16)) (wrap64 (Int.tmod a1 268435456))).bind fun t115 => (if t115 = true then ((space_In.f bt110.1 (wrap64 (Int.tmod a0 16)) (wrap64 (Int.tmod a1 268435456))).bind fun t116 => (some t116)) else (some false)))) else (some false)) else (some false)) else (some false)) else (if t109 = true then (if bt110.2 = true then (if t108 ≤ bt110.1 then ((space_In.f t108 (wrap64 (Int.tmod a0 16)) (wrap64 (Int.tmod a1 268435456))).bind fun t117 => (if t117 = true then ((space_In.f bt110.1 (wrap64 (Int.tmod a0 16)) (wrap64 (Int.tmod a1 268435456))).bind fun t118 => (some t118)) else (some false))) else (some false)) else (some false)) else (some false)))) = some r := by first | (rw [hji10] at H; exact H) | (simp only [hji10] at H ⊢; exact H)
    (try rw [hji10] at A6)
    (try rw [hji10] at A9)
    have hji10_ : (if a2 < a3 then a3 else a2) = ji10 := hji10
    replace H := Option.bind_eq_some_iff.mp H
    obtain ⟨⟨t110, t111⟩, A110, H⟩ := H
    replace H : (if a4 ≥ t108 then (if t109 = true then (if t111 = true then (if t108 ≤ t110 then (if a4 ≤ t110 then ((space_In.f a4 (wrap64 (Int.tmod a0 16)) (wrap64 (Int.tmod a1 268435456))).bind fun t112 => (if t112 = true then ((space_In.f t108 (wrap64 (Int.tmod a0 16)) (wrap64 (Int.tmod a1 268435456))).bind fun t113 => (if t113 = true then ((space_In.f t110 (wrap64 (Int.tmod a0 16)) (wrap64 (Int.tmod a1 268435456))).bind fun t114 => (some t114)) else (some false))) else (some false))) else ((space_In.f t108 (wrap64 (Int.tmod a0 16)) (wrap64 (Int.tmod a1 268435456))).bind fun t115 => (if t115 = true then ((space_In.f t110 (wrap64 (Int.tmod a0 16)) (wrap64 (Int.tmod a1 268435456))).bind fun t116 => (some t116)) else (some false)))) else (some false)) else (some false)) else (some false)) else (if t109 = true then (if t111 = true then (if t108 ≤ t110 then ((space_In.f t108 (wrap64 (Int.tmod a0 16)) (wrap64 (Int.tmod a1 268435456))).bind fun t117 => (if t117 = true then ((space_In.f t110 (wrap64 (Int.tmod a0 16)) (wrap64 (Int.tmod a1 268435456))).bind fun t118 => (some t118)) else (some false))) else (some false)) else (some false)) else (some false))) = some r := H
    have A11 := Aside0.mk A110
    clear A110
    by_cases c12 : a4 ≥ t108
    · rw [if_pos c12] at H
      have c12b0 : decide (t108 ≤ a4) = true := decide_eq_true c12
      clear c12
      by_cases c13 : t109 = true
      · subst c13
        have H1 : (if t111 = true then (if t108 ≤ t110 then (if a4 ≤ t110 then ((space_In.f a4 (wrap64 (Int.tmod a0 16)) (wrap64 (Int.tmod a1 268435456))).bind fun t112 => (if t112 = true then ((space_In.f t108 (wrap64 (Int.tmod a0 16)) (wrap64 (Int.tmod a1 268435456))).bind fun t113 => (if t113 = true then ((space_In.f t110 (wrap64 (Int.tmod a0 16)) (wrap64 (Int.tmod a1 268435456))).bind fun t114 => (some t114)) else (some false))) else (some false))) else ((space_In.f t108 (wrap64 (Int.tmod a0 16)) (wrap64 (Int.tmod a1 268435456))).bind fun t115 => (if t115 = true then ((space_In.f t110 (wrap64 (Int.tmod a0 16)) (wrap64 (Int.tmod a1 268435456))).bind fun t116 => (some t116)) else (some false)))) else (some false)) else (some false)) = some r := by rw [if_pos rfl] at H; exact H
        clear H
        have H := H1
        clear H1
        by_cases c14 : t111 = true
        · subst c14
          have H1 : (if t108 ≤ t110 then (if a4 ≤ t110 then ((space_In.f a4 (wrap64 (Int.tmod a0 16)) (wrap64 (Int.tmod a1 268435456))).bind fun t112 => (if t112 = true then ((space_In.f t108 (wrap64 (Int.tmod a0 16)) (wrap64 (Int.tmod a1 268435456))).bind fun t113 => (if t113 = true then ((space_In.f t110 (wrap64 (Int.tmod a0 16)) (wrap64 (Int.tmod a1 268435456))).bind fun t114 => (some t114)) else (some false))) else (some false))) else ((space_In.f t108 (wrap64 (Int.tmod a0 16)) (wrap64 (Int.tmod a1 268435456))).bind fun t115 => (if t115 = true then ((space_In.f t110 (wrap64 (Int.tmod a0 16)) (wrap64 (Int.tmod a1 268435456))).bind fun t116 => (some t116)) else (some false)))) else (some false)) = some r := by rw [if_pos rfl] at H; exact H
          clear H
          have H := H1
          clear H1
          by_cases c15 : t108 ≤ t110
          · rw [if_pos c15] at H
            have c15b0 : decide (t108 ≤ t110) = true := decide_eq_true c15
            clear c15
            by_cases c16 : a4 ≤ t110
            · rw [if_pos c16] at H
              have c16b0 : decide (a4 ≤ t110) = true := decide_eq_true c16
              clear c16
              replace H := Option.bind_eq_some_iff.mp H
              obtain ⟨t112, A170, H⟩ := H
              replace H : (if t112 = true then ((space_In.f t108 (wrap64 (Int.tmod a0 16)) (wrap64 (Int.tmod a1 268435456))).bind fun t113 => (if t113 = true then ((space_In.f t110 (wrap64 (Int.tmod a0 16)) (wrap64 (Int.tmod a1 268435456))).bind fun t114 => (some t114)) else (some false))) else (some false)) = some r := H
              have A17 := Aside0.mk A170
              clear A170
              by_cases c18 : t112 = true
              · subst c18
                have H1 : ((space_In.f t108 (wrap64 (Int.tmod a0 16)) (wrap64 (Int.tmod a1 268435456))).bind fun t113 => (if t113 = true then ((space_In.f t110 (wrap64 (Int.tmod a0 16)) (wrap64 (Int.tmod a1 268435456))).bind fun t114 => (some t114)) else (some false))) = some r := by rw [if_pos rfl] at H; exact H
                clear H
                have H := H1
                clear H1
                replace H := Option.bind_eq_some_iff.mp H
                obtain ⟨t113, A190, H⟩ := H
                replace H : (if t113 = true then ((space_In.f t110 (wrap64 (Int.tmod a0 16)) (wrap64 (Int.tmod a1 268435456))).bind fun t114 => (some t114)) else (some false)) = some r := H
                have A19 := Aside0.mk A190
                clear A190
                by_cases c20 : t113 = true
                · subst c20
                  have H1 : ((space_In.f t110 (wrap64 (Int.tmod a0 16)) (wrap64 (Int.tmod a1 268435456))).bind fun t114 => (some t114)) = some r := by rw [if_pos rfl] at H; exact H
                  clear H
                  have H := H1
                  clear H1
                  replace H := Option.bind_eq_some_iff.mp H
                  obtain ⟨t114, A210, H⟩ := H
                  replace H : (some t114) = some r := H
                  have A21 := Aside0.mk A210
                  clear A210
                  obtain rfl := Option.some.inj H
                  go_enter Try.func3, Try.ntmps3
                  go_wp2_with (first | ((with_reducible refine gate_callee (f := 8) rfl ?_); refine goesL_ (some 19) rfl rfl Try.func8 (by kernel_rfl) rfl #[] rfl (by (try simp only [List.map_toArray, List.map_cons, List.map_nil]); first | done | rfl | (simp only [List.length_drop, List.length_take]; rfl)) ?_; (with_reducible refine (bailiwicklaw13_examples.calls  true _ A6.out).mono ?_); rintro e w' ⟨rfl, ⟨nd, rfl⟩⟩; refine ⟨_, rfl, ?_⟩) | ((with_reducible refine gate_callee (f := 9) rfl ?_); refine goesL_ (some 35) rfl rfl Try.func9 (by kernel_rfl) rfl #[.int .i64 (wrap64 (Int.tmod a0 16)), .int .i64 (wrap64 (Int.tmod a1 268435456)), .int .i64 (wrap64 (ji8))] rfl (by (try simp only [List.map_toArray, List.map_cons, List.map_nil]); first | done | (simp only [hji8]; rfl) | rfl | (simp only [List.length_drop, List.length_take]; rfl)) ?_; (with_reducible refine (space_Key.calls (wrap64 (Int.tmod a0 16)) (wrap64 (Int.tmod a1 268435456)) (wrap64 (ji8)) t108 true _ A9.out).mono ?_); rintro e w' ⟨rfl, ⟨nd, rfl⟩⟩; refine ⟨_, rfl, ?_⟩) | ((with_reducible refine gate_callee (f := 9) rfl ?_); refine goesL_ (some 45) rfl rfl Try.func9 (by kernel_rfl) rfl #[.int .i64 (wrap64 (Int.tmod a0 16)), .int .i64 (wrap64 (Int.tmod a1 268435456)), .int .i64 (wrap64 (ji10))] rfl (by (try simp only [List.map_toArray, List.map_cons, List.map_nil]); first | done | (simp only [hji10]; rfl) | rfl | (simp only [List.length_drop, List.length_take]; rfl)) ?_; (with_reducible refine (space_Key.calls (wrap64 (Int.tmod a0 16)) (wrap64 (Int.tmod a1 268435456)) (wrap64 (ji10)) t110 true _ A11.out).mono ?_); rintro e w' ⟨rfl, ⟨nd, rfl⟩⟩; refine ⟨_, rfl, ?_⟩) | (go_at_call 10; (with_reducible refine (space_In.calls a4 (wrap64 (Int.tmod a0 16)) (wrap64 (Int.tmod a1 268435456)) true _ A17.out).mono ?_); rintro e w' ⟨rfl, ⟨nd, rfl⟩⟩) | (go_at_call 10; (with_reducible refine (space_In.calls t108 (wrap64 (Int.tmod a0 16)) (wrap64 (Int.tmod a1 268435456)) true _ A19.out).mono ?_); rintro e w' ⟨rfl, ⟨nd, rfl⟩⟩) | (go_at_call 10; (with_reducible refine (space_In.calls t110 (wrap64 (Int.tmod a0 16)) (wrap64 (Int.tmod a1 268435456)) t114 _ A21.out).mono ?_); rintro e w' ⟨rfl, ⟨nd, rfl⟩⟩))
                  go_ret
                  exact ⟨by first | rfl | (simp [errW_none, errW_some] <;> rfl) | (simp only [← hji8, ← hji10]; first | rfl | (simp [errW_none, errW_some] <;> rfl)) | (simp [*, errW_none, errW_some] <;> rfl), by repeat (first | (with_reducible first | exact HB.out | apply below_alloc | apply pw_below_drewN | apply below_drew1) | exact HB.out)⟩
                · replace c20 := Bool.eq_false_iff.mpr c20
                  subst c20
                  have H1 : (some false) = some r := by rw [if_neg (show ¬ (false = true) by decide)] at H; exact H
                  clear H
                  have H := H1
                  clear H1
                  obtain rfl := Option.some.inj H
                  go_enter Try.func3, Try.ntmps3
                  go_wp2_with (first | ((with_reducible refine gate_callee (f := 8) rfl ?_); refine goesL_ (some 19) rfl rfl Try.func8 (by kernel_rfl) rfl #[] rfl (by (try simp only [List.map_toArray, List.map_cons, List.map_nil]); first | done | rfl | (simp only [List.length_drop, List.length_take]; rfl)) ?_; (with_reducible refine (bailiwicklaw13_examples.calls  true _ A6.out).mono ?_); rintro e w' ⟨rfl, ⟨nd, rfl⟩⟩; refine ⟨_, rfl, ?_⟩) | ((with_reducible refine gate_callee (f := 9) rfl ?_); refine goesL_ (some 35) rfl rfl Try.func9 (by kernel_rfl) rfl #[.int .i64 (wrap64 (Int.tmod a0 16)), .int .i64 (wrap64 (Int.tmod a1 268435456)), .int .i64 (wrap64 (ji8))] rfl (by (try simp only [List.map_toArray, List.map_cons, List.map_nil]); first | done | (simp only [hji8]; rfl) | rfl | (simp only [List.length_drop, List.length_take]; rfl)) ?_; (with_reducible refine (space_Key.calls (wrap64 (Int.tmod a0 16)) (wrap64 (Int.tmod a1 268435456)) (wrap64 (ji8)) t108 true _ A9.out).mono ?_); rintro e w' ⟨rfl, ⟨nd, rfl⟩⟩; refine ⟨_, rfl, ?_⟩) | ((with_reducible refine gate_callee (f := 9) rfl ?_); refine goesL_ (some 45) rfl rfl Try.func9 (by kernel_rfl) rfl #[.int .i64 (wrap64 (Int.tmod a0 16)), .int .i64 (wrap64 (Int.tmod a1 268435456)), .int .i64 (wrap64 (ji10))] rfl (by (try simp only [List.map_toArray, List.map_cons, List.map_nil]); first | done | (simp only [hji10]; rfl) | rfl | (simp only [List.length_drop, List.length_take]; rfl)) ?_; (with_reducible refine (space_Key.calls (wrap64 (Int.tmod a0 16)) (wrap64 (Int.tmod a1 268435456)) (wrap64 (ji10)) t110 true _ A11.out).mono ?_); rintro e w' ⟨rfl, ⟨nd, rfl⟩⟩; refine ⟨_, rfl, ?_⟩) | (go_at_call 10; (with_reducible refine (space_In.calls a4 (wrap64 (Int.tmod a0 16)) (wrap64 (Int.tmod a1 268435456)) true _ A17.out).mono ?_); rintro e w' ⟨rfl, ⟨nd, rfl⟩⟩) | (go_at_call 10; (with_reducible refine (space_In.calls t108 (wrap64 (Int.tmod a0 16)) (wrap64 (Int.tmod a1 268435456)) false _ A19.out).mono ?_); rintro e w' ⟨rfl, ⟨nd, rfl⟩⟩))
                  go_ret
                  exact ⟨by first | rfl | (simp [errW_none, errW_some] <;> rfl) | (simp only [← hji8, ← hji10]; first | rfl | (simp [errW_none, errW_some] <;> rfl)) | (simp [*, errW_none, errW_some] <;> rfl), by repeat (first | (with_reducible first | exact HB.out | apply below_alloc | apply pw_below_drewN | apply below_drew1) | exact HB.out)⟩
              · replace c18 := Bool.eq_false_iff.mpr c18
                subst c18
                have H1 : (some false) = some r := by rw [if_neg (show ¬ (false = true) by decide)] at H; exact H
                clear H
                have H := H1
                clear H1
                obtain rfl := Option.some.inj H
                go_enter Try.func3, Try.ntmps3
                go_wp2_with (first | ((with_reducible refine gate_callee (f := 8) rfl ?_); refine goesL_ (some 19) rfl rfl Try.func8 (by kernel_rfl) rfl #[] rfl (by (try simp only [List.map_toArray, List.map_cons, List.map_nil]); first | done | rfl | (simp only [List.length_drop, List.length_take]; rfl)) ?_; (with_reducible refine (bailiwicklaw13_examples.calls  true _ A6.out).mono ?_); rintro e w' ⟨rfl, ⟨nd, rfl⟩⟩; refine ⟨_, rfl, ?_⟩) | ((with_reducible refine gate_callee (f := 9) rfl ?_); refine goesL_ (some 35) rfl rfl Try.func9 (by kernel_rfl) rfl #[.int .i64 (wrap64 (Int.tmod a0 16)), .int .i64 (wrap64 (Int.tmod a1 268435456)), .int .i64 (wrap64 (ji8))] rfl (by (try simp only [List.map_toArray, List.map_cons, List.map_nil]); first | done | (simp only [hji8]; rfl) | rfl | (simp only [List.length_drop, List.length_take]; rfl)) ?_; (with_reducible refine (space_Key.calls (wrap64 (Int.tmod a0 16)) (wrap64 (Int.tmod a1 268435456)) (wrap64 (ji8)) t108 true _ A9.out).mono ?_); rintro e w' ⟨rfl, ⟨nd, rfl⟩⟩; refine ⟨_, rfl, ?_⟩) | ((with_reducible refine gate_callee (f := 9) rfl ?_); refine goesL_ (some 45) rfl rfl Try.func9 (by kernel_rfl) rfl #[.int .i64 (wrap64 (Int.tmod a0 16)), .int .i64 (wrap64 (Int.tmod a1 268435456)), .int .i64 (wrap64 (ji10))] rfl (by (try simp only [List.map_toArray, List.map_cons, List.map_nil]); first | done | (simp only [hji10]; rfl) | rfl | (simp only [List.length_drop, List.length_take]; rfl)) ?_; (with_reducible refine (space_Key.calls (wrap64 (Int.tmod a0 16)) (wrap64 (Int.tmod a1 268435456)) (wrap64 (ji10)) t110 true _ A11.out).mono ?_); rintro e w' ⟨rfl, ⟨nd, rfl⟩⟩; refine ⟨_, rfl, ?_⟩) | (go_at_call 10; (with_reducible refine (space_In.calls a4 (wrap64 (Int.tmod a0 16)) (wrap64 (Int.tmod a1 268435456)) false _ A17.out).mono ?_); rintro e w' ⟨rfl, ⟨nd, rfl⟩⟩))
                go_ret
                exact ⟨by first | rfl | (simp [errW_none, errW_some] <;> rfl) | (simp only [← hji8, ← hji10]; first | rfl | (simp [errW_none, errW_some] <;> rfl)) | (simp [*, errW_none, errW_some] <;> rfl), by repeat (first | (with_reducible first | exact HB.out | apply below_alloc | apply pw_below_drewN | apply below_drew1) | exact HB.out)⟩
            · rw [if_neg c16] at H
              have c16b0 : decide (a4 ≤ t110) = false := decide_eq_false c16
              clear c16
              replace H := Option.bind_eq_some_iff.mp H
              obtain ⟨t115, A220, H⟩ := H
              replace H : (if t115 = true then ((space_In.f t110 (wrap64 (Int.tmod a0 16)) (wrap64 (Int.tmod a1 268435456))).bind fun t116 => (some t116)) else (some false)) = some r := H
              have A22 := Aside0.mk A220
              clear A220
              by_cases c23 : t115 = true
              · subst c23
                have H1 : ((space_In.f t110 (wrap64 (Int.tmod a0 16)) (wrap64 (Int.tmod a1 268435456))).bind fun t116 => (some t116)) = some r := by rw [if_pos rfl] at H; exact H
                clear H
                have H := H1
                clear H1
                replace H := Option.bind_eq_some_iff.mp H
                obtain ⟨t116, A240, H⟩ := H
                replace H : (some t116) = some r := H
                have A24 := Aside0.mk A240
                clear A240
                obtain rfl := Option.some.inj H
                go_enter Try.func3, Try.ntmps3
                go_wp2_with (first | ((with_reducible refine gate_callee (f := 8) rfl ?_); refine goesL_ (some 19) rfl rfl Try.func8 (by kernel_rfl) rfl #[] rfl (by (try simp only [List.map_toArray, List.map_cons, List.map_nil]); first | done | rfl | (simp only [List.length_drop, List.length_take]; rfl)) ?_; (with_reducible refine (bailiwicklaw13_examples.calls  true _ A6.out).mono ?_); rintro e w' ⟨rfl, ⟨nd, rfl⟩⟩; refine ⟨_, rfl, ?_⟩) | ((with_reducible refine gate_callee (f := 9) rfl ?_); refine goesL_ (some 35) rfl rfl Try.func9 (by kernel_rfl) rfl #[.int .i64 (wrap64 (Int.tmod a0 16)), .int .i64 (wrap64 (Int.tmod a1 268435456)), .int .i64 (wrap64 (ji8))] rfl (by (try simp only [List.map_toArray, List.map_cons, List.map_nil]); first | done | (simp only [hji8]; rfl) | rfl | (simp only [List.length_drop, List.length_take]; rfl)) ?_; (with_reducible refine (space_Key.calls (wrap64 (Int.tmod a0 16)) (wrap64 (Int.tmod a1 268435456)) (wrap64 (ji8)) t108 true _ A9.out).mono ?_); rintro e w' ⟨rfl, ⟨nd, rfl⟩⟩; refine ⟨_, rfl, ?_⟩) | ((with_reducible refine gate_callee (f := 9) rfl ?_); refine goesL_ (some 45) rfl rfl Try.func9 (by kernel_rfl) rfl #[.int .i64 (wrap64 (Int.tmod a0 16)), .int .i64 (wrap64 (Int.tmod a1 268435456)), .int .i64 (wrap64 (ji10))] rfl (by (try simp only [List.map_toArray, List.map_cons, List.map_nil]); first | done | (simp only [hji10]; rfl) | rfl | (simp only [List.length_drop, List.length_take]; rfl)) ?_; (with_reducible refine (space_Key.calls (wrap64 (Int.tmod a0 16)) (wrap64 (Int.tmod a1 268435456)) (wrap64 (ji10)) t110 true _ A11.out).mono ?_); rintro e w' ⟨rfl, ⟨nd, rfl⟩⟩; refine ⟨_, rfl, ?_⟩) | (go_at_call 10; (with_reducible refine (space_In.calls t108 (wrap64 (Int.tmod a0 16)) (wrap64 (Int.tmod a1 268435456)) true _ A22.out).mono ?_); rintro e w' ⟨rfl, ⟨nd, rfl⟩⟩) | (go_at_call 10; (with_reducible refine (space_In.calls t110 (wrap64 (Int.tmod a0 16)) (wrap64 (Int.tmod a1 268435456)) t116 _ A24.out).mono ?_); rintro e w' ⟨rfl, ⟨nd, rfl⟩⟩))
                go_ret
                exact ⟨by first | rfl | (simp [errW_none, errW_some] <;> rfl) | (simp only [← hji8, ← hji10]; first | rfl | (simp [errW_none, errW_some] <;> rfl)) | (simp [*, errW_none, errW_some] <;> rfl), by repeat (first | (with_reducible first | exact HB.out | apply below_alloc | apply pw_below_drewN | apply below_drew1) | exact HB.out)⟩
              · replace c23 := Bool.eq_false_iff.mpr c23
                subst c23
                have H1 : (some false) = some r := by rw [if_neg (show ¬ (false = true) by decide)] at H; exact H
                clear H
                have H := H1
                clear H1
                obtain rfl := Option.some.inj H
                go_enter Try.func3, Try.ntmps3
                go_wp2_with (first | ((with_reducible refine gate_callee (f := 8) rfl ?_); refine goesL_ (some 19) rfl rfl Try.func8 (by kernel_rfl) rfl #[] rfl (by (try simp only [List.map_toArray, List.map_cons, List.map_nil]); first | done | rfl | (simp only [List.length_drop, List.length_take]; rfl)) ?_; (with_reducible refine (bailiwicklaw13_examples.calls  true _ A6.out).mono ?_); rintro e w' ⟨rfl, ⟨nd, rfl⟩⟩; refine ⟨_, rfl, ?_⟩) | ((with_reducible refine gate_callee (f := 9) rfl ?_); refine goesL_ (some 35) rfl rfl Try.func9 (by kernel_rfl) rfl #[.int .i64 (wrap64 (Int.tmod a0 16)), .int .i64 (wrap64 (Int.tmod a1 268435456)), .int .i64 (wrap64 (ji8))] rfl (by (try simp only [List.map_toArray, List.map_cons, List.map_nil]); first | done | (simp only [hji8]; rfl) | rfl | (simp only [List.length_drop, List.length_take]; rfl)) ?_; (with_reducible refine (space_Key.calls (wrap64 (Int.tmod a0 16)) (wrap64 (Int.tmod a1 268435456)) (wrap64 (ji8)) t108 true _ A9.out).mono ?_); rintro e w' ⟨rfl, ⟨nd, rfl⟩⟩; refine ⟨_, rfl, ?_⟩) | ((with_reducible refine gate_callee (f := 9) rfl ?_); refine goesL_ (some 45) rfl rfl Try.func9 (by kernel_rfl) rfl #[.int .i64 (wrap64 (Int.tmod a0 16)), .int .i64 (wrap64 (Int.tmod a1 268435456)), .int .i64 (wrap64 (ji10))] rfl (by (try simp only [List.map_toArray, List.map_cons, List.map_nil]); first | done | (simp only [hji10]; rfl) | rfl | (simp only [List.length_drop, List.length_take]; rfl)) ?_; (with_reducible refine (space_Key.calls (wrap64 (Int.tmod a0 16)) (wrap64 (Int.tmod a1 268435456)) (wrap64 (ji10)) t110 true _ A11.out).mono ?_); rintro e w' ⟨rfl, ⟨nd, rfl⟩⟩; refine ⟨_, rfl, ?_⟩) | (go_at_call 10; (with_reducible refine (space_In.calls t108 (wrap64 (Int.tmod a0 16)) (wrap64 (Int.tmod a1 268435456)) false _ A22.out).mono ?_); rintro e w' ⟨rfl, ⟨nd, rfl⟩⟩))
                go_ret
                exact ⟨by first | rfl | (simp [errW_none, errW_some] <;> rfl) | (simp only [← hji8, ← hji10]; first | rfl | (simp [errW_none, errW_some] <;> rfl)) | (simp [*, errW_none, errW_some] <;> rfl), by repeat (first | (with_reducible first | exact HB.out | apply below_alloc | apply pw_below_drewN | apply below_drew1) | exact HB.out)⟩
          · rw [if_neg c15] at H
            have c15b0 : decide (t108 ≤ t110) = false := decide_eq_false c15
            clear c15
            obtain rfl := Option.some.inj H
            go_enter Try.func3, Try.ntmps3
            go_wp2_with (first | ((with_reducible refine gate_callee (f := 8) rfl ?_); refine goesL_ (some 19) rfl rfl Try.func8 (by kernel_rfl) rfl #[] rfl (by (try simp only [List.map_toArray, List.map_cons, List.map_nil]); first | done | rfl | (simp only [List.length_drop, List.length_take]; rfl)) ?_; (with_reducible refine (bailiwicklaw13_examples.calls  true _ A6.out).mono ?_); rintro e w' ⟨rfl, ⟨nd, rfl⟩⟩; refine ⟨_, rfl, ?_⟩) | ((with_reducible refine gate_callee (f := 9) rfl ?_); refine goesL_ (some 35) rfl rfl Try.func9 (by kernel_rfl) rfl #[.int .i64 (wrap64 (Int.tmod a0 16)), .int .i64 (wrap64 (Int.tmod a1 268435456)), .int .i64 (wrap64 (ji8))] rfl (by (try simp only [List.map_toArray, List.map_cons, List.map_nil]); first | done | (simp only [hji8]; rfl) | rfl | (simp only [List.length_drop, List.length_take]; rfl)) ?_; (with_reducible refine (space_Key.calls (wrap64 (Int.tmod a0 16)) (wrap64 (Int.tmod a1 268435456)) (wrap64 (ji8)) t108 true _ A9.out).mono ?_); rintro e w' ⟨rfl, ⟨nd, rfl⟩⟩; refine ⟨_, rfl, ?_⟩) | ((with_reducible refine gate_callee (f := 9) rfl ?_); refine goesL_ (some 45) rfl rfl Try.func9 (by kernel_rfl) rfl #[.int .i64 (wrap64 (Int.tmod a0 16)), .int .i64 (wrap64 (Int.tmod a1 268435456)), .int .i64 (wrap64 (ji10))] rfl (by (try simp only [List.map_toArray, List.map_cons, List.map_nil]); first | done | (simp only [hji10]; rfl) | rfl | (simp only [List.length_drop, List.length_take]; rfl)) ?_; (with_reducible refine (space_Key.calls (wrap64 (Int.tmod a0 16)) (wrap64 (Int.tmod a1 268435456)) (wrap64 (ji10)) t110 true _ A11.out).mono ?_); rintro e w' ⟨rfl, ⟨nd, rfl⟩⟩; refine ⟨_, rfl, ?_⟩))
            go_ret
            exact ⟨by first | rfl | (simp [errW_none, errW_some] <;> rfl) | (simp only [← hji8, ← hji10]; first | rfl | (simp [errW_none, errW_some] <;> rfl)) | (simp [*, errW_none, errW_some] <;> rfl), by repeat (first | (with_reducible first | exact HB.out | apply below_alloc | apply pw_below_drewN | apply below_drew1) | exact HB.out)⟩
        · replace c14 := Bool.eq_false_iff.mpr c14
          subst c14
          have H1 : (some false) = some r := by rw [if_neg (show ¬ (false = true) by decide)] at H; exact H
          clear H
          have H := H1
          clear H1
          obtain rfl := Option.some.inj H
          go_enter Try.func3, Try.ntmps3
          go_wp2_with (first | ((with_reducible refine gate_callee (f := 8) rfl ?_); refine goesL_ (some 19) rfl rfl Try.func8 (by kernel_rfl) rfl #[] rfl (by (try simp only [List.map_toArray, List.map_cons, List.map_nil]); first | done | rfl | (simp only [List.length_drop, List.length_take]; rfl)) ?_; (with_reducible refine (bailiwicklaw13_examples.calls  true _ A6.out).mono ?_); rintro e w' ⟨rfl, ⟨nd, rfl⟩⟩; refine ⟨_, rfl, ?_⟩) | ((with_reducible refine gate_callee (f := 9) rfl ?_); refine goesL_ (some 35) rfl rfl Try.func9 (by kernel_rfl) rfl #[.int .i64 (wrap64 (Int.tmod a0 16)), .int .i64 (wrap64 (Int.tmod a1 268435456)), .int .i64 (wrap64 (ji8))] rfl (by (try simp only [List.map_toArray, List.map_cons, List.map_nil]); first | done | (simp only [hji8]; rfl) | rfl | (simp only [List.length_drop, List.length_take]; rfl)) ?_; (with_reducible refine (space_Key.calls (wrap64 (Int.tmod a0 16)) (wrap64 (Int.tmod a1 268435456)) (wrap64 (ji8)) t108 true _ A9.out).mono ?_); rintro e w' ⟨rfl, ⟨nd, rfl⟩⟩; refine ⟨_, rfl, ?_⟩) | ((with_reducible refine gate_callee (f := 9) rfl ?_); refine goesL_ (some 45) rfl rfl Try.func9 (by kernel_rfl) rfl #[.int .i64 (wrap64 (Int.tmod a0 16)), .int .i64 (wrap64 (Int.tmod a1 268435456)), .int .i64 (wrap64 (ji10))] rfl (by (try simp only [List.map_toArray, List.map_cons, List.map_nil]); first | done | (simp only [hji10]; rfl) | rfl | (simp only [List.length_drop, List.length_take]; rfl)) ?_; (with_reducible refine (space_Key.calls (wrap64 (Int.tmod a0 16)) (wrap64 (Int.tmod a1 268435456)) (wrap64 (ji10)) t110 false _ A11.out).mono ?_); rintro e w' ⟨rfl, ⟨nd, rfl⟩⟩; refine ⟨_, rfl, ?_⟩))
          go_ret
          exact ⟨by first | rfl | (simp [errW_none, errW_some] <;> rfl) | (simp only [← hji8, ← hji10]; first | rfl | (simp [errW_none, errW_some] <;> rfl)) | (simp [*, errW_none, errW_some] <;> rfl), by repeat (first | (with_reducible first | exact HB.out | apply below_alloc | apply pw_below_drewN | apply below_drew1) | exact HB.out)⟩
      · replace c13 := Bool.eq_false_iff.mpr c13
        subst c13
        have H1 : (some false) = some r := by rw [if_neg (show ¬ (false = true) by decide)] at H; exact H
        clear H
        have H := H1
        clear H1
        obtain rfl := Option.some.inj H
        go_enter Try.func3, Try.ntmps3
        go_wp2_with (first | ((with_reducible refine gate_callee (f := 8) rfl ?_); refine goesL_ (some 19) rfl rfl Try.func8 (by kernel_rfl) rfl #[] rfl (by (try simp only [List.map_toArray, List.map_cons, List.map_nil]); first | done | rfl | (simp only [List.length_drop, List.length_take]; rfl)) ?_; (with_reducible refine (bailiwicklaw13_examples.calls  true _ A6.out).mono ?_); rintro e w' ⟨rfl, ⟨nd, rfl⟩⟩; refine ⟨_, rfl, ?_⟩) | ((with_reducible refine gate_callee (f := 9) rfl ?_); refine goesL_ (some 35) rfl rfl Try.func9 (by kernel_rfl) rfl #[.int .i64 (wrap64 (Int.tmod a0 16)), .int .i64 (wrap64 (Int.tmod a1 268435456)), .int .i64 (wrap64 (ji8))] rfl (by (try simp only [List.map_toArray, List.map_cons, List.map_nil]); first | done | (simp only [hji8]; rfl) | rfl | (simp only [List.length_drop, List.length_take]; rfl)) ?_; (with_reducible refine (space_Key.calls (wrap64 (Int.tmod a0 16)) (wrap64 (Int.tmod a1 268435456)) (wrap64 (ji8)) t108 false _ A9.out).mono ?_); rintro e w' ⟨rfl, ⟨nd, rfl⟩⟩; refine ⟨_, rfl, ?_⟩) | ((with_reducible refine gate_callee (f := 9) rfl ?_); refine goesL_ (some 45) rfl rfl Try.func9 (by kernel_rfl) rfl #[.int .i64 (wrap64 (Int.tmod a0 16)), .int .i64 (wrap64 (Int.tmod a1 268435456)), .int .i64 (wrap64 (ji10))] rfl (by (try simp only [List.map_toArray, List.map_cons, List.map_nil]); first | done | (simp only [hji10]; rfl) | rfl | (simp only [List.length_drop, List.length_take]; rfl)) ?_; (with_reducible refine (space_Key.calls (wrap64 (Int.tmod a0 16)) (wrap64 (Int.tmod a1 268435456)) (wrap64 (ji10)) t110 t111 _ A11.out).mono ?_); rintro e w' ⟨rfl, ⟨nd, rfl⟩⟩; refine ⟨_, rfl, ?_⟩))
        go_ret
        exact ⟨by first | rfl | (simp [errW_none, errW_some] <;> rfl) | (simp only [← hji8, ← hji10]; first | rfl | (simp [errW_none, errW_some] <;> rfl)) | (simp [*, errW_none, errW_some] <;> rfl), by repeat (first | (with_reducible first | exact HB.out | apply below_alloc | apply pw_below_drewN | apply below_drew1) | exact HB.out)⟩
    · rw [if_neg c12] at H
      have c12b0 : decide (t108 ≤ a4) = false := decide_eq_false c12
      clear c12
      by_cases c25 : t109 = true
      · subst c25
        have H1 : (if t111 = true then (if t108 ≤ t110 then ((space_In.f t108 (wrap64 (Int.tmod a0 16)) (wrap64 (Int.tmod a1 268435456))).bind fun t117 => (if t117 = true then ((space_In.f t110 (wrap64 (Int.tmod a0 16)) (wrap64 (Int.tmod a1 268435456))).bind fun t118 => (some t118)) else (some false))) else (some false)) else (some false)) = some r := by rw [if_pos rfl] at H; exact H
        clear H
        have H := H1
        clear H1
        by_cases c26 : t111 = true
        · subst c26
          have H1 : (if t108 ≤ t110 then ((space_In.f t108 (wrap64 (Int.tmod a0 16)) (wrap64 (Int.tmod a1 268435456))).bind fun t117 => (if t117 = true then ((space_In.f t110 (wrap64 (Int.tmod a0 16)) (wrap64 (Int.tmod a1 268435456))).bind fun t118 => (some t118)) else (some false))) else (some false)) = some r := by rw [if_pos rfl] at H; exact H
          clear H
          have H := H1
          clear H1
          by_cases c27 : t108 ≤ t110
          · rw [if_pos c27] at H
            have c27b0 : decide (t108 ≤ t110) = true := decide_eq_true c27
            clear c27
            replace H := Option.bind_eq_some_iff.mp H
            obtain ⟨t117, A280, H⟩ := H
            replace H : (if t117 = true then ((space_In.f t110 (wrap64 (Int.tmod a0 16)) (wrap64 (Int.tmod a1 268435456))).bind fun t118 => (some t118)) else (some false)) = some r := H
            have A28 := Aside0.mk A280
            clear A280
            by_cases c29 : t117 = true
            · subst c29
              have H1 : ((space_In.f t110 (wrap64 (Int.tmod a0 16)) (wrap64 (Int.tmod a1 268435456))).bind fun t118 => (some t118)) = some r := by rw [if_pos rfl] at H; exact H
              clear H
              have H := H1
              clear H1
              replace H := Option.bind_eq_some_iff.mp H
              obtain ⟨t118, A300, H⟩ := H
              replace H : (some t118) = some r := H
              have A30 := Aside0.mk A300
              clear A300
              obtain rfl := Option.some.inj H
              go_enter Try.func3, Try.ntmps3
              go_wp2_with (first | ((with_reducible refine gate_callee (f := 8) rfl ?_); refine goesL_ (some 19) rfl rfl Try.func8 (by kernel_rfl) rfl #[] rfl (by (try simp only [List.map_toArray, List.map_cons, List.map_nil]); first | done | rfl | (simp only [List.length_drop, List.length_take]; rfl)) ?_; (with_reducible refine (bailiwicklaw13_examples.calls  true _ A6.out).mono ?_); rintro e w' ⟨rfl, ⟨nd, rfl⟩⟩; refine ⟨_, rfl, ?_⟩) | ((with_reducible refine gate_callee (f := 9) rfl ?_); refine goesL_ (some 35) rfl rfl Try.func9 (by kernel_rfl) rfl #[.int .i64 (wrap64 (Int.tmod a0 16)), .int .i64 (wrap64 (Int.tmod a1 268435456)), .int .i64 (wrap64 (ji8))] rfl (by (try simp only [List.map_toArray, List.map_cons, List.map_nil]); first | done | (simp only [hji8]; rfl) | rfl | (simp only [List.length_drop, List.length_take]; rfl)) ?_; (with_reducible refine (space_Key.calls (wrap64 (Int.tmod a0 16)) (wrap64 (Int.tmod a1 268435456)) (wrap64 (ji8)) t108 true _ A9.out).mono ?_); rintro e w' ⟨rfl, ⟨nd, rfl⟩⟩; refine ⟨_, rfl, ?_⟩) | ((with_reducible refine gate_callee (f := 9) rfl ?_); refine goesL_ (some 45) rfl rfl Try.func9 (by kernel_rfl) rfl #[.int .i64 (wrap64 (Int.tmod a0 16)), .int .i64 (wrap64 (Int.tmod a1 268435456)), .int .i64 (wrap64 (ji10))] rfl (by (try simp only [List.map_toArray, List.map_cons, List.map_nil]); first | done | (simp only [hji10]; rfl) | rfl | (simp only [List.length_drop, List.length_take]; rfl)) ?_; (with_reducible refine (space_Key.calls (wrap64 (Int.tmod a0 16)) (wrap64 (Int.tmod a1 268435456)) (wrap64 (ji10)) t110 true _ A11.out).mono ?_); rintro e w' ⟨rfl, ⟨nd, rfl⟩⟩; refine ⟨_, rfl, ?_⟩) | (go_at_call 10; (with_reducible refine (space_In.calls t108 (wrap64 (Int.tmod a0 16)) (wrap64 (Int.tmod a1 268435456)) true _ A28.out).mono ?_); rintro e w' ⟨rfl, ⟨nd, rfl⟩⟩) | (go_at_call 10; (with_reducible refine (space_In.calls t110 (wrap64 (Int.tmod a0 16)) (wrap64 (Int.tmod a1 268435456)) t118 _ A30.out).mono ?_); rintro e w' ⟨rfl, ⟨nd, rfl⟩⟩))
              go_ret
              exact ⟨by first | rfl | (simp [errW_none, errW_some] <;> rfl) | (simp only [← hji8, ← hji10]; first | rfl | (simp [errW_none, errW_some] <;> rfl)) | (simp [*, errW_none, errW_some] <;> rfl), by repeat (first | (with_reducible first | exact HB.out | apply below_alloc | apply pw_below_drewN | apply below_drew1) | exact HB.out)⟩
            · replace c29 := Bool.eq_false_iff.mpr c29
              subst c29
              have H1 : (some false) = some r := by rw [if_neg (show ¬ (false = true) by decide)] at H; exact H
              clear H
              have H := H1
              clear H1
              obtain rfl := Option.some.inj H
              go_enter Try.func3, Try.ntmps3
              go_wp2_with (first | ((with_reducible refine gate_callee (f := 8) rfl ?_); refine goesL_ (some 19) rfl rfl Try.func8 (by kernel_rfl) rfl #[] rfl (by (try simp only [List.map_toArray, List.map_cons, List.map_nil]); first | done | rfl | (simp only [List.length_drop, List.length_take]; rfl)) ?_; (with_reducible refine (bailiwicklaw13_examples.calls  true _ A6.out).mono ?_); rintro e w' ⟨rfl, ⟨nd, rfl⟩⟩; refine ⟨_, rfl, ?_⟩) | ((with_reducible refine gate_callee (f := 9) rfl ?_); refine goesL_ (some 35) rfl rfl Try.func9 (by kernel_rfl) rfl #[.int .i64 (wrap64 (Int.tmod a0 16)), .int .i64 (wrap64 (Int.tmod a1 268435456)), .int .i64 (wrap64 (ji8))] rfl (by (try simp only [List.map_toArray, List.map_cons, List.map_nil]); first | done | (simp only [hji8]; rfl) | rfl | (simp only [List.length_drop, List.length_take]; rfl)) ?_; (with_reducible refine (space_Key.calls (wrap64 (Int.tmod a0 16)) (wrap64 (Int.tmod a1 268435456)) (wrap64 (ji8)) t108 true _ A9.out).mono ?_); rintro e w' ⟨rfl, ⟨nd, rfl⟩⟩; refine ⟨_, rfl, ?_⟩) | ((with_reducible refine gate_callee (f := 9) rfl ?_); refine goesL_ (some 45) rfl rfl Try.func9 (by kernel_rfl) rfl #[.int .i64 (wrap64 (Int.tmod a0 16)), .int .i64 (wrap64 (Int.tmod a1 268435456)), .int .i64 (wrap64 (ji10))] rfl (by (try simp only [List.map_toArray, List.map_cons, List.map_nil]); first | done | (simp only [hji10]; rfl) | rfl | (simp only [List.length_drop, List.length_take]; rfl)) ?_; (with_reducible refine (space_Key.calls (wrap64 (Int.tmod a0 16)) (wrap64 (Int.tmod a1 268435456)) (wrap64 (ji10)) t110 true _ A11.out).mono ?_); rintro e w' ⟨rfl, ⟨nd, rfl⟩⟩; refine ⟨_, rfl, ?_⟩) | (go_at_call 10; (with_reducible refine (space_In.calls t108 (wrap64 (Int.tmod a0 16)) (wrap64 (Int.tmod a1 268435456)) false _ A28.out).mono ?_); rintro e w' ⟨rfl, ⟨nd, rfl⟩⟩))
              go_ret
              exact ⟨by first | rfl | (simp [errW_none, errW_some] <;> rfl) | (simp only [← hji8, ← hji10]; first | rfl | (simp [errW_none, errW_some] <;> rfl)) | (simp [*, errW_none, errW_some] <;> rfl), by repeat (first | (with_reducible first | exact HB.out | apply below_alloc | apply pw_below_drewN | apply below_drew1) | exact HB.out)⟩
          · rw [if_neg c27] at H
            have c27b0 : decide (t108 ≤ t110) = false := decide_eq_false c27
            clear c27
            obtain rfl := Option.some.inj H
            go_enter Try.func3, Try.ntmps3
            go_wp2_with (first | ((with_reducible refine gate_callee (f := 8) rfl ?_); refine goesL_ (some 19) rfl rfl Try.func8 (by kernel_rfl) rfl #[] rfl (by (try simp only [List.map_toArray, List.map_cons, List.map_nil]); first | done | rfl | (simp only [List.length_drop, List.length_take]; rfl)) ?_; (with_reducible refine (bailiwicklaw13_examples.calls  true _ A6.out).mono ?_); rintro e w' ⟨rfl, ⟨nd, rfl⟩⟩; refine ⟨_, rfl, ?_⟩) | ((with_reducible refine gate_callee (f := 9) rfl ?_); refine goesL_ (some 35) rfl rfl Try.func9 (by kernel_rfl) rfl #[.int .i64 (wrap64 (Int.tmod a0 16)), .int .i64 (wrap64 (Int.tmod a1 268435456)), .int .i64 (wrap64 (ji8))] rfl (by (try simp only [List.map_toArray, List.map_cons, List.map_nil]); first | done | (simp only [hji8]; rfl) | rfl | (simp only [List.length_drop, List.length_take]; rfl)) ?_; (with_reducible refine (space_Key.calls (wrap64 (Int.tmod a0 16)) (wrap64 (Int.tmod a1 268435456)) (wrap64 (ji8)) t108 true _ A9.out).mono ?_); rintro e w' ⟨rfl, ⟨nd, rfl⟩⟩; refine ⟨_, rfl, ?_⟩) | ((with_reducible refine gate_callee (f := 9) rfl ?_); refine goesL_ (some 45) rfl rfl Try.func9 (by kernel_rfl) rfl #[.int .i64 (wrap64 (Int.tmod a0 16)), .int .i64 (wrap64 (Int.tmod a1 268435456)), .int .i64 (wrap64 (ji10))] rfl (by (try simp only [List.map_toArray, List.map_cons, List.map_nil]); first | done | (simp only [hji10]; rfl) | rfl | (simp only [List.length_drop, List.length_take]; rfl)) ?_; (with_reducible refine (space_Key.calls (wrap64 (Int.tmod a0 16)) (wrap64 (Int.tmod a1 268435456)) (wrap64 (ji10)) t110 true _ A11.out).mono ?_); rintro e w' ⟨rfl, ⟨nd, rfl⟩⟩; refine ⟨_, rfl, ?_⟩))
            go_ret
            exact ⟨by first | rfl | (simp [errW_none, errW_some] <;> rfl) | (simp only [← hji8, ← hji10]; first | rfl | (simp [errW_none, errW_some] <;> rfl)) | (simp [*, errW_none, errW_some] <;> rfl), by repeat (first | (with_reducible first | exact HB.out | apply below_alloc | apply pw_below_drewN | apply below_drew1) | exact HB.out)⟩
        · replace c26 := Bool.eq_false_iff.mpr c26
          subst c26
          have H1 : (some false) = some r := by rw [if_neg (show ¬ (false = true) by decide)] at H; exact H
          clear H
          have H := H1
          clear H1
          obtain rfl := Option.some.inj H
          go_enter Try.func3, Try.ntmps3
          go_wp2_with (first | ((with_reducible refine gate_callee (f := 8) rfl ?_); refine goesL_ (some 19) rfl rfl Try.func8 (by kernel_rfl) rfl #[] rfl (by (try simp only [List.map_toArray, List.map_cons, List.map_nil]); first | done | rfl | (simp only [List.length_drop, List.length_take]; rfl)) ?_; (with_reducible refine (bailiwicklaw13_examples.calls  true _ A6.out).mono ?_); rintro e w' ⟨rfl, ⟨nd, rfl⟩⟩; refine ⟨_, rfl, ?_⟩) | ((with_reducible refine gate_callee (f := 9) rfl ?_); refine goesL_ (some 35) rfl rfl Try.func9 (by kernel_rfl) rfl #[.int .i64 (wrap64 (Int.tmod a0 16)), .int .i64 (wrap64 (Int.tmod a1 268435456)), .int .i64 (wrap64 (ji8))] rfl (by (try simp only [List.map_toArray, List.map_cons, List.map_nil]); first | done | (simp only [hji8]; rfl) | rfl | (simp only [List.length_drop, List.length_take]; rfl)) ?_; (with_reducible refine (space_Key.calls (wrap64 (Int.tmod a0 16)) (wrap64 (Int.tmod a1 268435456)) (wrap64 (ji8)) t108 true _ A9.out).mono ?_); rintro e w' ⟨rfl, ⟨nd, rfl⟩⟩; refine ⟨_, rfl, ?_⟩) | ((with_reducible refine gate_callee (f := 9) rfl ?_); refine goesL_ (some 45) rfl rfl Try.func9 (by kernel_rfl) rfl #[.int .i64 (wrap64 (Int.tmod a0 16)), .int .i64 (wrap64 (Int.tmod a1 268435456)), .int .i64 (wrap64 (ji10))] rfl (by (try simp only [List.map_toArray, List.map_cons, List.map_nil]); first | done | (simp only [hji10]; rfl) | rfl | (simp only [List.length_drop, List.length_take]; rfl)) ?_; (with_reducible refine (space_Key.calls (wrap64 (Int.tmod a0 16)) (wrap64 (Int.tmod a1 268435456)) (wrap64 (ji10)) t110 false _ A11.out).mono ?_); rintro e w' ⟨rfl, ⟨nd, rfl⟩⟩; refine ⟨_, rfl, ?_⟩))
          go_ret
          exact ⟨by first | rfl | (simp [errW_none, errW_some] <;> rfl) | (simp only [← hji8, ← hji10]; first | rfl | (simp [errW_none, errW_some] <;> rfl)) | (simp [*, errW_none, errW_some] <;> rfl), by repeat (first | (with_reducible first | exact HB.out | apply below_alloc | apply pw_below_drewN | apply below_drew1) | exact HB.out)⟩
      · replace c25 := Bool.eq_false_iff.mpr c25
        subst c25
        have H1 : (some false) = some r := by rw [if_neg (show ¬ (false = true) by decide)] at H; exact H
        clear H
        have H := H1
        clear H1
        obtain rfl := Option.some.inj H
        go_enter Try.func3, Try.ntmps3
        go_wp2_with (first | ((with_reducible refine gate_callee (f := 8) rfl ?_); refine goesL_ (some 19) rfl rfl Try.func8 (by kernel_rfl) rfl #[] rfl (by (try simp only [List.map_toArray, List.map_cons, List.map_nil]); first | done | rfl | (simp only [List.length_drop, List.length_take]; rfl)) ?_; (with_reducible refine (bailiwicklaw13_examples.calls  true _ A6.out).mono ?_); rintro e w' ⟨rfl, ⟨nd, rfl⟩⟩; refine ⟨_, rfl, ?_⟩) | ((with_reducible refine gate_callee (f := 9) rfl ?_); refine goesL_ (some 35) rfl rfl Try.func9 (by kernel_rfl) rfl #[.int .i64 (wrap64 (Int.tmod a0 16)), .int .i64 (wrap64 (Int.tmod a1 268435456)), .int .i64 (wrap64 (ji8))] rfl (by (try simp only [List.map_toArray, List.map_cons, List.map_nil]); first | done | (simp only [hji8]; rfl) | rfl | (simp only [List.length_drop, List.length_take]; rfl)) ?_; (with_reducible refine (space_Key.calls (wrap64 (Int.tmod a0 16)) (wrap64 (Int.tmod a1 268435456)) (wrap64 (ji8)) t108 false _ A9.out).mono ?_); rintro e w' ⟨rfl, ⟨nd, rfl⟩⟩; refine ⟨_, rfl, ?_⟩) | ((with_reducible refine gate_callee (f := 9) rfl ?_); refine goesL_ (some 45) rfl rfl Try.func9 (by kernel_rfl) rfl #[.int .i64 (wrap64 (Int.tmod a0 16)), .int .i64 (wrap64 (Int.tmod a1 268435456)), .int .i64 (wrap64 (ji10))] rfl (by (try simp only [List.map_toArray, List.map_cons, List.map_nil]); first | done | (simp only [hji10]; rfl) | rfl | (simp only [List.length_drop, List.length_take]; rfl)) ?_; (with_reducible refine (space_Key.calls (wrap64 (Int.tmod a0 16)) (wrap64 (Int.tmod a1 268435456)) (wrap64 (ji10)) t110 t111 _ A11.out).mono ?_); rintro e w' ⟨rfl, ⟨nd, rfl⟩⟩; refine ⟨_, rfl, ?_⟩))
        go_ret
        exact ⟨by first | rfl | (simp [errW_none, errW_some] <;> rfl) | (simp only [← hji8, ← hji10]; first | rfl | (simp [errW_none, errW_some] <;> rfl)) | (simp [*, errW_none, errW_some] <;> rfl), by repeat (first | (with_reducible first | exact HB.out | apply below_alloc | apply pw_below_drewN | apply below_drew1) | exact HB.out)⟩
  · replace c7 := Bool.eq_false_iff.mpr c7
    subst c7
    have H1 : (some false) = some r := by rw [if_neg (show ¬ (false = true) by decide)] at H; exact H
    clear H
    have H := H1
    clear H1
    obtain rfl := Option.some.inj H
    go_enter Try.func3, Try.ntmps3
    go_wp2_with (first | ((with_reducible refine gate_callee (f := 8) rfl ?_); refine goesL_ (some 19) rfl rfl Try.func8 (by kernel_rfl) rfl #[] rfl (by (try simp only [List.map_toArray, List.map_cons, List.map_nil]); first | done | rfl | (simp only [List.length_drop, List.length_take]; rfl)) ?_; (with_reducible refine (bailiwicklaw13_examples.calls  false _ A6.out).mono ?_); rintro e w' ⟨rfl, ⟨nd, rfl⟩⟩; refine ⟨_, rfl, ?_⟩))
    go_ret
    exact ⟨by first | rfl | (simp [errW_none, errW_some] <;> rfl) | (simp [*, errW_none, errW_some] <;> rfl), by repeat (first | (with_reducible first | exact HB.out | apply below_alloc | apply pw_below_drewN | apply below_drew1) | exact HB.out)⟩

/-- THE ONE PURE STATEMENT of bailiwicklaw13_SpaceWithin: yours. -/
def bailiwicklaw13_SpaceWithin.Pure : Prop := ∀ (a0 : Int) (a1 : Int) (a2 : Int) (a3 : Int) (a4 : Int), (Lit.int .u8 a0).wf = true → (Lit.int .u32 a1).wf = true → (Lit.int .u32 a2).wf = true → (Lit.int .u32 a3).wf = true → (Lit.int .u64 a4).wf = true → bailiwicklaw13_SpaceWithin.f a0 a1 a2 a3 a4 = some true
theorem bailiwicklaw13_SpaceWithin.walk (P : bailiwicklaw13_SpaceWithin.Pure) (a0 : Int) (a1 : Int) (a2 : Int) (a3 : Int) (a4 : Int) (w : World) (w0 : (Lit.int .u8 a0).wf = true) (w1 : (Lit.int .u32 a1).wf = true) (w2 : (Lit.int .u32 a2).wf = true) (w3 : (Lit.int .u32 a3).wf = true) (w4 : (Lit.int .u64 a4).wf = true) :
    Calls Try.prog 3 #[.int .u8 a0, .int .u32 a1, .int .u32 a2, .int .u32 a3, .int .u64 a4] w fun e w' => e = .returned (.bool true) ∧ Below w.heap.size w w' := by
  have h := P a0 a1 a2 a3 a4 w0 w1 w2 w3 w4
  refine (bailiwicklaw13_SpaceWithin.calls a0 a1 a2 a3 a4 true w h).mono ?_
  rintro e w' ⟨rfl, hd⟩
  exact ⟨rfl, hd⟩

end Go.Proofs.Ytjcenohbaamadaa.PSpaceWithin
