import Derived.Test.YtkcmkgkkddgicaaDoorQBase
import Derived.Test.YtkcmkgkkddgicaaDoorQHGet
import Derived.Test.YtkcmkgkkddgicaaDoorQUstar
import Derived.Test.YtkcmkgkkddgicaaDoorQOct
namespace Go.Proofs.YtkcmkgkkddgicaaDoor.R
open Go.RowKit Go.Proofs.YtkcmkgkkddgicaaDoorW.PrintWords Go.Proofs.YtkcmkgkkddgicaaDoorW.PrintLast Go.Proofs.YtkcmkgkkddgicaaDoorW.PrintMore
attribute [local go_sem] max2_int min2_int max_two min_two max_three min_three max_four min_four   -- for this text's walks alone
set_option linter.unusedVariables false
set_option linter.unusedSimpArgs false

/-! ### bindlelaw07_HeaderRounds: function 8 -/
def bindlelaw07_HeaderRounds.l0 : Nat → Int → List Int → Bool → Int → Bool → Int → Option (Bool)
  | 0, _, _, _, _, _, _ => none
  | k + 1, x0, x1, x5, x6, x7, x8 => if x8 < (x1.length : Int) then (if x7 = true then (if 0 ≤ x8 then (bindlelaw07_HeaderRounds.l0 k x0 x1 x5 x6 ((rd x1 x8) == 0) (wrap64 (x8 + 1))) else (none)) else (bindlelaw07_HeaderRounds.l0 k x0 x1 x5 x6 false (wrap64 (x8 + 1)))) else (if x5 = true then ((bindleref07_Round.f k (Int.tmod x0 100000)).bind fun t378 => (if x6 = t378 then (if (Int.tmod x6 512) = 0 then (if x6 ≥ (Int.tmod x0 100000) then (if x6 ≥ 0 then (if x6 = 0 then ((header_Blank.f x1).bind fun t379 => (if (t379 == x7) = true then ((header_Blank.f ([] : List Int)).bind fun t380 => (some t380)) else (some false))) else (if (wrap64 (x6 - 512)) < (Int.tmod x0 100000) then ((header_Blank.f x1).bind fun t381 => (if (t381 == x7) = true then ((header_Blank.f ([] : List Int)).bind fun t382 => (some t382)) else (some false))) else (some false))) else (some false)) else (some false)) else (some false)) else (some false))) else (some false))
def bindlelaw07_HeaderRounds.f (k : Nat) (a0 : Int) (l1 : List Int) : Option (Bool) := (bindlelaw07_awake.f k).bind fun t375 => ((header_Round.f (Int.tmod a0 100000)).bind fun t376 => (bindlelaw07_HeaderRounds.l0 k a0 l1 t375 t376 true 0))
theorem bindlelaw07_HeaderRounds.mono_l : ∀ k, (∀ y0 y1 y2 y3 y4 y5, LeO (bindlelaw07_HeaderRounds.l0 k y0 y1 y2 y3 y4 y5) (bindlelaw07_HeaderRounds.l0 (k + 1) y0 y1 y2 y3 y4 y5))
  | 0 => fun _ _ _ _ _ _ r h => by simp [bindlelaw07_HeaderRounds.l0] at h
  | k + 1 => by
    have ih0 := bindlelaw07_HeaderRounds.mono_l k
    · intro y0 y1 y2 y3 y4 y5
      unfold bindlelaw07_HeaderRounds.l0
      repeat' first
      | (with_reducible exact ih0 _ _ _ _ _ _)
      | (with_reducible exact bindlelaw07_awake.mono _)
      | (with_reducible exact bindleref07_Round.mono _ _)
      | (with_reducible exact LeO.refl _)
      | (with_reducible exact LeO.none _)
      | (with_reducible refine LeO.ite ?_ ?_)
      | (with_reducible refine LeO.bind ?_ (fun _ => ?_))
      | exact ih0 _ _ _ _ _ _
      | exact bindlelaw07_awake.mono _
      | exact bindleref07_Round.mono _ _
      | exact LeO.none _
      | refine LeO.ite ?_ ?_
      | refine LeO.bind ?_ (fun _ => ?_)
theorem bindlelaw07_HeaderRounds.mono : ∀ a0 a1 k, LeO (bindlelaw07_HeaderRounds.f k a0 a1) (bindlelaw07_HeaderRounds.f (k + 1) a0 a1) := by
  intro a0 a1 k
  have ih0 := bindlelaw07_HeaderRounds.mono_l k
  unfold bindlelaw07_HeaderRounds.f
  repeat' first
      | (with_reducible exact ih0 _ _ _ _ _ _)
      | (with_reducible exact bindlelaw07_awake.mono _)
      | (with_reducible exact bindleref07_Round.mono _ _)
      | (with_reducible exact LeO.refl _)
      | (with_reducible exact LeO.none _)
      | (with_reducible refine LeO.ite ?_ ?_)
      | (with_reducible refine LeO.bind ?_ (fun _ => ?_))
      | exact ih0 _ _ _ _ _ _
      | exact bindlelaw07_awake.mono _
      | exact bindleref07_Round.mono _ _
      | exact LeO.none _
      | refine LeO.ite ?_ ?_
      | refine LeO.bind ?_ (fun _ => ?_)
set_option maxHeartbeats 8000000 in
set_option maxRecDepth 100000 in
theorem bindlelaw07_HeaderRounds.calls (k : Nat) (a0 : Int) (A1 : Option Addr) (c1 : Nat) (l1 : List Int) (r : Bool) (w : World) (hr1 : Kd.C (Kd.int .u8) w A1 l1.length l1) (hc1 : l1.length ≤ c1) (h : bindlelaw07_HeaderRounds.f k a0 l1 = some r) :
    Calls Tryd.prog 8 #[.int .i64 a0, .slice A1 l1.length c1] w fun e w' => e = .returned (.bool r) ∧ Below w.heap.size w w' := by
  have HR1 := Aside0.mk hr1
  have HC1 := Aside0.mk hc1
  clear hr1 hc1
  have HB := Aside0.mk (Below.refl w.heap.size w)
  have H : ((bindlelaw07_awake.f k).bind fun t375 => ((header_Round.f (Int.tmod a0 100000)).bind fun t376 => (bindlelaw07_HeaderRounds.l0 k a0 l1 t375 t376 true 0))) = some r := h
  clear h
  replace H := Option.bind_eq_some_iff.mp H
  obtain ⟨t375, A30, H⟩ := H
  replace H : ((header_Round.f (Int.tmod a0 100000)).bind fun t376 => (bindlelaw07_HeaderRounds.l0 k a0 l1 t375 t376 true 0)) = some r := H
  have A3 := Aside0.mk A30
  clear A30
  replace H := Option.bind_eq_some_iff.mp H
  obtain ⟨t376, A40, H⟩ := H
  replace H : (bindlelaw07_HeaderRounds.l0 k a0 l1 t375 t376 true 0) = some r := H
  have A4 := Aside0.mk A40
  clear A40
  have H' := Aside0.mk H
  clear H
  go_enter Tryd.func8, Tryd.ntmps8
  go_wp2_with (first | ((with_reducible refine gate_callee (f := 16) rfl ?_); refine goesL_ (some 9) rfl rfl Tryd.func16 (by kernel_rfl) rfl #[] rfl (by (try simp only [List.map_toArray, List.map_cons, List.map_nil]); first | done | rfl | (simp only [List.length_drop, List.length_take]; rfl)) ?_; (with_reducible refine (bindlelaw07_awake.calls k  t375 _ A3.out).mono ?_); rintro e w5 ⟨rfl, hb⟩; refine ⟨_, rfl, ?_⟩; have n0_ := Aside0.mk (below_step (by repeat (first | (with_reducible first | exact HB.out | apply below_alloc | apply pw_below_drewN | apply below_drew1) | exact HB.out)) hb); clear HB; have HB := n0_; clear n0_; (try clear hb); (try clear hb2); (try clear hk); (try clear hi)) | ((with_reducible refine gate_callee (f := 22) rfl ?_); refine goesL_ (some 12) rfl rfl Tryd.func22 (by kernel_rfl) rfl #[.int .i64 (Int.tmod a0 100000)] rfl (by (try simp only [List.map_toArray, List.map_cons, List.map_nil]); first | done | rfl | (simp only [List.length_drop, List.length_take]; rfl)) ?_; (with_reducible refine (header_Round.calls (Int.tmod a0 100000) t376 _ A4.out).mono ?_); rintro e w6 ⟨rfl, hb⟩; refine ⟨_, rfl, ?_⟩; have n0_ := Aside0.mk (below_step (by repeat (first | (with_reducible first | exact HB.out | apply below_alloc | apply pw_below_drewN | apply below_drew1) | exact HB.out)) hb); clear HB; have HB := n0_; clear n0_; (try clear hb); (try clear hb2); (try clear hk); (try clear hi)))
  go_loopg [7, 8] k (fun kq v7 v8 w' => ∃ (x7_1 : Bool) (x8_1 : Int), v7 = .bool x7_1 ∧ v8 = .int .i64 x8_1 ∧ Aside0 (bindlelaw07_HeaderRounds.l0 kq a0 l1 t375 t376 x7_1 x8_1 = some r) ∧ Aside0 (kq ≤ k) ∧ Aside0 (Below w.heap.size w w'))
  case atStart => exact ⟨(true), (0), (by first | rfl | (simp; done) | (simp [*]; done)), (by first | rfl | (simp; done) | (simp [*]; done)), H', ⟨Nat.le_refl _⟩, ⟨by repeat (first | (with_reducible first | exact HB.out | apply below_alloc | apply pw_below_drewN | apply below_drew1) | exact HB.out)⟩⟩
  case round =>
    clear H'
    try clear c1
    try clear c2
    try clear p2
    obtain ⟨x7_1, x8_1, rfl, rfl, HA, HK1, HB⟩ := hrel
    cases gk with
    | zero => exact absurd HA.out (by simp [bindlelaw07_HeaderRounds.l0])
    | succ k1 =>
      have H := HA.out
      clear HA
      simp only [bindlelaw07_HeaderRounds.l0] at H
      by_cases c7 : x8_1 < (l1.length : Int)
      · rw [if_pos c7] at H
        have c7b0 : decide (x8_1 < (l1.length : Int)) = true := decide_eq_true c7
        clear c7
        by_cases c8 : x7_1 = true
        · subst c8
          have H1 : (if 0 ≤ x8_1 then (bindlelaw07_HeaderRounds.l0 k1 a0 l1 t375 t376 ((rd l1 x8_1) == 0) (wrap64 (x8_1 + 1))) else (none)) = some r := by rw [if_pos rfl] at H; exact H
          clear H
          have H := H1
          clear H1
          by_cases c9 : 0 ≤ x8_1
          · rw [if_pos c9] at H
            have c9b0 : decide (0 ≤ x8_1) = true := decide_eq_true c9
            clear c9
            have H' := Aside0.mk H
            clear H
            have p377 : 0 ≤ (x8_1 : Int) := of_decide_eq_true (by first | (with_reducible assumption) | assumption)
            have q377 : x8_1 < (l1.length : Int) := of_decide_eq_true (by first | (with_reducible assumption) | assumption)
            obtain ⟨ad377, e377, hx377_0⟩ := Kd.at_int HR1.out x8_1 p377 q377
            cases e377
            replace hx377_0 := (HB.out.cell (World.block_lt_of_cell? w _ hx377_0)).trans hx377_0
            replace p377 := eq_true p377
            replace q377 := eq_true q377
            go_wp2
            go_roundg k1
            case measure => have := HK1.out; omega
            case rel => exact ⟨(((rd l1 x8_1) == 0)), (wrap64 (x8_1 + 1)), (by first | rfl | (simp; done) | (simp [*]; done)), (by first | rfl | (simp; done) | (simp [*]; done)), H', ⟨by have := HK1.out; omega⟩, ⟨by repeat (first | (with_reducible first | exact HB.out | apply below_alloc | apply pw_below_drewN | apply below_drew1) | exact HB.out)⟩⟩
          · rw [if_neg c9] at H
            exact absurd H (by simp)
        · replace c8 := Bool.eq_false_iff.mpr c8
          subst c8
          have H1 : (bindlelaw07_HeaderRounds.l0 k1 a0 l1 t375 t376 false (wrap64 (x8_1 + 1))) = some r := by rw [if_neg (show ¬ (false = true) by decide)] at H; exact H
          clear H
          have H := H1
          clear H1
          have H' := Aside0.mk H
          clear H
          go_wp2
          go_roundg k1
          case measure => have := HK1.out; omega
          case rel => exact ⟨(false), (wrap64 (x8_1 + 1)), (by first | rfl | (simp; done) | (simp [*]; done)), (by first | rfl | (simp; done) | (simp [*]; done)), H', ⟨by have := HK1.out; omega⟩, ⟨by repeat (first | (with_reducible first | exact HB.out | apply below_alloc | apply pw_below_drewN | apply below_drew1) | exact HB.out)⟩⟩
      · rw [if_neg c7] at H
        have c7b0 : decide (x8_1 < (l1.length : Int)) = false := decide_eq_false c7
        clear c7
        by_cases c10 : t375 = true
        · subst c10
          have H1 : ((bindleref07_Round.f k1 (Int.tmod a0 100000)).bind fun t378 => (if t376 = t378 then (if (Int.tmod t376 512) = 0 then (if t376 ≥ (Int.tmod a0 100000) then (if t376 ≥ 0 then (if t376 = 0 then ((header_Blank.f l1).bind fun t379 => (if (t379 == x7_1) = true then ((header_Blank.f ([] : List Int)).bind fun t380 => (some t380)) else (some false))) else (if (wrap64 (t376 - 512)) < (Int.tmod a0 100000) then ((header_Blank.f l1).bind fun t381 => (if (t381 == x7_1) = true then ((header_Blank.f ([] : List Int)).bind fun t382 => (some t382)) else (some false))) else (some false))) else (some false)) else (some false)) else (some false)) else (some false))) = some r := by rw [if_pos rfl] at H; exact H
          clear H
          have H := H1
          clear H1
          replace H := Option.bind_eq_some_iff.mp H
          obtain ⟨t378, A110, H⟩ := H
          replace H : (if t376 = t378 then (if (Int.tmod t376 512) = 0 then (if t376 ≥ (Int.tmod a0 100000) then (if t376 ≥ 0 then (if t376 = 0 then ((header_Blank.f l1).bind fun t379 => (if (t379 == x7_1) = true then ((header_Blank.f ([] : List Int)).bind fun t380 => (some t380)) else (some false))) else (if (wrap64 (t376 - 512)) < (Int.tmod a0 100000) then ((header_Blank.f l1).bind fun t381 => (if (t381 == x7_1) = true then ((header_Blank.f ([] : List Int)).bind fun t382 => (some t382)) else (some false))) else (some false))) else (some false)) else (some false)) else (some false)) else (some false)) = some r := H
          have A11 := Aside0.mk A110
          clear A110
          by_cases c12 : t376 = t378
          · rw [if_pos c12] at H
            have c12b0 : (t376 == t378) = true := beq_iff_eq.mpr c12
            have c12b1 : (t376 != t378) = false := bne_eq_false_iff_eq.mpr c12
            clear c12
            by_cases c13 : (Int.tmod t376 512) = 0
            · rw [if_pos c13] at H
              have c13b0 : ((Int.tmod t376 512) == 0) = true := beq_iff_eq.mpr c13
              have c13b1 : ((Int.tmod t376 512) != 0) = false := bne_eq_false_iff_eq.mpr c13
              clear c13
              by_cases c14 : t376 ≥ (Int.tmod a0 100000)
              · rw [if_pos c14] at H
                have c14b0 : decide ((Int.tmod a0 100000) ≤ t376) = true := decide_eq_true c14
                clear c14
                by_cases c15 : t376 ≥ 0
                · rw [if_pos c15] at H
                  have c15b0 : decide (0 ≤ t376) = true := decide_eq_true c15
                  clear c15
                  by_cases c16 : t376 = 0
                  · rw [if_pos c16] at H
                    have c16b0 : (t376 == 0) = true := beq_iff_eq.mpr c16
                    have c16b1 : (t376 != 0) = false := bne_eq_false_iff_eq.mpr c16
                    clear c16
                    replace H := Option.bind_eq_some_iff.mp H
                    obtain ⟨t379, A170, H⟩ := H
                    replace H : (if (t379 == x7_1) = true then ((header_Blank.f ([] : List Int)).bind fun t380 => (some t380)) else (some false)) = some r := H
                    have A17 := Aside0.mk A170
                    clear A170
                    by_cases c18 : (t379 == x7_1) = true
                    · rw [if_pos c18] at H
                      have c18b0 : (t379 == x7_1) = true := c18
                      (try (have c18b1 : decide (t379 = x7_1) = true := by simpa using c18))
                      (try (have c18b2 : (t379 == x7_1) = true := by simpa using c18))
                      clear c18
                      replace H := Option.bind_eq_some_iff.mp H
                      obtain ⟨t380, A190, H⟩ := H
                      replace H : (some t380) = some r := H
                      have A19 := Aside0.mk A190
                      clear A190
                      obtain rfl := Option.some.inj H
                      go_wp2_with (first | (go_at_call 23; (with_reducible refine (bindleref07_Round.calls k1 (Int.tmod a0 100000) t378 _ A11.out).mono ?_); rintro e w' ⟨rfl, ⟨nd, rfl⟩⟩) | (go_at_call 24; (with_reducible refine (header_Blank.calls _ _ l1 t379 _ ?side1 ?side2 A17.out).mono ?_); (case side1 => repeat (first | exact (Kd.C_below HR1.out (by repeat (first | (with_reducible first | exact HB.out | apply below_alloc | apply pw_below_drewN | apply below_drew1) | exact HB.out))) | (with_reducible refine Kd.C_alloc ?_ _) | (with_reducible refine Kd.C_drewN ?_ _) | (with_reducible refine Kd.C_drew ?_))); (case side2 => exact HC1.out); rintro e w20 ⟨rfl, hb⟩; have n0_ := Aside0.mk (below_step (by repeat (first | (with_reducible first | exact HB.out | apply below_alloc | apply pw_below_drewN | apply below_drew1) | exact HB.out)) hb); clear HB; have HB := n0_; clear n0_; (try clear hb); (try clear hb2); (try clear hk); (try clear hi)) | (go_at_call 24; (refine (header_Blank.calls _ _ ([] : List Int) t380 _ ?side1 ?side2 A19.out).mono ?_); (case side1 => exact Kd.C_nil _ _); (case side2 => exact Nat.le_refl _); rintro e w21 ⟨rfl, hb⟩; have n0_ := Aside0.mk (below_step (by repeat (first | (with_reducible first | exact HB.out | apply below_alloc | apply pw_below_drewN | apply below_drew1) | exact HB.out)) hb); clear HB; have HB := n0_; clear n0_; (try clear hb); (try clear hb2); (try clear hk); (try clear hi)))
                      go_ret
                      exact ⟨by first | rfl | (simp [errW_none, errW_some] <;> rfl) | (simp [*, errW_none, errW_some] <;> rfl), by repeat (first | (with_reducible first | exact HB.out | apply below_alloc | apply pw_below_drewN | apply below_drew1) | exact HB.out)⟩
                    · rw [if_neg c18] at H
                      have c18b0 : (t379 == x7_1) = false := by simpa using c18
                      (try (have c18b1 : decide (t379 = x7_1) = false := by simpa using c18))
                      (try (have c18b2 : (t379 == x7_1) = false := by simpa using c18))
                      (try (have c18b3 : ¬ (t379 = x7_1) := by simpa using c18))
                      clear c18
                      obtain rfl := Option.some.inj H
                      go_wp2_with (first | (go_at_call 23; (with_reducible refine (bindleref07_Round.calls k1 (Int.tmod a0 100000) t378 _ A11.out).mono ?_); rintro e w' ⟨rfl, ⟨nd, rfl⟩⟩) | (go_at_call 24; (with_reducible refine (header_Blank.calls _ _ l1 t379 _ ?side1 ?side2 A17.out).mono ?_); (case side1 => repeat (first | exact (Kd.C_below HR1.out (by repeat (first | (with_reducible first | exact HB.out | apply below_alloc | apply pw_below_drewN | apply below_drew1) | exact HB.out))) | (with_reducible refine Kd.C_alloc ?_ _) | (with_reducible refine Kd.C_drewN ?_ _) | (with_reducible refine Kd.C_drew ?_))); (case side2 => exact HC1.out); rintro e w22 ⟨rfl, hb⟩; have n0_ := Aside0.mk (below_step (by repeat (first | (with_reducible first | exact HB.out | apply below_alloc | apply pw_below_drewN | apply below_drew1) | exact HB.out)) hb); clear HB; have HB := n0_; clear n0_; (try clear hb); (try clear hb2); (try clear hk); (try clear hi)))
                      go_ret
                      exact ⟨by first | rfl | (simp [errW_none, errW_some] <;> rfl) | (simp [*, errW_none, errW_some] <;> rfl), by repeat (first | (with_reducible first | exact HB.out | apply below_alloc | apply pw_below_drewN | apply below_drew1) | exact HB.out)⟩
                  · rw [if_neg c16] at H
                    have c16b0 : (t376 == 0) = false := beq_eq_false_iff_ne.mpr c16
                    have c16b1 : (t376 != 0) = true := bne_iff_ne.mpr c16
                    by_cases c23 : (wrap64 (t376 - 512)) < (Int.tmod a0 100000)
                    · rw [if_pos c23] at H
                      have c23b0 : decide ((wrap64 (t376 - 512)) < (Int.tmod a0 100000)) = true := decide_eq_true c23
                      clear c23
                      replace H := Option.bind_eq_some_iff.mp H
                      obtain ⟨t381, A240, H⟩ := H
                      replace H : (if (t381 == x7_1) = true then ((header_Blank.f ([] : List Int)).bind fun t382 => (some t382)) else (some false)) = some r := H
                      have A24 := Aside0.mk A240
                      clear A240
                      by_cases c25 : (t381 == x7_1) = true
                      · rw [if_pos c25] at H
                        have c25b0 : (t381 == x7_1) = true := c25
                        (try (have c25b1 : decide (t381 = x7_1) = true := by simpa using c25))
                        (try (have c25b2 : (t381 == x7_1) = true := by simpa using c25))
                        clear c25
                        replace H := Option.bind_eq_some_iff.mp H
                        obtain ⟨t382, A260, H⟩ := H
                        replace H : (some t382) = some r := H
                        have A26 := Aside0.mk A260
                        clear A260
                        obtain rfl := Option.some.inj H
                        go_wp2_with (first | (go_at_call 23; (with_reducible refine (bindleref07_Round.calls k1 (Int.tmod a0 100000) t378 _ A11.out).mono ?_); rintro e w' ⟨rfl, ⟨nd, rfl⟩⟩) | (go_at_call 24; (with_reducible refine (header_Blank.calls _ _ l1 t381 _ ?side1 ?side2 A24.out).mono ?_); (case side1 => repeat (first | exact (Kd.C_below HR1.out (by repeat (first | (with_reducible first | exact HB.out | apply below_alloc | apply pw_below_drewN | apply below_drew1) | exact HB.out))) | (with_reducible refine Kd.C_alloc ?_ _) | (with_reducible refine Kd.C_drewN ?_ _) | (with_reducible refine Kd.C_drew ?_))); (case side2 => exact HC1.out); rintro e w27 ⟨rfl, hb⟩; have n0_ := Aside0.mk (below_step (by repeat (first | (with_reducible first | exact HB.out | apply below_alloc | apply pw_below_drewN | apply below_drew1) | exact HB.out)) hb); clear HB; have HB := n0_; clear n0_; (try clear hb); (try clear hb2); (try clear hk); (try clear hi)) | (go_at_call 24; (refine (header_Blank.calls _ _ ([] : List Int) t382 _ ?side1 ?side2 A26.out).mono ?_); (case side1 => exact Kd.C_nil _ _); (case side2 => exact Nat.le_refl _); rintro e w28 ⟨rfl, hb⟩; have n0_ := Aside0.mk (below_step (by repeat (first | (with_reducible first | exact HB.out | apply below_alloc | apply pw_below_drewN | apply below_drew1) | exact HB.out)) hb); clear HB; have HB := n0_; clear n0_; (try clear hb); (try clear hb2); (try clear hk); (try clear hi)))
                        go_ret
                        exact ⟨by first | rfl | (simp [errW_none, errW_some] <;> rfl) | (simp [*, errW_none, errW_some] <;> rfl), by repeat (first | (with_reducible first | exact HB.out | apply below_alloc | apply pw_below_drewN | apply below_drew1) | exact HB.out)⟩
                      · rw [if_neg c25] at H
                        have c25b0 : (t381 == x7_1) = false := by simpa using c25
                        (try (have c25b1 : decide (t381 = x7_1) = false := by simpa using c25))
                        (try (have c25b2 : (t381 == x7_1) = false := by simpa using c25))
                        (try (have c25b3 : ¬ (t381 = x7_1) := by simpa using c25))
                        clear c25
                        obtain rfl := Option.some.inj H
                        go_wp2_with (first | (go_at_call 23; (with_reducible refine (bindleref07_Round.calls k1 (Int.tmod a0 100000) t378 _ A11.out).mono ?_); rintro e w' ⟨rfl, ⟨nd, rfl⟩⟩) | (go_at_call 24; (with_reducible refine (header_Blank.calls _ _ l1 t381 _ ?side1 ?side2 A24.out).mono ?_); (case side1 => repeat (first | exact (Kd.C_below HR1.out (by repeat (first | (with_reducible first | exact HB.out | apply below_alloc | apply pw_below_drewN | apply below_drew1) | exact HB.out))) | (with_reducible refine Kd.C_alloc ?_ _) | (with_reducible refine Kd.C_drewN ?_ _) | (with_reducible refine Kd.C_drew ?_))); (case side2 => exact HC1.out); rintro e w29 ⟨rfl, hb⟩; have n0_ := Aside0.mk (below_step (by repeat (first | (with_reducible first | exact HB.out | apply below_alloc | apply pw_below_drewN | apply below_drew1) | exact HB.out)) hb); clear HB; have HB := n0_; clear n0_; (try clear hb); (try clear hb2); (try clear hk); (try clear hi)))
                        go_ret
                        exact ⟨by first | rfl | (simp [errW_none, errW_some] <;> rfl) | (simp [*, errW_none, errW_some] <;> rfl), by repeat (first | (with_reducible first | exact HB.out | apply below_alloc | apply pw_below_drewN | apply below_drew1) | exact HB.out)⟩
                    · rw [if_neg c23] at H
                      have c23b0 : decide ((wrap64 (t376 - 512)) < (Int.tmod a0 100000)) = false := decide_eq_false c23
                      clear c23
                      obtain rfl := Option.some.inj H
                      go_wp2_with (first | (go_at_call 23; (with_reducible refine (bindleref07_Round.calls k1 (Int.tmod a0 100000) t378 _ A11.out).mono ?_); rintro e w' ⟨rfl, ⟨nd, rfl⟩⟩))
                      go_ret
                      exact ⟨by first | rfl | (simp [errW_none, errW_some] <;> rfl) | (simp [*, errW_none, errW_some] <;> rfl), by repeat (first | (with_reducible first | exact HB.out | apply below_alloc | apply pw_below_drewN | apply below_drew1) | exact HB.out)⟩
                · rw [if_neg c15] at H
                  have c15b0 : decide (0 ≤ t376) = false := decide_eq_false c15
                  clear c15
                  obtain rfl := Option.some.inj H
                  go_wp2_with (first | (go_at_call 23; (with_reducible refine (bindleref07_Round.calls k1 (Int.tmod a0 100000) t378 _ A11.out).mono ?_); rintro e w' ⟨rfl, ⟨nd, rfl⟩⟩))
                  go_ret
                  exact ⟨by first | rfl | (simp [errW_none, errW_some] <;> rfl) | (simp [*, errW_none, errW_some] <;> rfl), by repeat (first | (with_reducible first | exact HB.out | apply below_alloc | apply pw_below_drewN | apply below_drew1) | exact HB.out)⟩
              · rw [if_neg c14] at H
                have c14b0 : decide ((Int.tmod a0 100000) ≤ t376) = false := decide_eq_false c14
                clear c14
                obtain rfl := Option.some.inj H
                go_wp2_with (first | (go_at_call 23; (with_reducible refine (bindleref07_Round.calls k1 (Int.tmod a0 100000) t378 _ A11.out).mono ?_); rintro e w' ⟨rfl, ⟨nd, rfl⟩⟩))
                go_ret
                exact ⟨by first | rfl | (simp [errW_none, errW_some] <;> rfl) | (simp [*, errW_none, errW_some] <;> rfl), by repeat (first | (with_reducible first | exact HB.out | apply below_alloc | apply pw_below_drewN | apply below_drew1) | exact HB.out)⟩
            · rw [if_neg c13] at H
              have c13b0 : ((Int.tmod t376 512) == 0) = false := beq_eq_false_iff_ne.mpr c13
              have c13b1 : ((Int.tmod t376 512) != 0) = true := bne_iff_ne.mpr c13
              obtain rfl := Option.some.inj H
              go_wp2_with (first | (go_at_call 23; (with_reducible refine (bindleref07_Round.calls k1 (Int.tmod a0 100000) t378 _ A11.out).mono ?_); rintro e w' ⟨rfl, ⟨nd, rfl⟩⟩))
              go_ret
              exact ⟨by first | rfl | (simp [errW_none, errW_some] <;> rfl) | (simp [*, errW_none, errW_some] <;> rfl), by repeat (first | (with_reducible first | exact HB.out | apply below_alloc | apply pw_below_drewN | apply below_drew1) | exact HB.out)⟩
          · rw [if_neg c12] at H
            have c12b0 : (t376 == t378) = false := beq_eq_false_iff_ne.mpr c12
            have c12b1 : (t376 != t378) = true := bne_iff_ne.mpr c12
            obtain rfl := Option.some.inj H
            go_wp2_with (first | (go_at_call 23; (with_reducible refine (bindleref07_Round.calls k1 (Int.tmod a0 100000) t378 _ A11.out).mono ?_); rintro e w' ⟨rfl, ⟨nd, rfl⟩⟩))
            go_ret
            exact ⟨by first | rfl | (simp [errW_none, errW_some] <;> rfl) | (simp [*, errW_none, errW_some] <;> rfl), by repeat (first | (with_reducible first | exact HB.out | apply below_alloc | apply pw_below_drewN | apply below_drew1) | exact HB.out)⟩
        · replace c10 := Bool.eq_false_iff.mpr c10
          subst c10
          have H1 : (some false) = some r := by rw [if_neg (show ¬ (false = true) by decide)] at H; exact H
          clear H
          have H := H1
          clear H1
          obtain rfl := Option.some.inj H
          go_wp2
          go_ret
          exact ⟨by first | rfl | (simp [errW_none, errW_some] <;> rfl) | (simp [*, errW_none, errW_some] <;> rfl), by repeat (first | (with_reducible first | exact HB.out | apply below_alloc | apply pw_below_drewN | apply below_drew1) | exact HB.out)⟩

-- BY HAND: function 25 (bindlelaw08_awake)

-- BY HAND: function 26 (ustar_Get)

end Go.Proofs.YtkcmkgkkddgicaaDoor.R
