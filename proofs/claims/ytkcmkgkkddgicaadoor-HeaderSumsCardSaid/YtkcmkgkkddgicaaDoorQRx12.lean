import Derived.Test.YtkcmkgkkddgicaaDoorQBase
import Derived.Test.YtkcmkgkkddgicaaDoorQHGet
import Derived.Test.YtkcmkgkkddgicaaDoorQRefA
import Derived.Test.YtkcmkgkkddgicaaDoorQHead
namespace Go.Proofs.YtkcmkgkkddgicaaDoor.R
open Go.RowKit Go.Proofs.YtkcmkgkkddgicaaDoorW.PrintWords Go.Proofs.YtkcmkgkkddgicaaDoorW.PrintLast Go.Proofs.YtkcmkgkkddgicaaDoorW.PrintMore
attribute [local go_sem] max2_int min2_int max_two min_two max_three min_three max_four min_four   -- for this text's walks alone
set_option linter.unusedVariables false
set_option linter.unusedSimpArgs false

/-! ### bindlelaw07_HeaderSums: function 6 -/
def bindlelaw07_HeaderSums.l0 : Nat → Int → Bool → List Int → Int → Int → Option (Bool)
  | 0, _, _, _, _, _ => none
  | k + 1, x2, x7, x8, x10, x11 => if x11 < 154 then (if 0 ≤ x11 then (if x11 < (x8.length : Int) then (bindlelaw07_HeaderSums.l0 k x2 x7 x8 (wrap64 ((wrap64 (8 * x10)) + (((rd x8 x11) - 48) % 256))) (wrap64 (x11 + 1))) else (none)) else (none)) else (if 0 ≤ (Int.tmod (wrap64 (x2)) 512) then (if (Int.tmod (wrap64 (x2)) 512) < (x8.length : Int) then ((some (x8.set ((Int.tmod (wrap64 (x2)) 512) : Int).toNat (((rd x8 (Int.tmod (wrap64 (x2)) 512)) + 1) % 256) : List Int)).bind fun y366 => ((header_Get.f k y366).bind fun bt367 => ((some (y366.set ((Int.tmod (wrap64 (x2)) 512) : Int).toNat (((rd y366 (Int.tmod (wrap64 (x2)) 512)) - 1) % 256) : List Int)).bind fun y371 => (if x7 = true then ((bindleref05_Check.f k y371).bind fun t372 => (if x10 = t372 then (if 154 < (x8.length : Int) then (if (rd y371 154) = 0 then (if 155 < (x8.length : Int) then (if (rd y371 155) = 32 then (some (bt367.2.2 == 2)) else (some false)) else (none)) else (some false)) else (none)) else (some false))) else (some false))))) else (none)) else (none))
def bindlelaw07_HeaderSums.f (k : Nat) (a0 : ByteArray) (a1 : Int) (a2 : Int) : Option (Bool) := (bindlelaw07_awake.f k).bind fun t359 => ((header_Put.f a0 a1).bind fun bt360 => (if bt360.2 = 0 then (if (bt360.1.length : Int) = 512 then (bindlelaw07_HeaderSums.l0 k a2 t359 bt360.1 0 148) else (some false)) else (some t359)))
theorem bindlelaw07_HeaderSums.mono_l : ∀ k, (∀ y0 y1 y2 y3 y4, LeO (bindlelaw07_HeaderSums.l0 k y0 y1 y2 y3 y4) (bindlelaw07_HeaderSums.l0 (k + 1) y0 y1 y2 y3 y4))
  | 0 => fun _ _ _ _ _ r h => by simp [bindlelaw07_HeaderSums.l0] at h
  | k + 1 => by
    have ih0 := bindlelaw07_HeaderSums.mono_l k
    · intro y0 y1 y2 y3 y4
      unfold bindlelaw07_HeaderSums.l0
      repeat' first
      | (with_reducible exact ih0 _ _ _ _ _)
      | (with_reducible exact bindlelaw07_awake.mono _)
      | (with_reducible exact bindleref05_Check.mono _ _)
      | (with_reducible exact header_Get.mono _ _)
      | (with_reducible exact LeO.refl _)
      | (with_reducible exact LeO.none _)
      | (with_reducible refine LeO.ite ?_ ?_)
      | (with_reducible refine LeO.bind ?_ (fun _ => ?_))
      | exact ih0 _ _ _ _ _
      | exact bindlelaw07_awake.mono _
      | exact bindleref05_Check.mono _ _
      | exact header_Get.mono _ _
      | exact LeO.none _
      | refine LeO.ite ?_ ?_
      | refine LeO.bind ?_ (fun _ => ?_)
theorem bindlelaw07_HeaderSums.mono : ∀ a0 a1 a2 k, LeO (bindlelaw07_HeaderSums.f k a0 a1 a2) (bindlelaw07_HeaderSums.f (k + 1) a0 a1 a2) := by
  intro a0 a1 a2 k
  have ih0 := bindlelaw07_HeaderSums.mono_l k
  unfold bindlelaw07_HeaderSums.f
  repeat' first
      | (with_reducible exact ih0 _ _ _ _ _)
      | (with_reducible exact bindlelaw07_awake.mono _)
      | (with_reducible exact bindleref05_Check.mono _ _)
      | (with_reducible exact header_Get.mono _ _)
      | (with_reducible exact LeO.refl _)
      | (with_reducible exact LeO.none _)
      | (with_reducible refine LeO.ite ?_ ?_)
      | (with_reducible refine LeO.bind ?_ (fun _ => ?_))
      | exact ih0 _ _ _ _ _
      | exact bindlelaw07_awake.mono _
      | exact bindleref05_Check.mono _ _
      | exact header_Get.mono _ _
      | exact LeO.none _
      | refine LeO.ite ?_ ?_
      | refine LeO.bind ?_ (fun _ => ?_)
set_option maxHeartbeats 8000000 in
set_option maxRecDepth 100000 in
theorem bindlelaw07_HeaderSums.calls (k : Nat) (a0 : ByteArray) (a1 : Int) (a2 : Int) (r : Bool) (w : World) (h : bindlelaw07_HeaderSums.f k a0 a1 a2 = some r) :
    Calls Tryd.prog 6 #[.string a0, .int .i64 a1, .int .u16 a2] w fun e w' => e = .returned (.bool r) ∧ Below w.heap.size w w' := by
  have HB := Aside0.mk (Below.refl w.heap.size w)
  have H : ((bindlelaw07_awake.f k).bind fun t359 => ((header_Put.f a0 a1).bind fun bt360 => (if bt360.2 = 0 then (if (bt360.1.length : Int) = 512 then (bindlelaw07_HeaderSums.l0 k a2 t359 bt360.1 0 148) else (some false)) else (some t359)))) = some r := h
  clear h
  replace H := Option.bind_eq_some_iff.mp H
  obtain ⟨t359, A40, H⟩ := H
  replace H : ((header_Put.f a0 a1).bind fun bt360 => (if bt360.2 = 0 then (if (bt360.1.length : Int) = 512 then (bindlelaw07_HeaderSums.l0 k a2 t359 bt360.1 0 148) else (some false)) else (some t359))) = some r := H
  have A4 := Aside0.mk A40
  clear A40
  replace H := Option.bind_eq_some_iff.mp H
  obtain ⟨⟨t360, t361⟩, A50, H⟩ := H
  replace H : (if t361 = 0 then (if (t360.length : Int) = 512 then (bindlelaw07_HeaderSums.l0 k a2 t359 t360 0 148) else (some false)) else (some t359)) = some r := H
  have A5 := Aside0.mk A50
  clear A50
  by_cases c6 : t361 = 0
  · rw [if_pos c6] at H
    have c6b0 : (t361 == 0) = true := beq_iff_eq.mpr c6
    have c6b1 : (t361 != 0) = false := bne_eq_false_iff_eq.mpr c6
    clear c6
    by_cases c7 : (t360.length : Int) = 512
    · rw [if_pos c7] at H
      have c7b0 : ((t360.length : Int) == 512) = true := beq_iff_eq.mpr c7
      have c7b1 : ((t360.length : Int) != 512) = false := bne_eq_false_iff_eq.mpr c7
      clear c7
      have H' := Aside0.mk H
      clear H
      go_enter Tryd.func6, Tryd.ntmps6
      go_wp2_with (first | ((with_reducible refine gate_callee (f := 16) rfl ?_); refine goesL_ (some 16) rfl rfl Tryd.func16 (by kernel_rfl) rfl #[] rfl (by (try simp only [List.map_toArray, List.map_cons, List.map_nil]); first | done | rfl | (simp only [List.length_drop, List.length_take]; rfl)) ?_; (with_reducible refine (bindlelaw07_awake.calls k  t359 _ A4.out).mono ?_); rintro e w8 ⟨rfl, hb⟩; refine ⟨_, rfl, ?_⟩; have n0_ := Aside0.mk (below_step (by repeat (first | (with_reducible first | exact HB.out | apply below_alloc | apply pw_below_drewN | apply below_drew1) | exact HB.out)) hb); clear HB; have HB := n0_; clear n0_; (try clear hb); (try clear hb2); (try clear hk); (try clear hi)) | ((with_reducible refine gate_callee (f := 17) rfl ?_); refine goesL_ (some 20) rfl rfl Tryd.func17 (by kernel_rfl) rfl #[.string a0, .int .i64 a1] rfl (by (try simp only [List.map_toArray, List.map_cons, List.map_nil]); first | done | rfl | (simp only [List.length_drop, List.length_take]; rfl)) ?_; (with_reducible refine (header_Put.calls a0 a1 t360 t361 _ A5.out).mono ?_); rintro e w9 ⟨v362, rfl, ho0, hb⟩; refine ⟨_, rfl, ?_⟩; have n0_ := Aside0.mk (Kd.R_lower ho0 (below_size (by repeat (first | (with_reducible first | exact HB.out | apply below_alloc | apply pw_below_drewN | apply below_drew1) | exact HB.out)))); have n1_ := Aside0.mk (below_step (by repeat (first | (with_reducible first | exact HB.out | apply below_alloc | apply pw_below_drewN | apply below_drew1) | exact HB.out)) hb); clear HB; have HO363 := n0_; have HB := n1_; clear n0_ n1_; (try clear hb); (try clear hb2); (try clear hk); (try clear hi); (try clear ho0); obtain ⟨Ao10, co10, eo10⟩ := Kd.R_slice HO363.out; subst eo10))
      go_loopg [10, 11] k (fun kq v10 v11 w' => ∃ (x10_1 : Int) (x11_1 : Int), v10 = .int .i64 x10_1 ∧ v11 = .int .i64 x11_1 ∧ Aside0 (bindlelaw07_HeaderSums.l0 kq a2 t359 t360 x10_1 x11_1 = some r) ∧ Aside0 (kq ≤ k) ∧ Aside0 (Kd.R (Kd.int .u8) 5 w' w.heap.size (fun _ => True) (.slice Ao10 t360.length co10) t360) ∧ Aside0 (Below w.heap.size w w'))
      case atStart => exact ⟨(0), (148), (by first | rfl | (simp; done) | (simp [*]; done)), (by first | rfl | (simp; done) | (simp [*]; done)), H', ⟨Nat.le_refl _⟩, ⟨by (with_reducible repeat (first | apply Kd.R_alloc | apply Kd.R_drewN | apply Kd.R_drew)); exact HO363.out⟩, ⟨by repeat (first | (with_reducible first | exact HB.out | apply below_alloc | apply pw_below_drewN | apply below_drew1) | exact HB.out)⟩⟩
      case round =>
        clear H'
        try clear c1
        try clear p2
        try clear c6
        try clear c6b0
        try clear c6b1
        try clear c7
        try clear c7b0
        try clear c7b1
        obtain ⟨x10_1, x11_1, rfl, rfl, HA, HK1, HO_8, HB⟩ := hrel
        cases gk with
        | zero => exact absurd HA.out (by simp [bindlelaw07_HeaderSums.l0])
        | succ k1 =>
          have H := HA.out
          clear HA
          simp only [bindlelaw07_HeaderSums.l0] at H
          by_cases c11 : x11_1 < 154
          · rw [if_pos c11] at H
            have c11b0 : decide (x11_1 < 154) = true := decide_eq_true c11
            clear c11
            by_cases c12 : 0 ≤ x11_1
            · rw [if_pos c12] at H
              have c12b0 : decide (0 ≤ x11_1) = true := decide_eq_true c12
              clear c12
              by_cases c13 : x11_1 < (t360.length : Int)
              · rw [if_pos c13] at H
                have c13b0 : decide (x11_1 < (t360.length : Int)) = true := decide_eq_true c13
                clear c13
                have H' := Aside0.mk H
                clear H
                have p364 : 0 ≤ (x11_1 : Int) := of_decide_eq_true (by first | (with_reducible assumption) | assumption)
                have q364 : x11_1 < (t360.length : Int) := of_decide_eq_true (by first | (with_reducible assumption) | assumption)
                obtain ⟨ad364, e364, hx364_0⟩ := Kd.at_int (Kd.R_reads' HO_8.out).2.2 x11_1 p364 q364
                cases e364
                replace p364 := eq_true p364
                replace q364 := eq_true q364
                go_wp2
                go_roundg k1
                case measure => have := HK1.out; omega
                case rel => exact ⟨(wrap64 ((wrap64 (8 * x10_1)) + (((rd t360 x11_1) - 48) % 256))), (wrap64 (x11_1 + 1)), (by first | rfl | (simp; done) | (simp [*]; done)), (by first | rfl | (simp; done) | (simp [*]; done)), H', ⟨by have := HK1.out; omega⟩, ⟨by (with_reducible repeat (first | apply Kd.R_alloc | apply Kd.R_drewN | apply Kd.R_drew)); exact HO_8.out⟩, ⟨by repeat (first | (with_reducible first | exact HB.out | apply below_alloc | apply pw_below_drewN | apply below_drew1) | exact HB.out)⟩⟩
              · rw [if_neg c13] at H
                exact absurd H (by simp)
            · rw [if_neg c12] at H
              exact absurd H (by simp)
          · rw [if_neg c11] at H
            have c11b0 : decide (x11_1 < 154) = false := decide_eq_false c11
            clear c11
            obtain ⟨ji14, hji14⟩ : ∃ j_ : Int, (Int.tmod (wrap64 (a2)) 512) = j_ := ⟨_, rfl⟩
            replace H : (if 0 ≤ (ji14) then (if (ji14) < (t360.length : Int) then ((some (t360.set ((ji14) : Int).toNat (((rd t360 (ji14)) + 1) % 256) : List Int)).bind fun y366 => ((header_Get.f k1 y366).bind fun bt367 => ((some (y366.set ((ji14) : Int).toNat (((rd y366 (ji14)) - 1) % 256) : List Int)).bind fun y371 => (if t359 = true then ((bindleref05_Check.f k1 y371).bind fun t372 => (if x10_1 = t372 then (if 154 < (t360.length : Int) then (if (rd y371 154) = 0 then (if 155 < (t360.length : Int) then (if (rd y371 155) = 32 then (some (bt367.2.2 == 2)) else (some false)) else (none)) else (some false)) else (none)) else (some false))) else (some false))))) else (none)) else (none)) = some r := by first | (rw [hji14] at H; exact H) | (simp only [hji14] at H ⊢; exact H)
            by_cases c15 : 0 ≤ (ji14)
            · rw [if_pos c15] at H
              have c15b0 : decide (0 ≤ (ji14)) = true := decide_eq_true c15
              clear c15
              by_cases c16 : (ji14) < (t360.length : Int)
              · rw [if_pos c16] at H
                have c16b0 : decide ((ji14) < (t360.length : Int)) = true := decide_eq_true c16
                clear c16
                obtain ⟨y366, hy366⟩ : ∃ y_ : List Int, y_ = (t360.set ((ji14) : Int).toNat (((rd t360 (ji14)) + 1) % 256)) := ⟨_, rfl⟩
                replace H : ((header_Get.f k1 y366).bind fun bt367 => ((some (y366.set ((ji14) : Int).toNat (((rd y366 (ji14)) - 1) % 256) : List Int)).bind fun y371 => (if t359 = true then ((bindleref05_Check.f k1 y371).bind fun t372 => (if x10_1 = t372 then (if 154 < (t360.length : Int) then (if (rd y371 154) = 0 then (if 155 < (t360.length : Int) then (if (rd y371 155) = 32 then (some (bt367.2.2 == 2)) else (some false)) else (none)) else (some false)) else (none)) else (some false))) else (some false)))) = some r := by first | (rw [hy366]; with_reducible exact H) | (have H2_ := (Option.bind_some _ _).symm.trans H; rw [hy366]; with_reducible exact H2_) | (have H2_ := (Option.bind_some _ _).symm.trans H; with_reducible exact H2_) | with_reducible exact H | (rw [hy366]; exact H) | exact H
                have Ny366 := Aside0.mk hy366
                clear hy366
                replace H := Option.bind_eq_some_iff.mp H
                obtain ⟨⟨t367, t368, t369⟩, A180, H⟩ := H
                replace H : ((some (y366.set ((ji14) : Int).toNat (((rd y366 (ji14)) - 1) % 256) : List Int)).bind fun y371 => (if t359 = true then ((bindleref05_Check.f k1 y371).bind fun t372 => (if x10_1 = t372 then (if 154 < (t360.length : Int) then (if (rd y371 154) = 0 then (if 155 < (t360.length : Int) then (if (rd y371 155) = 32 then (some (t369 == 2)) else (some false)) else (none)) else (some false)) else (none)) else (some false))) else (some false))) = some r := H
                have A18 := Aside0.mk A180
                clear A180
                obtain ⟨y371, hy371⟩ : ∃ y_ : List Int, y_ = (y366.set ((ji14) : Int).toNat (((rd y366 (ji14)) - 1) % 256)) := ⟨_, rfl⟩
                replace H : (if t359 = true then ((bindleref05_Check.f k1 y371).bind fun t372 => (if x10_1 = t372 then (if 154 < (t360.length : Int) then (if (rd y371 154) = 0 then (if 155 < (t360.length : Int) then (if (rd y371 155) = 32 then (some (t369 == 2)) else (some false)) else (none)) else (some false)) else (none)) else (some false))) else (some false)) = some r := by first | (rw [hy371]; with_reducible exact H) | (have H2_ := (Option.bind_some _ _).symm.trans H; rw [hy371]; with_reducible exact H2_) | (have H2_ := (Option.bind_some _ _).symm.trans H; with_reducible exact H2_) | with_reducible exact H | (rw [hy371]; exact H) | exact H
                have Ny371 := Aside0.mk hy371
                clear hy371
                by_cases c20 : t359 = true
                · subst c20
                  have H1 : ((bindleref05_Check.f k1 y371).bind fun t372 => (if x10_1 = t372 then (if 154 < (t360.length : Int) then (if (rd y371 154) = 0 then (if 155 < (t360.length : Int) then (if (rd y371 155) = 32 then (some (t369 == 2)) else (some false)) else (none)) else (some false)) else (none)) else (some false))) = some r := by rw [if_pos rfl] at H; exact H
                  clear H
                  have H := H1
                  clear H1
                  replace H := Option.bind_eq_some_iff.mp H
                  obtain ⟨t372, A210, H⟩ := H
                  replace H : (if x10_1 = t372 then (if 154 < (t360.length : Int) then (if (rd y371 154) = 0 then (if 155 < (t360.length : Int) then (if (rd y371 155) = 32 then (some (t369 == 2)) else (some false)) else (none)) else (some false)) else (none)) else (some false)) = some r := H
                  have A21 := Aside0.mk A210
                  clear A210
                  by_cases c22 : x10_1 = t372
                  · rw [if_pos c22] at H
                    have c22b0 : (x10_1 == t372) = true := beq_iff_eq.mpr c22
                    have c22b1 : (x10_1 != t372) = false := bne_eq_false_iff_eq.mpr c22
                    clear c22
                    by_cases c23 : 154 < (t360.length : Int)
                    · rw [if_pos c23] at H
                      have c23b0 : decide (154 < (t360.length : Int)) = true := decide_eq_true c23
                      have c23b1 : decide (154 < t360.length) = true := decide_eq_true (by omega)
                      clear c23
                      by_cases c24 : (rd y371 154) = 0
                      · rw [if_pos c24] at H
                        have c24b0 : ((rd y371 154) == 0) = true := beq_iff_eq.mpr c24
                        have c24b1 : ((rd y371 154) != 0) = false := bne_eq_false_iff_eq.mpr c24
                        clear c24
                        by_cases c25 : 155 < (t360.length : Int)
                        · rw [if_pos c25] at H
                          have c25b0 : decide (155 < (t360.length : Int)) = true := decide_eq_true c25
                          have c25b1 : decide (155 < t360.length) = true := decide_eq_true (by omega)
                          clear c25
                          by_cases c26 : (rd y371 155) = 32
                          · rw [if_pos c26] at H
                            have c26b0 : ((rd y371 155) == 32) = true := beq_iff_eq.mpr c26
                            have c26b1 : ((rd y371 155) != 32) = false := bne_eq_false_iff_eq.mpr c26
                            clear c26
                            obtain rfl := Option.some.inj H
                            have p365 : 0 ≤ ((ji14) : Int) := of_decide_eq_true (by first | (with_reducible assumption) | assumption)
                            have q365 : (ji14) < (t360.length : Int) := of_decide_eq_true (by first | (with_reducible assumption) | assumption)
                            obtain ⟨ad365, e365, hx365_0⟩ := Kd.at_int (Kd.R_reads' HO_8.out).2.2 (ji14) p365 q365
                            cases e365
                            replace p365 := eq_true p365
                            replace q365 := eq_true q365
                            have p17 : 0 ≤ ((ji14) : Int) := of_decide_eq_true (by first | (with_reducible assumption) | assumption)
                            have q17 : ((ji14) : Int) < ((t360.length : Int) : Int) := of_decide_eq_true (by first | (with_reducible assumption) | assumption)
                            obtain ⟨go17, co17, eo17, gb17, gl17, cl17, HG17⟩ := Kd.R_form HO_8.out (by omega)
                            (first | cases eo17 | (injection eo17 with ea_ en_ ec_; (first | subst ea_ | (injection ea_ with ea_; subst ea_)); subst ec_; clear en_))
                            have GB17 := Aside0.mk gb17
                            have GG17 := Aside0.mk HG17
                            clear gb17 gl17 HG17
                            (first | simp only [add_plain] at hx365_0 | skip)
                            obtain ⟨hx17_0, hf17_0⟩ := Kd.R_celln 0 HO_8.out ((ji14) : Int) p17 q17
                            replace p17 := eq_true p17
                            replace q17 := eq_true q17
                            have HP27 := Kd.R_putg HO_8.out ((ji14) : Int) (((rd t360 (ji14)) + 1) % 256)
                            go_wp2_with (first | ((with_reducible refine gate_store (t := 5) (p := 52) rfl ?_); refine store_event (t := 5) (p := 52) (v := ?vo_w28) (w1 := (wr.setCell ⟨go17, ((ji14) : Int).toNat, none⟩ (.int .u8 (((rd t360 (ji14)) + 1) % 256)))) ?hg ?ho ?hn ?hr ?_; (case ho => rfl); (case hg => rfl); (case hn => rfl); (case hr => first | (go_simp; done) | (go_simp; rfl)); intro w28 hw; have hg : wr.grownBy w28 (some go17) := (by rw [hw]; exact HP27.2); have hp_ : Kd.R (Kd.int .u8) 5 w28 w.heap.size (fun _ => True) (.slice (some ⟨go17, 0, none⟩) t360.length co10) y366 := (by rw [hw, Ny366.out]; exact HP27.1); clear HP27; have n0_ := Aside0.mk (hp_); have n1_ := Aside0.mk ((by rw [hw]; exact below_set (HB.out) GB17.out : Below w.heap.size w w28)); clear HO_8; clear HB; have HO_8 := n0_; have HB := n1_; clear n0_ n1_; clear hg hw hp_) | ((with_reducible refine gate_callee (f := 19) rfl ?_); refine goesL_ (some 55) rfl rfl Tryd.func19 (by kernel_rfl) rfl #[.slice (some ⟨go17, 0, none⟩) y366.length co10] rfl (by (try simp only [List.map_toArray, List.map_cons, List.map_nil]); first | done | (rw [show y366.length = t360.length from (Kd.R_reads' HO_8.out).1.symm] <;> rfl) | rfl | (simp only [List.length_drop, List.length_take]; rfl)) ?_; (with_reducible refine (header_Get.calls k1 _ _ y366 t367 t368 t369 _ ?side1 ?side2 A18.out).mono ?_); (case side1 => repeat (first | exact (Kd.R_reads' HO_8.out).2.2 | (with_reducible refine Kd.C_alloc ?_ _) | (with_reducible refine Kd.C_drewN ?_ _) | (with_reducible refine Kd.C_drew ?_))); (case side2 => rw [show y366.length = t360.length from (Kd.R_reads' HO_8.out).1.symm]; exact (Kd.R_reads' HO_8.out).2.1); rintro e w29 ⟨rfl, hb⟩; refine ⟨_, rfl, ?_⟩; have n0_ := Aside0.mk (Kd.R_below (by (with_reducible repeat (first | apply Kd.R_alloc | apply Kd.R_drewN | apply Kd.R_drew)); exact HO_8.out) hb); have n1_ := Aside0.mk (below_step (by repeat (first | (with_reducible first | exact HB.out | apply below_alloc | apply pw_below_drewN | apply below_drew1) | exact HB.out)) hb); clear HO_8; clear HB; have HO_8 := n0_; have HB := n1_; clear n0_ n1_; (try clear hb); (try clear hb2); (try clear hk); (try clear hi); have p370 : 0 ≤ ((ji14) : Int) := of_decide_eq_true (by first | (with_reducible assumption) | assumption); have q370 : (ji14) < (y366.length : Int) := (by have h_ : ((ji14) : Int) < ((t360.length : Int) : Int) := of_decide_eq_true (by first | (with_reducible assumption) | assumption); first | (have e_ := (Kd.R_reads' HO_8.out).1; omega) | simpa only [Ny366.out, List.length_set] using h_); have ql370 : (((ji14) : Int) < ((t360.length : Int) : Int)) = True := eq_true (of_decide_eq_true (by first | (with_reducible assumption) | assumption)); obtain ⟨ad370, e370, hx370_0⟩ := Kd.at_int (Kd.R_reads' HO_8.out).2.2 (ji14) p370 q370; obtain rfl : (⟨go17, 0, none⟩ : Addr) = ad370 := (by injection e370); (first | simp only [add_plain] at hx370_0 | simp only [add_at] at hx370_0 | simp only [Addr.add, Nat.zero_add] at hx370_0 | skip); replace p370 := eq_true p370; replace q370 := eq_true q370; have p19 : 0 ≤ ((ji14) : Int) := of_decide_eq_true (by first | (with_reducible assumption) | assumption); have q19 : ((ji14) : Int) < ((t360.length : Int) : Int) := of_decide_eq_true (by first | (with_reducible assumption) | assumption); obtain ⟨hx19_0, hf19_0⟩ := Kd.R_celln 0 HO_8.out ((ji14) : Int) p19 q19; replace p19 := eq_true p19; replace q19 := eq_true q19; obtain ⟨hy30_, hz30_⟩ := Kd.R_celln 0 HO_8.out ((ji14) : Int) (of_decide_eq_true (by first | (with_reducible assumption) | assumption)) (of_decide_eq_true (by first | (with_reducible assumption) | assumption)); have HP30 := Kd.R_putg HO_8.out ((ji14) : Int) (((rd y366 (ji14)) - 1) % 256)) | ((with_reducible refine gate_store (t := 5) (p := 66) rfl ?_); refine store_event (t := 5) (p := 66) (v := ?vo_w31) (w1 := (w29.setCell ⟨go17, ((ji14) : Int).toNat, none⟩ (.int .u8 (((rd y366 (ji14)) - 1) % 256)))) ?hg ?ho ?hn ?hr ?_; (case ho => rfl); (case hg => rfl); (case hn => rfl); (case hr => first | (go_simp; done) | (go_simp; rfl)); intro w31 hw; have hg : w29.grownBy w31 (some go17) := (by rw [hw]; exact HP30.2); have hp_ : Kd.R (Kd.int .u8) 5 w31 w.heap.size (fun _ => True) (.slice (some ⟨go17, 0, none⟩) t360.length co10) y371 := (by rw [hw, Ny371.out]; exact HP30.1); clear HP30; have n0_ := Aside0.mk (hp_); have n1_ := Aside0.mk ((by rw [hw]; exact below_set (HB.out) GB17.out : Below w.heap.size w w31)); clear HO_8; clear HB; have HO_8 := n0_; have HB := n1_; clear n0_ n1_; clear hg hw hp_) | (go_at_call 21; refine calls_of_args (args' := #[.slice (some ⟨go17, 0, none⟩) y371.length co10]) (by first | (rw [show y371.length = t360.length from (Kd.R_reads' HO_8.out).1.symm] <;> rfl) | rfl) ?_; (with_reducible refine (bindleref05_Check.calls k1 _ _ y371 t372 _ ?side1 ?side2 A21.out).mono ?_); (case side1 => repeat (first | exact (Kd.R_reads' HO_8.out).2.2 | (with_reducible refine Kd.C_alloc ?_ _) | (with_reducible refine Kd.C_drewN ?_ _) | (with_reducible refine Kd.C_drew ?_))); (case side2 => rw [show y371.length = t360.length from (Kd.R_reads' HO_8.out).1.symm]; exact (Kd.R_reads' HO_8.out).2.1); rintro e w' ⟨rfl, ⟨nd, rfl⟩⟩; have p373 : 0 ≤ (154 : Int) := (by omega); have q373 : 154 < (y371.length : Int) := (by have h_ : (154 : Int) < ((t360.length : Int) : Int) := of_decide_eq_true (by first | (with_reducible assumption) | assumption); first | (have e_ := (Kd.R_reads' HO_8.out).1; omega) | simpa only [Ny366.out, Ny371.out, List.length_set] using h_); have ql373 : ((154 : Int) < ((t360.length : Int) : Int)) = True := eq_true (of_decide_eq_true (by first | (with_reducible assumption) | assumption)); (try have qn373 : (154 < t360.length) = True := eq_true (by have h_ : (154 : Int) < ((t360.length : Int) : Int) := of_decide_eq_true (by first | (with_reducible assumption) | assumption); omega)); obtain ⟨ad373, e373, hx373_0⟩ := Kd.at_int (Kd.R_reads' HO_8.out).2.2 154 p373 q373; obtain rfl : (⟨go17, 0, none⟩ : Addr) = ad373 := (by injection e373); (first | simp only [add_plain] at hx373_0 | simp only [add_at] at hx373_0 | simp only [Addr.add, Nat.zero_add] at hx373_0 | skip); have qi373 : (154 < y371.length) = True := eq_true (by omega); (try rw [show ((154 : Int)).toNat = 154 from rfl] at hx373_0); replace p373 := eq_true p373; replace q373 := eq_true q373; have p374 : 0 ≤ (155 : Int) := (by omega); have q374 : 155 < (y371.length : Int) := (by have h_ : (155 : Int) < ((t360.length : Int) : Int) := of_decide_eq_true (by first | (with_reducible assumption) | assumption); first | (have e_ := (Kd.R_reads' HO_8.out).1; omega) | simpa only [Ny366.out, Ny371.out, List.length_set] using h_); have ql374 : ((155 : Int) < ((t360.length : Int) : Int)) = True := eq_true (of_decide_eq_true (by first | (with_reducible assumption) | assumption)); (try have qn374 : (155 < t360.length) = True := eq_true (by have h_ : (155 : Int) < ((t360.length : Int) : Int) := of_decide_eq_true (by first | (with_reducible assumption) | assumption); omega)); obtain ⟨ad374, e374, hx374_0⟩ := Kd.at_int (Kd.R_reads' HO_8.out).2.2 155 p374 q374; obtain rfl : (⟨go17, 0, none⟩ : Addr) = ad374 := (by injection e374); (first | simp only [add_plain] at hx374_0 | simp only [add_at] at hx374_0 | simp only [Addr.add, Nat.zero_add] at hx374_0 | skip); have qi374 : (155 < y371.length) = True := eq_true (by omega); (try rw [show ((155 : Int)).toNat = 155 from rfl] at hx374_0); replace p374 := eq_true p374; replace q374 := eq_true q374))
                            go_ret
                            exact ⟨by first | rfl | (simp [errW_none, errW_some] <;> rfl) | (simp only [← hji14]; first | rfl | (simp [errW_none, errW_some] <;> rfl)) | (simp [*, errW_none, errW_some] <;> rfl), by repeat (first | (with_reducible first | exact HB.out | apply below_alloc | apply pw_below_drewN | apply below_drew1) | exact HB.out)⟩
                          · rw [if_neg c26] at H
                            have c26b0 : ((rd y371 155) == 32) = false := beq_eq_false_iff_ne.mpr c26
                            have c26b1 : ((rd y371 155) != 32) = true := bne_iff_ne.mpr c26
                            obtain rfl := Option.some.inj H
                            have p365 : 0 ≤ ((ji14) : Int) := of_decide_eq_true (by first | (with_reducible assumption) | assumption)
                            have q365 : (ji14) < (t360.length : Int) := of_decide_eq_true (by first | (with_reducible assumption) | assumption)
                            obtain ⟨ad365, e365, hx365_0⟩ := Kd.at_int (Kd.R_reads' HO_8.out).2.2 (ji14) p365 q365
                            cases e365
                            replace p365 := eq_true p365
                            replace q365 := eq_true q365
                            have p17 : 0 ≤ ((ji14) : Int) := of_decide_eq_true (by first | (with_reducible assumption) | assumption)
                            have q17 : ((ji14) : Int) < ((t360.length : Int) : Int) := of_decide_eq_true (by first | (with_reducible assumption) | assumption)
                            obtain ⟨go17, co17, eo17, gb17, gl17, cl17, HG17⟩ := Kd.R_form HO_8.out (by omega)
                            (first | cases eo17 | (injection eo17 with ea_ en_ ec_; (first | subst ea_ | (injection ea_ with ea_; subst ea_)); subst ec_; clear en_))
                            have GB17 := Aside0.mk gb17
                            have GG17 := Aside0.mk HG17
                            clear gb17 gl17 HG17
                            (first | simp only [add_plain] at hx365_0 | skip)
                            obtain ⟨hx17_0, hf17_0⟩ := Kd.R_celln 0 HO_8.out ((ji14) : Int) p17 q17
                            replace p17 := eq_true p17
                            replace q17 := eq_true q17
                            have HP32 := Kd.R_putg HO_8.out ((ji14) : Int) (((rd t360 (ji14)) + 1) % 256)
                            go_wp2_with (first | ((with_reducible refine gate_store (t := 5) (p := 52) rfl ?_); refine store_event (t := 5) (p := 52) (v := ?vo_w33) (w1 := (wr.setCell ⟨go17, ((ji14) : Int).toNat, none⟩ (.int .u8 (((rd t360 (ji14)) + 1) % 256)))) ?hg ?ho ?hn ?hr ?_; (case ho => rfl); (case hg => rfl); (case hn => rfl); (case hr => first | (go_simp; done) | (go_simp; rfl)); intro w33 hw; have hg : wr.grownBy w33 (some go17) := (by rw [hw]; exact HP32.2); have hp_ : Kd.R (Kd.int .u8) 5 w33 w.heap.size (fun _ => True) (.slice (some ⟨go17, 0, none⟩) t360.length co10) y366 := (by rw [hw, Ny366.out]; exact HP32.1); clear HP32; have n0_ := Aside0.mk (hp_); have n1_ := Aside0.mk ((by rw [hw]; exact below_set (HB.out) GB17.out : Below w.heap.size w w33)); clear HO_8; clear HB; have HO_8 := n0_; have HB := n1_; clear n0_ n1_; clear hg hw hp_) | ((with_reducible refine gate_callee (f := 19) rfl ?_); refine goesL_ (some 55) rfl rfl Tryd.func19 (by kernel_rfl) rfl #[.slice (some ⟨go17, 0, none⟩) y366.length co10] rfl (by (try simp only [List.map_toArray, List.map_cons, List.map_nil]); first | done | (rw [show y366.length = t360.length from (Kd.R_reads' HO_8.out).1.symm] <;> rfl) | rfl | (simp only [List.length_drop, List.length_take]; rfl)) ?_; (with_reducible refine (header_Get.calls k1 _ _ y366 t367 t368 t369 _ ?side1 ?side2 A18.out).mono ?_); (case side1 => repeat (first | exact (Kd.R_reads' HO_8.out).2.2 | (with_reducible refine Kd.C_alloc ?_ _) | (with_reducible refine Kd.C_drewN ?_ _) | (with_reducible refine Kd.C_drew ?_))); (case side2 => rw [show y366.length = t360.length from (Kd.R_reads' HO_8.out).1.symm]; exact (Kd.R_reads' HO_8.out).2.1); rintro e w34 ⟨rfl, hb⟩; refine ⟨_, rfl, ?_⟩; have n0_ := Aside0.mk (Kd.R_below (by (with_reducible repeat (first | apply Kd.R_alloc | apply Kd.R_drewN | apply Kd.R_drew)); exact HO_8.out) hb); have n1_ := Aside0.mk (below_step (by repeat (first | (with_reducible first | exact HB.out | apply below_alloc | apply pw_below_drewN | apply below_drew1) | exact HB.out)) hb); clear HO_8; clear HB; have HO_8 := n0_; have HB := n1_; clear n0_ n1_; (try clear hb); (try clear hb2); (try clear hk); (try clear hi); have p370 : 0 ≤ ((ji14) : Int) := of_decide_eq_true (by first | (with_reducible assumption) | assumption); have q370 : (ji14) < (y366.length : Int) := (by have h_ : ((ji14) : Int) < ((t360.length : Int) : Int) := of_decide_eq_true (by first | (with_reducible assumption) | assumption); first | (have e_ := (Kd.R_reads' HO_8.out).1; omega) | simpa only [Ny366.out, List.length_set] using h_); have ql370 : (((ji14) : Int) < ((t360.length : Int) : Int)) = True := eq_true (of_decide_eq_true (by first | (with_reducible assumption) | assumption)); obtain ⟨ad370, e370, hx370_0⟩ := Kd.at_int (Kd.R_reads' HO_8.out).2.2 (ji14) p370 q370; obtain rfl : (⟨go17, 0, none⟩ : Addr) = ad370 := (by injection e370); (first | simp only [add_plain] at hx370_0 | simp only [add_at] at hx370_0 | simp only [Addr.add, Nat.zero_add] at hx370_0 | skip); replace p370 := eq_true p370; replace q370 := eq_true q370; have p19 : 0 ≤ ((ji14) : Int) := of_decide_eq_true (by first | (with_reducible assumption) | assumption); have q19 : ((ji14) : Int) < ((t360.length : Int) : Int) := of_decide_eq_true (by first | (with_reducible assumption) | assumption); obtain ⟨hx19_0, hf19_0⟩ := Kd.R_celln 0 HO_8.out ((ji14) : Int) p19 q19; replace p19 := eq_true p19; replace q19 := eq_true q19; obtain ⟨hy35_, hz35_⟩ := Kd.R_celln 0 HO_8.out ((ji14) : Int) (of_decide_eq_true (by first | (with_reducible assumption) | assumption)) (of_decide_eq_true (by first | (with_reducible assumption) | assumption)); have HP35 := Kd.R_putg HO_8.out ((ji14) : Int) (((rd y366 (ji14)) - 1) % 256)) | ((with_reducible refine gate_store (t := 5) (p := 66) rfl ?_); refine store_event (t := 5) (p := 66) (v := ?vo_w36) (w1 := (w34.setCell ⟨go17, ((ji14) : Int).toNat, none⟩ (.int .u8 (((rd y366 (ji14)) - 1) % 256)))) ?hg ?ho ?hn ?hr ?_; (case ho => rfl); (case hg => rfl); (case hn => rfl); (case hr => first | (go_simp; done) | (go_simp; rfl)); intro w36 hw; have hg : w34.grownBy w36 (some go17) := (by rw [hw]; exact HP35.2); have hp_ : Kd.R (Kd.int .u8) 5 w36 w.heap.size (fun _ => True) (.slice (some ⟨go17, 0, none⟩) t360.length co10) y371 := (by rw [hw, Ny371.out]; exact HP35.1); clear HP35; have n0_ := Aside0.mk (hp_); have n1_ := Aside0.mk ((by rw [hw]; exact below_set (HB.out) GB17.out : Below w.heap.size w w36)); clear HO_8; clear HB; have HO_8 := n0_; have HB := n1_; clear n0_ n1_; clear hg hw hp_) | (go_at_call 21; refine calls_of_args (args' := #[.slice (some ⟨go17, 0, none⟩) y371.length co10]) (by first | (rw [show y371.length = t360.length from (Kd.R_reads' HO_8.out).1.symm] <;> rfl) | rfl) ?_; (with_reducible refine (bindleref05_Check.calls k1 _ _ y371 t372 _ ?side1 ?side2 A21.out).mono ?_); (case side1 => repeat (first | exact (Kd.R_reads' HO_8.out).2.2 | (with_reducible refine Kd.C_alloc ?_ _) | (with_reducible refine Kd.C_drewN ?_ _) | (with_reducible refine Kd.C_drew ?_))); (case side2 => rw [show y371.length = t360.length from (Kd.R_reads' HO_8.out).1.symm]; exact (Kd.R_reads' HO_8.out).2.1); rintro e w' ⟨rfl, ⟨nd, rfl⟩⟩; have p373 : 0 ≤ (154 : Int) := (by omega); have q373 : 154 < (y371.length : Int) := (by have h_ : (154 : Int) < ((t360.length : Int) : Int) := of_decide_eq_true (by first | (with_reducible assumption) | assumption); first | (have e_ := (Kd.R_reads' HO_8.out).1; omega) | simpa only [Ny366.out, Ny371.out, List.length_set] using h_); have ql373 : ((154 : Int) < ((t360.length : Int) : Int)) = True := eq_true (of_decide_eq_true (by first | (with_reducible assumption) | assumption)); (try have qn373 : (154 < t360.length) = True := eq_true (by have h_ : (154 : Int) < ((t360.length : Int) : Int) := of_decide_eq_true (by first | (with_reducible assumption) | assumption); omega)); obtain ⟨ad373, e373, hx373_0⟩ := Kd.at_int (Kd.R_reads' HO_8.out).2.2 154 p373 q373; obtain rfl : (⟨go17, 0, none⟩ : Addr) = ad373 := (by injection e373); (first | simp only [add_plain] at hx373_0 | simp only [add_at] at hx373_0 | simp only [Addr.add, Nat.zero_add] at hx373_0 | skip); have qi373 : (154 < y371.length) = True := eq_true (by omega); (try rw [show ((154 : Int)).toNat = 154 from rfl] at hx373_0); replace p373 := eq_true p373; replace q373 := eq_true q373; have p374 : 0 ≤ (155 : Int) := (by omega); have q374 : 155 < (y371.length : Int) := (by have h_ : (155 : Int) < ((t360.length : Int) : Int) := of_decide_eq_true (by first | (with_reducible assumption) | assumption); first | (have e_ := (Kd.R_reads' HO_8.out).1; omega) | simpa only [Ny366.out, Ny371.out, List.length_set] using h_); have ql374 : ((155 : Int) < ((t360.length : Int) : Int)) = True := eq_true (of_decide_eq_true (by first | (with_reducible assumption) | assumption)); (try have qn374 : (155 < t360.length) = True := eq_true (by have h_ : (155 : Int) < ((t360.length : Int) : Int) := of_decide_eq_true (by first | (with_reducible assumption) | assumption); omega)); obtain ⟨ad374, e374, hx374_0⟩ := Kd.at_int (Kd.R_reads' HO_8.out).2.2 155 p374 q374; obtain rfl : (⟨go17, 0, none⟩ : Addr) = ad374 := (by injection e374); (first | simp only [add_plain] at hx374_0 | simp only [add_at] at hx374_0 | simp only [Addr.add, Nat.zero_add] at hx374_0 | skip); have qi374 : (155 < y371.length) = True := eq_true (by omega); (try rw [show ((155 : Int)).toNat = 155 from rfl] at hx374_0); replace p374 := eq_true p374; replace q374 := eq_true q374))
                            go_ret
                            exact ⟨by first | rfl | (simp [errW_none, errW_some] <;> rfl) | (simp only [← hji14]; first | rfl | (simp [errW_none, errW_some] <;> rfl)) | (simp [*, errW_none, errW_some] <;> rfl), by repeat (first | (with_reducible first | exact HB.out | apply below_alloc | apply pw_below_drewN | apply below_drew1) | exact HB.out)⟩
                        · rw [if_neg c25] at H
                          exact absurd H (by simp)
                      · rw [if_neg c24] at H
                        have c24b0 : ((rd y371 154) == 0) = false := beq_eq_false_iff_ne.mpr c24
                        have c24b1 : ((rd y371 154) != 0) = true := bne_iff_ne.mpr c24
                        obtain rfl := Option.some.inj H
                        have p365 : 0 ≤ ((ji14) : Int) := of_decide_eq_true (by first | (with_reducible assumption) | assumption)
                        have q365 : (ji14) < (t360.length : Int) := of_decide_eq_true (by first | (with_reducible assumption) | assumption)
                        obtain ⟨ad365, e365, hx365_0⟩ := Kd.at_int (Kd.R_reads' HO_8.out).2.2 (ji14) p365 q365
                        cases e365
                        replace p365 := eq_true p365
                        replace q365 := eq_true q365
                        have p17 : 0 ≤ ((ji14) : Int) := of_decide_eq_true (by first | (with_reducible assumption) | assumption)
                        have q17 : ((ji14) : Int) < ((t360.length : Int) : Int) := of_decide_eq_true (by first | (with_reducible assumption) | assumption)
                        obtain ⟨go17, co17, eo17, gb17, gl17, cl17, HG17⟩ := Kd.R_form HO_8.out (by omega)
                        (first | cases eo17 | (injection eo17 with ea_ en_ ec_; (first | subst ea_ | (injection ea_ with ea_; subst ea_)); subst ec_; clear en_))
                        have GB17 := Aside0.mk gb17
                        have GG17 := Aside0.mk HG17
                        clear gb17 gl17 HG17
                        (first | simp only [add_plain] at hx365_0 | skip)
                        obtain ⟨hx17_0, hf17_0⟩ := Kd.R_celln 0 HO_8.out ((ji14) : Int) p17 q17
                        replace p17 := eq_true p17
                        replace q17 := eq_true q17
                        have HP37 := Kd.R_putg HO_8.out ((ji14) : Int) (((rd t360 (ji14)) + 1) % 256)
                        go_wp2_with (first | ((with_reducible refine gate_store (t := 5) (p := 52) rfl ?_); refine store_event (t := 5) (p := 52) (v := ?vo_w38) (w1 := (wr.setCell ⟨go17, ((ji14) : Int).toNat, none⟩ (.int .u8 (((rd t360 (ji14)) + 1) % 256)))) ?hg ?ho ?hn ?hr ?_; (case ho => rfl); (case hg => rfl); (case hn => rfl); (case hr => first | (go_simp; done) | (go_simp; rfl)); intro w38 hw; have hg : wr.grownBy w38 (some go17) := (by rw [hw]; exact HP37.2); have hp_ : Kd.R (Kd.int .u8) 5 w38 w.heap.size (fun _ => True) (.slice (some ⟨go17, 0, none⟩) t360.length co10) y366 := (by rw [hw, Ny366.out]; exact HP37.1); clear HP37; have n0_ := Aside0.mk (hp_); have n1_ := Aside0.mk ((by rw [hw]; exact below_set (HB.out) GB17.out : Below w.heap.size w w38)); clear HO_8; clear HB; have HO_8 := n0_; have HB := n1_; clear n0_ n1_; clear hg hw hp_) | ((with_reducible refine gate_callee (f := 19) rfl ?_); refine goesL_ (some 55) rfl rfl Tryd.func19 (by kernel_rfl) rfl #[.slice (some ⟨go17, 0, none⟩) y366.length co10] rfl (by (try simp only [List.map_toArray, List.map_cons, List.map_nil]); first | done | (rw [show y366.length = t360.length from (Kd.R_reads' HO_8.out).1.symm] <;> rfl) | rfl | (simp only [List.length_drop, List.length_take]; rfl)) ?_; (with_reducible refine (header_Get.calls k1 _ _ y366 t367 t368 t369 _ ?side1 ?side2 A18.out).mono ?_); (case side1 => repeat (first | exact (Kd.R_reads' HO_8.out).2.2 | (with_reducible refine Kd.C_alloc ?_ _) | (with_reducible refine Kd.C_drewN ?_ _) | (with_reducible refine Kd.C_drew ?_))); (case side2 => rw [show y366.length = t360.length from (Kd.R_reads' HO_8.out).1.symm]; exact (Kd.R_reads' HO_8.out).2.1); rintro e w39 ⟨rfl, hb⟩; refine ⟨_, rfl, ?_⟩; have n0_ := Aside0.mk (Kd.R_below (by (with_reducible repeat (first | apply Kd.R_alloc | apply Kd.R_drewN | apply Kd.R_drew)); exact HO_8.out) hb); have n1_ := Aside0.mk (below_step (by repeat (first | (with_reducible first | exact HB.out | apply below_alloc | apply pw_below_drewN | apply below_drew1) | exact HB.out)) hb); clear HO_8; clear HB; have HO_8 := n0_; have HB := n1_; clear n0_ n1_; (try clear hb); (try clear hb2); (try clear hk); (try clear hi); have p370 : 0 ≤ ((ji14) : Int) := of_decide_eq_true (by first | (with_reducible assumption) | assumption); have q370 : (ji14) < (y366.length : Int) := (by have h_ : ((ji14) : Int) < ((t360.length : Int) : Int) := of_decide_eq_true (by first | (with_reducible assumption) | assumption); first | (have e_ := (Kd.R_reads' HO_8.out).1; omega) | simpa only [Ny366.out, List.length_set] using h_); have ql370 : (((ji14) : Int) < ((t360.length : Int) : Int)) = True := eq_true (of_decide_eq_true (by first | (with_reducible assumption) | assumption)); obtain ⟨ad370, e370, hx370_0⟩ := Kd.at_int (Kd.R_reads' HO_8.out).2.2 (ji14) p370 q370; obtain rfl : (⟨go17, 0, none⟩ : Addr) = ad370 := (by injection e370); (first | simp only [add_plain] at hx370_0 | simp only [add_at] at hx370_0 | simp only [Addr.add, Nat.zero_add] at hx370_0 | skip); replace p370 := eq_true p370; replace q370 := eq_true q370; have p19 : 0 ≤ ((ji14) : Int) := of_decide_eq_true (by first | (with_reducible assumption) | assumption); have q19 : ((ji14) : Int) < ((t360.length : Int) : Int) := of_decide_eq_true (by first | (with_reducible assumption) | assumption); obtain ⟨hx19_0, hf19_0⟩ := Kd.R_celln 0 HO_8.out ((ji14) : Int) p19 q19; replace p19 := eq_true p19; replace q19 := eq_true q19; obtain ⟨hy40_, hz40_⟩ := Kd.R_celln 0 HO_8.out ((ji14) : Int) (of_decide_eq_true (by first | (with_reducible assumption) | assumption)) (of_decide_eq_true (by first | (with_reducible assumption) | assumption)); have HP40 := Kd.R_putg HO_8.out ((ji14) : Int) (((rd y366 (ji14)) - 1) % 256)) | ((with_reducible refine gate_store (t := 5) (p := 66) rfl ?_); refine store_event (t := 5) (p := 66) (v := ?vo_w41) (w1 := (w39.setCell ⟨go17, ((ji14) : Int).toNat, none⟩ (.int .u8 (((rd y366 (ji14)) - 1) % 256)))) ?hg ?ho ?hn ?hr ?_; (case ho => rfl); (case hg => rfl); (case hn => rfl); (case hr => first | (go_simp; done) | (go_simp; rfl)); intro w41 hw; have hg : w39.grownBy w41 (some go17) := (by rw [hw]; exact HP40.2); have hp_ : Kd.R (Kd.int .u8) 5 w41 w.heap.size (fun _ => True) (.slice (some ⟨go17, 0, none⟩) t360.length co10) y371 := (by rw [hw, Ny371.out]; exact HP40.1); clear HP40; have n0_ := Aside0.mk (hp_); have n1_ := Aside0.mk ((by rw [hw]; exact below_set (HB.out) GB17.out : Below w.heap.size w w41)); clear HO_8; clear HB; have HO_8 := n0_; have HB := n1_; clear n0_ n1_; clear hg hw hp_) | (go_at_call 21; refine calls_of_args (args' := #[.slice (some ⟨go17, 0, none⟩) y371.length co10]) (by first | (rw [show y371.length = t360.length from (Kd.R_reads' HO_8.out).1.symm] <;> rfl) | rfl) ?_; (with_reducible refine (bindleref05_Check.calls k1 _ _ y371 t372 _ ?side1 ?side2 A21.out).mono ?_); (case side1 => repeat (first | exact (Kd.R_reads' HO_8.out).2.2 | (with_reducible refine Kd.C_alloc ?_ _) | (with_reducible refine Kd.C_drewN ?_ _) | (with_reducible refine Kd.C_drew ?_))); (case side2 => rw [show y371.length = t360.length from (Kd.R_reads' HO_8.out).1.symm]; exact (Kd.R_reads' HO_8.out).2.1); rintro e w' ⟨rfl, ⟨nd, rfl⟩⟩; have p373 : 0 ≤ (154 : Int) := (by omega); have q373 : 154 < (y371.length : Int) := (by have h_ : (154 : Int) < ((t360.length : Int) : Int) := of_decide_eq_true (by first | (with_reducible assumption) | assumption); first | (have e_ := (Kd.R_reads' HO_8.out).1; omega) | simpa only [Ny366.out, Ny371.out, List.length_set] using h_); have ql373 : ((154 : Int) < ((t360.length : Int) : Int)) = True := eq_true (of_decide_eq_true (by first | (with_reducible assumption) | assumption)); (try have qn373 : (154 < t360.length) = True := eq_true (by have h_ : (154 : Int) < ((t360.length : Int) : Int) := of_decide_eq_true (by first | (with_reducible assumption) | assumption); omega)); obtain ⟨ad373, e373, hx373_0⟩ := Kd.at_int (Kd.R_reads' HO_8.out).2.2 154 p373 q373; obtain rfl : (⟨go17, 0, none⟩ : Addr) = ad373 := (by injection e373); (first | simp only [add_plain] at hx373_0 | simp only [add_at] at hx373_0 | simp only [Addr.add, Nat.zero_add] at hx373_0 | skip); have qi373 : (154 < y371.length) = True := eq_true (by omega); (try rw [show ((154 : Int)).toNat = 154 from rfl] at hx373_0); replace p373 := eq_true p373; replace q373 := eq_true q373))
                        go_ret
                        exact ⟨by first | rfl | (simp [errW_none, errW_some] <;> rfl) | (simp only [← hji14]; first | rfl | (simp [errW_none, errW_some] <;> rfl)) | (simp [*, errW_none, errW_some] <;> rfl), by repeat (first | (with_reducible first | exact HB.out | apply below_alloc | apply pw_below_drewN | apply below_drew1) | exact HB.out)⟩
                    · rw [if_neg c23] at H
                      exact absurd H (by simp)
                  · rw [if_neg c22] at H
                    have c22b0 : (x10_1 == t372) = false := beq_eq_false_iff_ne.mpr c22
                    have c22b1 : (x10_1 != t372) = true := bne_iff_ne.mpr c22
                    obtain rfl := Option.some.inj H
                    have p365 : 0 ≤ ((ji14) : Int) := of_decide_eq_true (by first | (with_reducible assumption) | assumption)
                    have q365 : (ji14) < (t360.length : Int) := of_decide_eq_true (by first | (with_reducible assumption) | assumption)
                    obtain ⟨ad365, e365, hx365_0⟩ := Kd.at_int (Kd.R_reads' HO_8.out).2.2 (ji14) p365 q365
                    cases e365
                    replace p365 := eq_true p365
                    replace q365 := eq_true q365
                    have p17 : 0 ≤ ((ji14) : Int) := of_decide_eq_true (by first | (with_reducible assumption) | assumption)
                    have q17 : ((ji14) : Int) < ((t360.length : Int) : Int) := of_decide_eq_true (by first | (with_reducible assumption) | assumption)
                    obtain ⟨go17, co17, eo17, gb17, gl17, cl17, HG17⟩ := Kd.R_form HO_8.out (by omega)
                    (first | cases eo17 | (injection eo17 with ea_ en_ ec_; (first | subst ea_ | (injection ea_ with ea_; subst ea_)); subst ec_; clear en_))
                    have GB17 := Aside0.mk gb17
                    have GG17 := Aside0.mk HG17
                    clear gb17 gl17 HG17
                    (first | simp only [add_plain] at hx365_0 | skip)
                    obtain ⟨hx17_0, hf17_0⟩ := Kd.R_celln 0 HO_8.out ((ji14) : Int) p17 q17
                    replace p17 := eq_true p17
                    replace q17 := eq_true q17
                    have HP42 := Kd.R_putg HO_8.out ((ji14) : Int) (((rd t360 (ji14)) + 1) % 256)
                    go_wp2_with (first | ((with_reducible refine gate_store (t := 5) (p := 52) rfl ?_); refine store_event (t := 5) (p := 52) (v := ?vo_w43) (w1 := (wr.setCell ⟨go17, ((ji14) : Int).toNat, none⟩ (.int .u8 (((rd t360 (ji14)) + 1) % 256)))) ?hg ?ho ?hn ?hr ?_; (case ho => rfl); (case hg => rfl); (case hn => rfl); (case hr => first | (go_simp; done) | (go_simp; rfl)); intro w43 hw; have hg : wr.grownBy w43 (some go17) := (by rw [hw]; exact HP42.2); have hp_ : Kd.R (Kd.int .u8) 5 w43 w.heap.size (fun _ => True) (.slice (some ⟨go17, 0, none⟩) t360.length co10) y366 := (by rw [hw, Ny366.out]; exact HP42.1); clear HP42; have n0_ := Aside0.mk (hp_); have n1_ := Aside0.mk ((by rw [hw]; exact below_set (HB.out) GB17.out : Below w.heap.size w w43)); clear HO_8; clear HB; have HO_8 := n0_; have HB := n1_; clear n0_ n1_; clear hg hw hp_) | ((with_reducible refine gate_callee (f := 19) rfl ?_); refine goesL_ (some 55) rfl rfl Tryd.func19 (by kernel_rfl) rfl #[.slice (some ⟨go17, 0, none⟩) y366.length co10] rfl (by (try simp only [List.map_toArray, List.map_cons, List.map_nil]); first | done | (rw [show y366.length = t360.length from (Kd.R_reads' HO_8.out).1.symm] <;> rfl) | rfl | (simp only [List.length_drop, List.length_take]; rfl)) ?_; (with_reducible refine (header_Get.calls k1 _ _ y366 t367 t368 t369 _ ?side1 ?side2 A18.out).mono ?_); (case side1 => repeat (first | exact (Kd.R_reads' HO_8.out).2.2 | (with_reducible refine Kd.C_alloc ?_ _) | (with_reducible refine Kd.C_drewN ?_ _) | (with_reducible refine Kd.C_drew ?_))); (case side2 => rw [show y366.length = t360.length from (Kd.R_reads' HO_8.out).1.symm]; exact (Kd.R_reads' HO_8.out).2.1); rintro e w44 ⟨rfl, hb⟩; refine ⟨_, rfl, ?_⟩; have n0_ := Aside0.mk (Kd.R_below (by (with_reducible repeat (first | apply Kd.R_alloc | apply Kd.R_drewN | apply Kd.R_drew)); exact HO_8.out) hb); have n1_ := Aside0.mk (below_step (by repeat (first | (with_reducible first | exact HB.out | apply below_alloc | apply pw_below_drewN | apply below_drew1) | exact HB.out)) hb); clear HO_8; clear HB; have HO_8 := n0_; have HB := n1_; clear n0_ n1_; (try clear hb); (try clear hb2); (try clear hk); (try clear hi); have p370 : 0 ≤ ((ji14) : Int) := of_decide_eq_true (by first | (with_reducible assumption) | assumption); have q370 : (ji14) < (y366.length : Int) := (by have h_ : ((ji14) : Int) < ((t360.length : Int) : Int) := of_decide_eq_true (by first | (with_reducible assumption) | assumption); first | (have e_ := (Kd.R_reads' HO_8.out).1; omega) | simpa only [Ny366.out, List.length_set] using h_); have ql370 : (((ji14) : Int) < ((t360.length : Int) : Int)) = True := eq_true (of_decide_eq_true (by first | (with_reducible assumption) | assumption)); obtain ⟨ad370, e370, hx370_0⟩ := Kd.at_int (Kd.R_reads' HO_8.out).2.2 (ji14) p370 q370; obtain rfl : (⟨go17, 0, none⟩ : Addr) = ad370 := (by injection e370); (first | simp only [add_plain] at hx370_0 | simp only [add_at] at hx370_0 | simp only [Addr.add, Nat.zero_add] at hx370_0 | skip); replace p370 := eq_true p370; replace q370 := eq_true q370; have p19 : 0 ≤ ((ji14) : Int) := of_decide_eq_true (by first | (with_reducible assumption) | assumption); have q19 : ((ji14) : Int) < ((t360.length : Int) : Int) := of_decide_eq_true (by first | (with_reducible assumption) | assumption); obtain ⟨hx19_0, hf19_0⟩ := Kd.R_celln 0 HO_8.out ((ji14) : Int) p19 q19; replace p19 := eq_true p19; replace q19 := eq_true q19; obtain ⟨hy45_, hz45_⟩ := Kd.R_celln 0 HO_8.out ((ji14) : Int) (of_decide_eq_true (by first | (with_reducible assumption) | assumption)) (of_decide_eq_true (by first | (with_reducible assumption) | assumption)); have HP45 := Kd.R_putg HO_8.out ((ji14) : Int) (((rd y366 (ji14)) - 1) % 256)) | ((with_reducible refine gate_store (t := 5) (p := 66) rfl ?_); refine store_event (t := 5) (p := 66) (v := ?vo_w46) (w1 := (w44.setCell ⟨go17, ((ji14) : Int).toNat, none⟩ (.int .u8 (((rd y366 (ji14)) - 1) % 256)))) ?hg ?ho ?hn ?hr ?_; (case ho => rfl); (case hg => rfl); (case hn => rfl); (case hr => first | (go_simp; done) | (go_simp; rfl)); intro w46 hw; have hg : w44.grownBy w46 (some go17) := (by rw [hw]; exact HP45.2); have hp_ : Kd.R (Kd.int .u8) 5 w46 w.heap.size (fun _ => True) (.slice (some ⟨go17, 0, none⟩) t360.length co10) y371 := (by rw [hw, Ny371.out]; exact HP45.1); clear HP45; have n0_ := Aside0.mk (hp_); have n1_ := Aside0.mk ((by rw [hw]; exact below_set (HB.out) GB17.out : Below w.heap.size w w46)); clear HO_8; clear HB; have HO_8 := n0_; have HB := n1_; clear n0_ n1_; clear hg hw hp_) | (go_at_call 21; refine calls_of_args (args' := #[.slice (some ⟨go17, 0, none⟩) y371.length co10]) (by first | (rw [show y371.length = t360.length from (Kd.R_reads' HO_8.out).1.symm] <;> rfl) | rfl) ?_; (with_reducible refine (bindleref05_Check.calls k1 _ _ y371 t372 _ ?side1 ?side2 A21.out).mono ?_); (case side1 => repeat (first | exact (Kd.R_reads' HO_8.out).2.2 | (with_reducible refine Kd.C_alloc ?_ _) | (with_reducible refine Kd.C_drewN ?_ _) | (with_reducible refine Kd.C_drew ?_))); (case side2 => rw [show y371.length = t360.length from (Kd.R_reads' HO_8.out).1.symm]; exact (Kd.R_reads' HO_8.out).2.1); rintro e w' ⟨rfl, ⟨nd, rfl⟩⟩))
                    go_ret
                    exact ⟨by first | rfl | (simp [errW_none, errW_some] <;> rfl) | (simp only [← hji14]; first | rfl | (simp [errW_none, errW_some] <;> rfl)) | (simp [*, errW_none, errW_some] <;> rfl), by repeat (first | (with_reducible first | exact HB.out | apply below_alloc | apply pw_below_drewN | apply below_drew1) | exact HB.out)⟩
                · replace c20 := Bool.eq_false_iff.mpr c20
                  subst c20
                  have H1 : (some false) = some r := by rw [if_neg (show ¬ (false = true) by decide)] at H; exact H
                  clear H
                  have H := H1
                  clear H1
                  obtain rfl := Option.some.inj H
                  have p365 : 0 ≤ ((ji14) : Int) := of_decide_eq_true (by first | (with_reducible assumption) | assumption)
                  have q365 : (ji14) < (t360.length : Int) := of_decide_eq_true (by first | (with_reducible assumption) | assumption)
                  obtain ⟨ad365, e365, hx365_0⟩ := Kd.at_int (Kd.R_reads' HO_8.out).2.2 (ji14) p365 q365
                  cases e365
                  replace p365 := eq_true p365
                  replace q365 := eq_true q365
                  have p17 : 0 ≤ ((ji14) : Int) := of_decide_eq_true (by first | (with_reducible assumption) | assumption)
                  have q17 : ((ji14) : Int) < ((t360.length : Int) : Int) := of_decide_eq_true (by first | (with_reducible assumption) | assumption)
                  obtain ⟨go17, co17, eo17, gb17, gl17, cl17, HG17⟩ := Kd.R_form HO_8.out (by omega)
                  (first | cases eo17 | (injection eo17 with ea_ en_ ec_; (first | subst ea_ | (injection ea_ with ea_; subst ea_)); subst ec_; clear en_))
                  have GB17 := Aside0.mk gb17
                  have GG17 := Aside0.mk HG17
                  clear gb17 gl17 HG17
                  (first | simp only [add_plain] at hx365_0 | skip)
                  obtain ⟨hx17_0, hf17_0⟩ := Kd.R_celln 0 HO_8.out ((ji14) : Int) p17 q17
                  replace p17 := eq_true p17
                  replace q17 := eq_true q17
                  have HP47 := Kd.R_putg HO_8.out ((ji14) : Int) (((rd t360 (ji14)) + 1) % 256)
                  go_wp2_with (first | ((with_reducible refine gate_store (t := 5) (p := 52) rfl ?_); refine store_event (t := 5) (p := 52) (v := ?vo_w48) (w1 := (wr.setCell ⟨go17, ((ji14) : Int).toNat, none⟩ (.int .u8 (((rd t360 (ji14)) + 1) % 256)))) ?hg ?ho ?hn ?hr ?_; (case ho => rfl); (case hg => rfl); (case hn => rfl); (case hr => first | (go_simp; done) | (go_simp; rfl)); intro w48 hw; have hg : wr.grownBy w48 (some go17) := (by rw [hw]; exact HP47.2); have hp_ : Kd.R (Kd.int .u8) 5 w48 w.heap.size (fun _ => True) (.slice (some ⟨go17, 0, none⟩) t360.length co10) y366 := (by rw [hw, Ny366.out]; exact HP47.1); clear HP47; have n0_ := Aside0.mk (hp_); have n1_ := Aside0.mk ((by rw [hw]; exact below_set (HB.out) GB17.out : Below w.heap.size w w48)); clear HO_8; clear HB; have HO_8 := n0_; have HB := n1_; clear n0_ n1_; clear hg hw hp_) | ((with_reducible refine gate_callee (f := 19) rfl ?_); refine goesL_ (some 55) rfl rfl Tryd.func19 (by kernel_rfl) rfl #[.slice (some ⟨go17, 0, none⟩) y366.length co10] rfl (by (try simp only [List.map_toArray, List.map_cons, List.map_nil]); first | done | (rw [show y366.length = t360.length from (Kd.R_reads' HO_8.out).1.symm] <;> rfl) | rfl | (simp only [List.length_drop, List.length_take]; rfl)) ?_; (with_reducible refine (header_Get.calls k1 _ _ y366 t367 t368 t369 _ ?side1 ?side2 A18.out).mono ?_); (case side1 => repeat (first | exact (Kd.R_reads' HO_8.out).2.2 | (with_reducible refine Kd.C_alloc ?_ _) | (with_reducible refine Kd.C_drewN ?_ _) | (with_reducible refine Kd.C_drew ?_))); (case side2 => rw [show y366.length = t360.length from (Kd.R_reads' HO_8.out).1.symm]; exact (Kd.R_reads' HO_8.out).2.1); rintro e w49 ⟨rfl, hb⟩; refine ⟨_, rfl, ?_⟩; have n0_ := Aside0.mk (Kd.R_below (by (with_reducible repeat (first | apply Kd.R_alloc | apply Kd.R_drewN | apply Kd.R_drew)); exact HO_8.out) hb); have n1_ := Aside0.mk (below_step (by repeat (first | (with_reducible first | exact HB.out | apply below_alloc | apply pw_below_drewN | apply below_drew1) | exact HB.out)) hb); clear HO_8; clear HB; have HO_8 := n0_; have HB := n1_; clear n0_ n1_; (try clear hb); (try clear hb2); (try clear hk); (try clear hi); have p370 : 0 ≤ ((ji14) : Int) := of_decide_eq_true (by first | (with_reducible assumption) | assumption); have q370 : (ji14) < (y366.length : Int) := (by have h_ : ((ji14) : Int) < ((t360.length : Int) : Int) := of_decide_eq_true (by first | (with_reducible assumption) | assumption); first | (have e_ := (Kd.R_reads' HO_8.out).1; omega) | simpa only [Ny366.out, List.length_set] using h_); have ql370 : (((ji14) : Int) < ((t360.length : Int) : Int)) = True := eq_true (of_decide_eq_true (by first | (with_reducible assumption) | assumption)); obtain ⟨ad370, e370, hx370_0⟩ := Kd.at_int (Kd.R_reads' HO_8.out).2.2 (ji14) p370 q370; obtain rfl : (⟨go17, 0, none⟩ : Addr) = ad370 := (by injection e370); (first | simp only [add_plain] at hx370_0 | simp only [add_at] at hx370_0 | simp only [Addr.add, Nat.zero_add] at hx370_0 | skip); replace p370 := eq_true p370; replace q370 := eq_true q370; have p19 : 0 ≤ ((ji14) : Int) := of_decide_eq_true (by first | (with_reducible assumption) | assumption); have q19 : ((ji14) : Int) < ((t360.length : Int) : Int) := of_decide_eq_true (by first | (with_reducible assumption) | assumption); obtain ⟨hx19_0, hf19_0⟩ := Kd.R_celln 0 HO_8.out ((ji14) : Int) p19 q19; replace p19 := eq_true p19; replace q19 := eq_true q19; obtain ⟨hy50_, hz50_⟩ := Kd.R_celln 0 HO_8.out ((ji14) : Int) (of_decide_eq_true (by first | (with_reducible assumption) | assumption)) (of_decide_eq_true (by first | (with_reducible assumption) | assumption)); have HP50 := Kd.R_putg HO_8.out ((ji14) : Int) (((rd y366 (ji14)) - 1) % 256)) | ((with_reducible refine gate_store (t := 5) (p := 66) rfl ?_); refine store_event (t := 5) (p := 66) (v := ?vo_w51) (w1 := (w49.setCell ⟨go17, ((ji14) : Int).toNat, none⟩ (.int .u8 (((rd y366 (ji14)) - 1) % 256)))) ?hg ?ho ?hn ?hr ?_; (case ho => rfl); (case hg => rfl); (case hn => rfl); (case hr => first | (go_simp; done) | (go_simp; rfl)); intro w51 hw; have hg : w49.grownBy w51 (some go17) := (by rw [hw]; exact HP50.2); have hp_ : Kd.R (Kd.int .u8) 5 w51 w.heap.size (fun _ => True) (.slice (some ⟨go17, 0, none⟩) t360.length co10) y371 := (by rw [hw, Ny371.out]; exact HP50.1); clear HP50; have n0_ := Aside0.mk (hp_); have n1_ := Aside0.mk ((by rw [hw]; exact below_set (HB.out) GB17.out : Below w.heap.size w w51)); clear HO_8; clear HB; have HO_8 := n0_; have HB := n1_; clear n0_ n1_; clear hg hw hp_))
                  go_ret
                  exact ⟨by first | rfl | (simp [errW_none, errW_some] <;> rfl) | (simp only [← hji14]; first | rfl | (simp [errW_none, errW_some] <;> rfl)) | (simp [*, errW_none, errW_some] <;> rfl), by repeat (first | (with_reducible first | exact HB.out | apply below_alloc | apply pw_below_drewN | apply below_drew1) | exact HB.out)⟩
              · rw [if_neg c16] at H
                exact absurd H (by simp)
            · rw [if_neg c15] at H
              exact absurd H (by simp)
    · rw [if_neg c7] at H
      have c7b0 : ((t360.length : Int) == 512) = false := beq_eq_false_iff_ne.mpr c7
      have c7b1 : ((t360.length : Int) != 512) = true := bne_iff_ne.mpr c7
      obtain rfl := Option.some.inj H
      go_enter Tryd.func6, Tryd.ntmps6
      go_wp2_with (first | ((with_reducible refine gate_callee (f := 16) rfl ?_); refine goesL_ (some 16) rfl rfl Tryd.func16 (by kernel_rfl) rfl #[] rfl (by (try simp only [List.map_toArray, List.map_cons, List.map_nil]); first | done | rfl | (simp only [List.length_drop, List.length_take]; rfl)) ?_; (with_reducible refine (bindlelaw07_awake.calls k  t359 _ A4.out).mono ?_); rintro e w52 ⟨rfl, hb⟩; refine ⟨_, rfl, ?_⟩; have n0_ := Aside0.mk (below_step (by repeat (first | (with_reducible first | exact HB.out | apply below_alloc | apply pw_below_drewN | apply below_drew1) | exact HB.out)) hb); clear HB; have HB := n0_; clear n0_; (try clear hb); (try clear hb2); (try clear hk); (try clear hi)) | ((with_reducible refine gate_callee (f := 17) rfl ?_); refine goesL_ (some 20) rfl rfl Tryd.func17 (by kernel_rfl) rfl #[.string a0, .int .i64 a1] rfl (by (try simp only [List.map_toArray, List.map_cons, List.map_nil]); first | done | rfl | (simp only [List.length_drop, List.length_take]; rfl)) ?_; (with_reducible refine (header_Put.calls a0 a1 t360 t361 _ A5.out).mono ?_); rintro e w53 ⟨v362, rfl, ho0, hb⟩; refine ⟨_, rfl, ?_⟩; have n0_ := Aside0.mk (Kd.R_lower ho0 (below_size (by repeat (first | (with_reducible first | exact HB.out | apply below_alloc | apply pw_below_drewN | apply below_drew1) | exact HB.out)))); have n1_ := Aside0.mk (below_step (by repeat (first | (with_reducible first | exact HB.out | apply below_alloc | apply pw_below_drewN | apply below_drew1) | exact HB.out)) hb); clear HB; have HO363 := n0_; have HB := n1_; clear n0_ n1_; (try clear hb); (try clear hb2); (try clear hk); (try clear hi); (try clear ho0); obtain ⟨Ao54, co54, eo54⟩ := Kd.R_slice HO363.out; subst eo54))
      go_ret
      exact ⟨by first | rfl | (simp [errW_none, errW_some] <;> rfl) | (simp [*, errW_none, errW_some] <;> rfl), by repeat (first | (with_reducible first | exact HB.out | apply below_alloc | apply pw_below_drewN | apply below_drew1) | exact HB.out)⟩
  · rw [if_neg c6] at H
    have c6b0 : (t361 == 0) = false := beq_eq_false_iff_ne.mpr c6
    have c6b1 : (t361 != 0) = true := bne_iff_ne.mpr c6
    obtain rfl := Option.some.inj H
    go_enter Tryd.func6, Tryd.ntmps6
    go_wp2_with (first | ((with_reducible refine gate_callee (f := 16) rfl ?_); refine goesL_ (some 16) rfl rfl Tryd.func16 (by kernel_rfl) rfl #[] rfl (by (try simp only [List.map_toArray, List.map_cons, List.map_nil]); first | done | rfl | (simp only [List.length_drop, List.length_take]; rfl)) ?_; (with_reducible refine (bindlelaw07_awake.calls k  t359 _ A4.out).mono ?_); rintro e w55 ⟨rfl, hb⟩; refine ⟨_, rfl, ?_⟩; have n0_ := Aside0.mk (below_step (by repeat (first | (with_reducible first | exact HB.out | apply below_alloc | apply pw_below_drewN | apply below_drew1) | exact HB.out)) hb); clear HB; have HB := n0_; clear n0_; (try clear hb); (try clear hb2); (try clear hk); (try clear hi)) | ((with_reducible refine gate_callee (f := 17) rfl ?_); refine goesL_ (some 20) rfl rfl Tryd.func17 (by kernel_rfl) rfl #[.string a0, .int .i64 a1] rfl (by (try simp only [List.map_toArray, List.map_cons, List.map_nil]); first | done | rfl | (simp only [List.length_drop, List.length_take]; rfl)) ?_; (with_reducible refine (header_Put.calls a0 a1 t360 t361 _ A5.out).mono ?_); rintro e w56 ⟨v362, rfl, ho0, hb⟩; refine ⟨_, rfl, ?_⟩; have n0_ := Aside0.mk (Kd.R_lower ho0 (below_size (by repeat (first | (with_reducible first | exact HB.out | apply below_alloc | apply pw_below_drewN | apply below_drew1) | exact HB.out)))); have n1_ := Aside0.mk (below_step (by repeat (first | (with_reducible first | exact HB.out | apply below_alloc | apply pw_below_drewN | apply below_drew1) | exact HB.out)) hb); clear HB; have HO363 := n0_; have HB := n1_; clear n0_ n1_; (try clear hb); (try clear hb2); (try clear hk); (try clear hi); (try clear ho0)))
    go_ret
    exact ⟨by first | rfl | (simp [errW_none, errW_some] <;> rfl) | (simp [*, errW_none, errW_some] <;> rfl), by repeat (first | (with_reducible first | exact HB.out | apply below_alloc | apply pw_below_drewN | apply below_drew1) | exact HB.out)⟩

end Go.Proofs.YtkcmkgkkddgicaaDoor.R
