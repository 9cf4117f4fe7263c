/- Texts of this claim joined in one. -/
import Derived.Test.YtkcmkgkkddgicaaDoorQBase
import Derived.Test.YtkcmkgkkddgicaaDoorQShelf
namespace Go.Proofs.YtkcmkgkkddgicaaDoor.R
open Go.RowKit Go.Proofs.YtkcmkgkkddgicaaDoorW.PrintWords Go.Proofs.YtkcmkgkkddgicaaDoorW.PrintLast Go.Proofs.YtkcmkgkkddgicaaDoorW.PrintMore
attribute [local go_sem] max2_int min2_int max_two min_two max_three min_three max_four min_four   -- for this text's walks alone
set_option linter.unusedVariables false
set_option linter.unusedSimpArgs false

/-! ### bytes_trimLeftByte: function 63 -/
def bytes_trimLeftByte.l0 : Nat → List Int → Int → Option (List Int)
  | 0, _, _ => none
  | k + 1, x0, x1 => if (x0.length : Int) > 0 then (if 0 < (x0.length : Int) then (if (rd x0 0) = x1 then (if 1 ≤ (x0.length : Int) then (bytes_trimLeftByte.l0 k (x0.drop 1) x1) else (none)) else (if (x0.length : Int) = 0 then (some ([] : List Int)) else (some x0))) else (none)) else (if (x0.length : Int) = 0 then (some ([] : List Int)) else (some x0))
def bytes_trimLeftByte.f (k : Nat) (l0 : List Int) (a1 : Int) : Option (List Int) := bytes_trimLeftByte.l0 k l0 a1
theorem bytes_trimLeftByte.mono_l : ∀ k, (∀ y0 y1, LeO (bytes_trimLeftByte.l0 k y0 y1) (bytes_trimLeftByte.l0 (k + 1) y0 y1))
  | 0 => fun _ _ r h => by simp [bytes_trimLeftByte.l0] at h
  | k + 1 => by
    have ih0 := bytes_trimLeftByte.mono_l k
    · intro y0 y1
      unfold bytes_trimLeftByte.l0
      repeat' first
      | (with_reducible exact ih0 _ _)
      | (with_reducible exact LeO.refl _)
      | (with_reducible exact LeO.none _)
      | (with_reducible refine LeO.ite ?_ ?_)
      | (with_reducible refine LeO.bind ?_ (fun _ => ?_))
      | exact ih0 _ _
      | exact LeO.none _
      | refine LeO.ite ?_ ?_
      | refine LeO.bind ?_ (fun _ => ?_)
theorem bytes_trimLeftByte.mono : ∀ a0 a1 k, LeO (bytes_trimLeftByte.f k a0 a1) (bytes_trimLeftByte.f (k + 1) a0 a1) := by
  intro a0 a1 k
  have ih0 := bytes_trimLeftByte.mono_l k
  unfold bytes_trimLeftByte.f
  repeat' first
      | (with_reducible exact ih0 _ _)
      | (with_reducible exact LeO.refl _)
      | (with_reducible exact LeO.none _)
      | (with_reducible refine LeO.ite ?_ ?_)
      | (with_reducible refine LeO.bind ?_ (fun _ => ?_))
      | exact ih0 _ _
      | exact LeO.none _
      | refine LeO.ite ?_ ?_
      | refine LeO.bind ?_ (fun _ => ?_)
set_option maxHeartbeats 8000000 in
set_option maxRecDepth 100000 in
theorem bytes_trimLeftByte.calls (k : Nat) (P0_ : Nat → Prop) (A0 : Option Addr) (c0 : Nat) (l0 : List Int) (a1 : Int) (r : List Int) (w : World) (hs0 : Kd.V (Kd.int .u8) 5 w w.heap.size (fun k_ => P0_ k_) (.slice A0 l0.length c0) l0) (h : bytes_trimLeftByte.f k l0 a1 = some r) :
    Calls Tryd.prog 63 #[.slice A0 l0.length c0, .int .u8 a1] w fun e w' => ∃ v0_ : Value, e = .returned (v0_) ∧ Kd.V (Kd.int .u8) 5 w' w.heap.size (fun k_ => (P0_ k_ ∨ w.heap.size ≤ k_)) v0_ r ∧ Below w.heap.size w w' := by
  have HO0 := Aside0.mk (show Kd.V (Kd.int .u8) 5 w w.heap.size (fun k_ => (P0_ k_ ∨ w.heap.size ≤ k_)) (.slice A0 l0.length c0) l0 from Kd.V_mono hs0 (fun k_ hk => .inl hk))
  have HB := Aside0.mk (Below.refl w.heap.size w)
  have H : (bytes_trimLeftByte.l0 k l0 a1) = some r := h
  clear h
  have H' := Aside0.mk H
  clear H
  go_enter Tryd.func63, Tryd.ntmps63
  go_wp2
  go_loopg [0] k (fun kq v0 w' => ∃ (x0_1 : List Int), Aside0 (bytes_trimLeftByte.l0 kq x0_1 a1 = some r) ∧ Aside0 (kq ≤ k) ∧ Aside0 (Kd.V (Kd.int .u8) 5 w' w.heap.size (fun k_ => (P0_ k_ ∨ w.heap.size ≤ k_)) v0 x0_1) ∧ Aside0 (Below w.heap.size w w'))
  case atStart => exact ⟨(l0), H', ⟨Nat.le_refl _⟩, ⟨by (with_reducible repeat (first | apply Kd.V_alloc | apply Kd.V_drewN | apply Kd.V_drew)); exact HO0.out⟩, ⟨by repeat (first | (with_reducible first | exact HB.out | apply below_alloc | apply pw_below_drewN | apply below_drew1) | exact HB.out)⟩⟩
  case round =>
    clear H'
    try clear p2
    obtain ⟨x0_1, HA, HK1, HO_0, HB⟩ := hrel
    cases gk with
    | zero => exact absurd HA.out (by simp [bytes_trimLeftByte.l0])
    | succ k1 =>
      have H := HA.out
      clear HA
      simp only [bytes_trimLeftByte.l0] at H
      by_cases c3 : (x0_1.length : Int) > 0
      · rw [if_pos c3] at H
        have c3b0 : decide (0 < (x0_1.length : Int)) = true := decide_eq_true c3
        have c3b1 : decide (0 < x0_1.length) = true := decide_eq_true (by omega)
        clear c3
        by_cases c4 : 0 < (x0_1.length : Int)
        · rw [if_pos c4] at H
          have c4b0 : decide (0 < (x0_1.length : Int)) = true := decide_eq_true c4
          have c4b1 : decide (0 < x0_1.length) = true := decide_eq_true (by omega)
          clear c4
          by_cases c5 : (rd x0_1 0) = a1
          · rw [if_pos c5] at H
            have c5b0 : ((rd x0_1 0) == a1) = true := beq_iff_eq.mpr c5
            have c5b1 : ((rd x0_1 0) != a1) = false := bne_eq_false_iff_eq.mpr c5
            clear c5
            by_cases c6 : 1 ≤ (x0_1.length : Int)
            · rw [if_pos c6] at H
              have c6b0 := eq_true c6
              have c6b1 : decide (1 ≤ (x0_1.length : Int)) = true := decide_eq_true c6
              clear c6
              obtain ⟨y102, hy102⟩ : ∃ y_ : List Int, y_ = (x0_1.drop 1) := ⟨_, rfl⟩
              replace H : (bytes_trimLeftByte.l0 k1 y102 a1) = some r := by first | (rw [hy102]; with_reducible exact H) | (have H2_ := (Option.bind_some _ _).symm.trans H; rw [hy102]; with_reducible exact H2_) | (have H2_ := (Option.bind_some _ _).symm.trans H; with_reducible exact H2_) | with_reducible exact H | (rw [hy102]; exact H) | exact H
              have Ny102 := Aside0.mk hy102
              clear hy102
              have H' := Aside0.mk H
              clear H
              obtain ⟨Ao7, co7, eo7⟩ := Kd.V_slice HO_0.out
              subst eo7
              have p101 : 0 ≤ (0 : Int) := (by omega)
              have q101 : 0 < (x0_1.length : Int) := of_decide_eq_true (by first | (with_reducible assumption) | assumption)
              obtain ⟨ad101, e101, hx101_0⟩ := Kd.at_int (Kd.V_reads' HO_0.out).2.2 0 p101 q101
              cases e101
              have qi101 : (0 < x0_1.length) = True := eq_true (by omega)
              (try rw [show ((0 : Int)).toNat = 0 from rfl] at hx101_0)
              (try rw [Addr.add_zero'] at hx101_0)
              replace p101 := eq_true p101
              replace q101 := eq_true q101
              have q8 : (1 : Int) ≤ ((x0_1.length : Int) : Int) := of_decide_eq_true (by first | (with_reducible assumption) | assumption)
              obtain ⟨i08, hi08, _, hsz8, _⟩ := info_parts info5
              have hroom8 : x0_1.length ≤ co7 := (Kd.V_reads' HO_0.out).2.1
              have hC8 : Kd.F (Kd.int .u8) _ _ (some ad101) x0_1.length x0_1 := (Kd.V_at (base := w.heap.size) HO_0.out).2.2
              have hcut8 := cut_from (P := Tryd.prog) 22 5 .i64 Tryd.underlying22 hi08 1 hsz8 (some ad101) x0_1.length co7 1 (by omega) q8
              have hr8 := Kd.F_cut (m := (1 : Int).toNat) (c := co7) hC8 (by omega) hroom8
              obtain ⟨A8, hA8⟩ : ∃ A1, A1 = (if co7 = (1 : Int).toNat then (some ad101) else ((some ad101) : Option Addr).map (·.add ((1 : Int).toNat * 1))) := ⟨_, rfl⟩
              obtain ⟨c8, hc8⟩ : ∃ c1, c1 = co7 - (1 : Int).toNat := ⟨_, rfl⟩
              have hy8 : y102.length = x0_1.length - (1 : Int).toNat := (by rw [Ny102.out, List.length_drop] <;> omega)
              rw [show (x0_1).drop (1 : Int).toNat = y102 from Ny102.out.symm] at hr8
              replace hr8 : Kd.F (Kd.int .u8) _ _ A8 y102.length y102 := (by rw [hA8]; exact hr8)
              rw [← hy8, ← hA8, ← hc8] at hcut8
              have HO106 := Aside0.mk (show Kd.V (Kd.int .u8) 5 _ w.heap.size _ (.slice A8 y102.length c8) y102 from Kd.V_mk (by rw [hy8, hc8]; exact Nat.sub_le_sub_right hroom8 _) hr8)
              have HC106 := Aside0.mk (show y102.length ≤ c8 from by rw [hy8, hc8]; exact Nat.sub_le_sub_right hroom8 _)
              clear hr8 hC8 hroom8 hi08 hsz8 hc8
              have KY8 := Aside0.mk hy8
              have KA8 := Aside0.mk hA8
              clear hy8 hA8
              replace q8 := eq_true q8
              go_wp2
              go_roundg k1
              case measure => have := HK1.out; omega
              case rel => exact ⟨(y102), H', ⟨by have := HK1.out; omega⟩, ⟨by (with_reducible repeat (first | apply Kd.V_alloc | apply Kd.V_drewN | apply Kd.V_drew)); exact HO106.out⟩, ⟨by repeat (first | (with_reducible first | exact HB.out | apply below_alloc | apply pw_below_drewN | apply below_drew1) | exact HB.out)⟩⟩
            · rw [if_neg c6] at H
              exact absurd H (by simp)
          · rw [if_neg c5] at H
            have c5b0 : ((rd x0_1 0) == a1) = false := beq_eq_false_iff_ne.mpr c5
            have c5b1 : ((rd x0_1 0) != a1) = true := bne_iff_ne.mpr c5
            by_cases c9 : (x0_1.length : Int) = 0
            · rw [if_pos c9] at H
              have c9b0 : ((x0_1.length : Int) == 0) = true := beq_iff_eq.mpr c9
              have c9b1 : ((x0_1.length : Int) != 0) = false := bne_eq_false_iff_eq.mpr c9
              clear c9
              obtain rfl := Option.some.inj H
              obtain ⟨Ao10, co10, eo10⟩ := Kd.V_slice HO_0.out
              subst eo10
              have p101 : 0 ≤ (0 : Int) := (by omega)
              have q101 : 0 < (x0_1.length : Int) := of_decide_eq_true (by first | (with_reducible assumption) | assumption)
              obtain ⟨ad101, e101, hx101_0⟩ := Kd.at_int (Kd.V_reads' HO_0.out).2.2 0 p101 q101
              cases e101
              have qi101 : (0 < x0_1.length) = True := eq_true (by omega)
              (try rw [show ((0 : Int)).toNat = 0 from rfl] at hx101_0)
              (try rw [Addr.add_zero'] at hx101_0)
              replace p101 := eq_true p101
              replace q101 := eq_true q101
              go_wp2
              go_ret
              exact ⟨_, by first | rfl | (simp [errW_none, errW_some] <;> rfl) | (simp [*, errW_none, errW_some] <;> rfl), Kd.V_nil _ _ _ _ _, by repeat (first | (with_reducible first | exact HB.out | apply below_alloc | apply pw_below_drewN | apply below_drew1) | exact HB.out)⟩
            · rw [if_neg c9] at H
              have c9b0 : ((x0_1.length : Int) == 0) = false := beq_eq_false_iff_ne.mpr c9
              have c9b1 : ((x0_1.length : Int) != 0) = true := bne_iff_ne.mpr c9
              have c9b2 : ¬ (x0_1 = []) := fun h_ => c9 (by rw [h_]; rfl)
              obtain rfl := Option.some.inj H
              obtain ⟨Ao11, co11, eo11⟩ := Kd.V_slice HO_0.out
              subst eo11
              have p101 : 0 ≤ (0 : Int) := (by omega)
              have q101 : 0 < (x0_1.length : Int) := of_decide_eq_true (by first | (with_reducible assumption) | assumption)
              obtain ⟨ad101, e101, hx101_0⟩ := Kd.at_int (Kd.V_reads' HO_0.out).2.2 0 p101 q101
              cases e101
              have qi101 : (0 < x0_1.length) = True := eq_true (by omega)
              (try rw [show ((0 : Int)).toNat = 0 from rfl] at hx101_0)
              (try rw [Addr.add_zero'] at hx101_0)
              replace p101 := eq_true p101
              replace q101 := eq_true q101
              go_wp2
              go_ret
              exact ⟨_, by first | rfl | (simp [errW_none, errW_some] <;> rfl) | (simp [*, errW_none, errW_some] <;> rfl), by (with_reducible repeat (first | apply Kd.V_alloc | apply Kd.V_drewN | apply Kd.V_drew)); exact HO_0.out, by repeat (first | (with_reducible first | exact HB.out | apply below_alloc | apply pw_below_drewN | apply below_drew1) | exact HB.out)⟩
        · rw [if_neg c4] at H
          exact absurd H (by simp)
      · rw [if_neg c3] at H
        have c3b0 : decide (0 < (x0_1.length : Int)) = false := decide_eq_false c3
        have c3b1 : decide (0 < x0_1.length) = false := decide_eq_false (by omega)
        clear c3
        by_cases c12 : (x0_1.length : Int) = 0
        · rw [if_pos c12] at H
          have c12b0 : ((x0_1.length : Int) == 0) = true := beq_iff_eq.mpr c12
          have c12b1 : ((x0_1.length : Int) != 0) = false := bne_eq_false_iff_eq.mpr c12
          clear c12
          obtain rfl := Option.some.inj H
          obtain ⟨Ao13, co13, eo13⟩ := Kd.V_slice HO_0.out
          subst eo13
          go_wp2
          go_ret
          exact ⟨_, by first | rfl | (simp [errW_none, errW_some] <;> rfl) | (simp [*, errW_none, errW_some] <;> rfl), Kd.V_nil _ _ _ _ _, by repeat (first | (with_reducible first | exact HB.out | apply below_alloc | apply pw_below_drewN | apply below_drew1) | exact HB.out)⟩
        · rw [if_neg c12] at H
          have c12b0 : ((x0_1.length : Int) == 0) = false := beq_eq_false_iff_ne.mpr c12
          have c12b1 : ((x0_1.length : Int) != 0) = true := bne_iff_ne.mpr c12
          have c12b2 : ¬ (x0_1 = []) := fun h_ => c12 (by rw [h_]; rfl)
          obtain rfl := Option.some.inj H
          obtain ⟨Ao14, co14, eo14⟩ := Kd.V_slice HO_0.out
          subst eo14
          go_wp2
          go_ret
          exact ⟨_, by first | rfl | (simp [errW_none, errW_some] <;> rfl) | (simp [*, errW_none, errW_some] <;> rfl), by (with_reducible repeat (first | apply Kd.V_alloc | apply Kd.V_drewN | apply Kd.V_drew)); exact HO_0.out, by repeat (first | (with_reducible first | exact HB.out | apply below_alloc | apply pw_below_drewN | apply below_drew1) | exact HB.out)⟩

/-! ### bytes_trimRightByte: function 64 -/
def bytes_trimRightByte.l0 : Nat → List Int → Int → Option (List Int)
  | 0, _, _ => none
  | k + 1, x0, x1 => if (x0.length : Int) > 0 then (if 0 ≤ (wrap64 ((x0.length : Int) - 1)) then (if (wrap64 ((x0.length : Int) - 1)) < (x0.length : Int) then (if (rd x0 (wrap64 ((x0.length : Int) - 1))) = x1 then (if (wrap64 ((x0.length : Int) - 1)) ≤ (x0.length : Int) then (bytes_trimRightByte.l0 k (x0.take ((wrap64 ((x0.length : Int) - 1)) : Int).toNat) x1) else (none)) else (some x0)) else (none)) else (none)) else (some x0)
def bytes_trimRightByte.f (k : Nat) (l0 : List Int) (a1 : Int) : Option (List Int) := bytes_trimRightByte.l0 k l0 a1
theorem bytes_trimRightByte.mono_l : ∀ k, (∀ y0 y1, LeO (bytes_trimRightByte.l0 k y0 y1) (bytes_trimRightByte.l0 (k + 1) y0 y1))
  | 0 => fun _ _ r h => by simp [bytes_trimRightByte.l0] at h
  | k + 1 => by
    have ih0 := bytes_trimRightByte.mono_l k
    · intro y0 y1
      unfold bytes_trimRightByte.l0
      repeat' first
      | (with_reducible exact ih0 _ _)
      | (with_reducible exact LeO.refl _)
      | (with_reducible exact LeO.none _)
      | (with_reducible refine LeO.ite ?_ ?_)
      | (with_reducible refine LeO.bind ?_ (fun _ => ?_))
      | exact ih0 _ _
      | exact LeO.none _
      | refine LeO.ite ?_ ?_
      | refine LeO.bind ?_ (fun _ => ?_)
theorem bytes_trimRightByte.mono : ∀ a0 a1 k, LeO (bytes_trimRightByte.f k a0 a1) (bytes_trimRightByte.f (k + 1) a0 a1) := by
  intro a0 a1 k
  have ih0 := bytes_trimRightByte.mono_l k
  unfold bytes_trimRightByte.f
  repeat' first
      | (with_reducible exact ih0 _ _)
      | (with_reducible exact LeO.refl _)
      | (with_reducible exact LeO.none _)
      | (with_reducible refine LeO.ite ?_ ?_)
      | (with_reducible refine LeO.bind ?_ (fun _ => ?_))
      | exact ih0 _ _
      | exact LeO.none _
      | refine LeO.ite ?_ ?_
      | refine LeO.bind ?_ (fun _ => ?_)
set_option maxHeartbeats 8000000 in
set_option maxRecDepth 100000 in
theorem bytes_trimRightByte.calls (k : Nat) (P0_ : Nat → Prop) (A0 : Option Addr) (c0 : Nat) (l0 : List Int) (a1 : Int) (r : List Int) (w : World) (hs0 : Kd.V (Kd.int .u8) 5 w w.heap.size (fun k_ => P0_ k_) (.slice A0 l0.length c0) l0) (h : bytes_trimRightByte.f k l0 a1 = some r) :
    Calls Tryd.prog 64 #[.slice A0 l0.length c0, .int .u8 a1] w fun e w' => ∃ v0_ : Value, e = .returned (v0_) ∧ Kd.V (Kd.int .u8) 5 w' w.heap.size (fun k_ => (P0_ k_ ∨ w.heap.size ≤ k_)) v0_ r ∧ Below w.heap.size w w' := by
  have HO0 := Aside0.mk (show Kd.V (Kd.int .u8) 5 w w.heap.size (fun k_ => (P0_ k_ ∨ w.heap.size ≤ k_)) (.slice A0 l0.length c0) l0 from Kd.V_mono hs0 (fun k_ hk => .inl hk))
  have HB := Aside0.mk (Below.refl w.heap.size w)
  have H : (bytes_trimRightByte.l0 k l0 a1) = some r := h
  clear h
  have H' := Aside0.mk H
  clear H
  go_enter Tryd.func64, Tryd.ntmps64
  go_wp2
  go_loopg [0] k (fun kq v0 w' => ∃ (x0_1 : List Int), Aside0 (bytes_trimRightByte.l0 kq x0_1 a1 = some r) ∧ Aside0 (kq ≤ k) ∧ Aside0 (Kd.V (Kd.int .u8) 5 w' w.heap.size (fun k_ => (P0_ k_ ∨ w.heap.size ≤ k_)) v0 x0_1) ∧ Aside0 (Below w.heap.size w w'))
  case atStart => exact ⟨(l0), H', ⟨Nat.le_refl _⟩, ⟨by (with_reducible repeat (first | apply Kd.V_alloc | apply Kd.V_drewN | apply Kd.V_drew)); exact HO0.out⟩, ⟨by repeat (first | (with_reducible first | exact HB.out | apply below_alloc | apply pw_below_drewN | apply below_drew1) | exact HB.out)⟩⟩
  case round =>
    clear H'
    try clear p2
    obtain ⟨x0_1, HA, HK1, HO_0, HB⟩ := hrel
    cases gk with
    | zero => exact absurd HA.out (by simp [bytes_trimRightByte.l0])
    | succ k1 =>
      have H := HA.out
      clear HA
      simp only [bytes_trimRightByte.l0] at H
      by_cases c3 : (x0_1.length : Int) > 0
      · rw [if_pos c3] at H
        have c3b0 : decide (0 < (x0_1.length : Int)) = true := decide_eq_true c3
        have c3b1 : decide (0 < x0_1.length) = true := decide_eq_true (by omega)
        clear c3
        obtain ⟨ji4, hji4⟩ : ∃ j_ : Int, (wrap64 ((x0_1.length : Int) - 1)) = j_ := ⟨_, rfl⟩
        replace H : (if 0 ≤ (ji4) then (if (ji4) < (x0_1.length : Int) then (if (rd x0_1 (ji4)) = a1 then (if (ji4) ≤ (x0_1.length : Int) then (bytes_trimRightByte.l0 k1 (x0_1.take ((ji4) : Int).toNat) a1) else (none)) else (some x0_1)) else (none)) else (none)) = some r := by first | (rw [hji4] at H; exact H) | (simp only [hji4] at H ⊢; exact H)
        have hji4w : (IntKind.i64.wrap ((x0_1.length : Int) - 1)) = ji4 := (i64_w _).trans hji4
        by_cases c5 : 0 ≤ (ji4)
        · rw [if_pos c5] at H
          have c5b0 : decide (0 ≤ (ji4)) = true := decide_eq_true c5
          clear c5
          by_cases c6 : (ji4) < (x0_1.length : Int)
          · rw [if_pos c6] at H
            have c6b0 : decide ((ji4) < (x0_1.length : Int)) = true := decide_eq_true c6
            clear c6
            by_cases c7 : (rd x0_1 (ji4)) = a1
            · rw [if_pos c7] at H
              have c7b0 : ((rd x0_1 (ji4)) == a1) = true := beq_iff_eq.mpr c7
              have c7b1 : ((rd x0_1 (ji4)) != a1) = false := bne_eq_false_iff_eq.mpr c7
              clear c7
              have c8b0 := eq_true (of_decide_eq_true (by first | (with_reducible assumption) | assumption) : 0 ≤ (ji4))
              by_cases c9 : (ji4) ≤ (x0_1.length : Int)
              · rw [if_pos c9] at H
                have c9b0 := eq_true c9
                have c9b1 : decide ((ji4) ≤ (x0_1.length : Int)) = true := decide_eq_true c9
                clear c9
                obtain ⟨y108, hy108⟩ : ∃ y_ : List Int, y_ = (x0_1.take ((ji4) : Int).toNat) := ⟨_, rfl⟩
                replace H : (bytes_trimRightByte.l0 k1 y108 a1) = some r := by first | (rw [hy108]; with_reducible exact H) | (have H2_ := (Option.bind_some _ _).symm.trans H; rw [hy108]; with_reducible exact H2_) | (have H2_ := (Option.bind_some _ _).symm.trans H; with_reducible exact H2_) | with_reducible exact H | (rw [hy108]; exact H) | exact H
                have Ny108 := Aside0.mk hy108
                clear hy108
                have H' := Aside0.mk H
                clear H
                obtain ⟨Ao10, co10, eo10⟩ := Kd.V_slice HO_0.out
                subst eo10
                have p107 : 0 ≤ ((ji4) : Int) := of_decide_eq_true (by first | (with_reducible assumption) | assumption)
                have q107 : (ji4) < (x0_1.length : Int) := of_decide_eq_true (by first | (with_reducible assumption) | assumption)
                obtain ⟨ad107, e107, hx107_0⟩ := Kd.at_int (Kd.V_reads' HO_0.out).2.2 (ji4) p107 q107
                cases e107
                replace p107 := eq_true p107
                replace q107 := eq_true q107
                have q11 : ((ji4) : Int) ≤ ((x0_1.length : Int) : Int) := of_decide_eq_true (by first | (with_reducible assumption) | assumption)
                obtain ⟨i011, hi011, _, hsz11, _⟩ := info_parts info5
                have hroom11 : x0_1.length ≤ co10 := (Kd.V_reads' HO_0.out).2.1
                have hC11 : Kd.F (Kd.int .u8) _ _ (some ad107) x0_1.length x0_1 := (Kd.V_at (base := w.heap.size) HO_0.out).2.2
                have hcut11 := cut_to (P := Tryd.prog) 22 5 .i64 Tryd.underlying22 hi011 (some ad107) x0_1.length co10 (ji4) (of_decide_eq_true (by first | (with_reducible assumption) | assumption)) q11 hroom11
                have hr11 := Kd.F_take (m := ((ji4) : Int).toNat) hC11 (by omega)
                have hy11 : y108.length = ((ji4) : Int).toNat := (by rw [Ny108.out, List.length_take]; omega)
                rw [← Ny108.out] at hr11
                rw [← hy11] at hcut11
                have HO112 := Aside0.mk (show Kd.V (Kd.int .u8) 5 _ w.heap.size _ (.slice (some ad107) y108.length co10) y108 from Kd.V_mk (by omega) hr11)
                have HC112 := Aside0.mk (show y108.length ≤ co10 from by omega)
                clear hr11 hC11 hroom11 hi011 hsz11
                have KY11 := Aside0.mk hy11
                clear hy11
                replace q11 := eq_true q11
                go_wp2
                go_roundg k1
                case measure => have := HK1.out; omega
                case rel => exact ⟨(y108), H', ⟨by have := HK1.out; omega⟩, ⟨by (with_reducible repeat (first | apply Kd.V_alloc | apply Kd.V_drewN | apply Kd.V_drew)); exact HO112.out⟩, ⟨by repeat (first | (with_reducible first | exact HB.out | apply below_alloc | apply pw_below_drewN | apply below_drew1) | exact HB.out)⟩⟩
              · rw [if_neg c9] at H
                exact absurd H (by simp)
            · rw [if_neg c7] at H
              have c7b0 : ((rd x0_1 (ji4)) == a1) = false := beq_eq_false_iff_ne.mpr c7
              have c7b1 : ((rd x0_1 (ji4)) != a1) = true := bne_iff_ne.mpr c7
              obtain rfl := Option.some.inj H
              obtain ⟨Ao12, co12, eo12⟩ := Kd.V_slice HO_0.out
              subst eo12
              have p107 : 0 ≤ ((ji4) : Int) := of_decide_eq_true (by first | (with_reducible assumption) | assumption)
              have q107 : (ji4) < (x0_1.length : Int) := of_decide_eq_true (by first | (with_reducible assumption) | assumption)
              obtain ⟨ad107, e107, hx107_0⟩ := Kd.at_int (Kd.V_reads' HO_0.out).2.2 (ji4) p107 q107
              cases e107
              replace p107 := eq_true p107
              replace q107 := eq_true q107
              go_wp2
              go_ret
              exact ⟨_, by first | rfl | (simp [errW_none, errW_some] <;> rfl) | (simp only [← hji4]; first | rfl | (simp [errW_none, errW_some] <;> rfl)) | (simp [*, errW_none, errW_some] <;> rfl), by (with_reducible repeat (first | apply Kd.V_alloc | apply Kd.V_drewN | apply Kd.V_drew)); exact HO_0.out, by repeat (first | (with_reducible first | exact HB.out | apply below_alloc | apply pw_below_drewN | apply below_drew1) | exact HB.out)⟩
          · rw [if_neg c6] at H
            exact absurd H (by simp)
        · rw [if_neg c5] at H
          exact absurd H (by simp)
      · rw [if_neg c3] at H
        have c3b0 : decide (0 < (x0_1.length : Int)) = false := decide_eq_false c3
        have c3b1 : decide (0 < x0_1.length) = false := decide_eq_false (by omega)
        clear c3
        obtain rfl := Option.some.inj H
        obtain ⟨Ao13, co13, eo13⟩ := Kd.V_slice HO_0.out
        subst eo13
        go_wp2
        go_ret
        exact ⟨_, by first | rfl | (simp [errW_none, errW_some] <;> rfl) | (simp [*, errW_none, errW_some] <;> rfl), by (with_reducible repeat (first | apply Kd.V_alloc | apply Kd.V_drewN | apply Kd.V_drew)); exact HO_0.out, by repeat (first | (with_reducible first | exact HB.out | apply below_alloc | apply pw_below_drewN | apply below_drew1) | exact HB.out)⟩

end Go.Proofs.YtkcmkgkkddgicaaDoor.R

/- octal.Name, header.Blank (bytes trimmed of 0) and the reference's Text: what they answer, walked by hand. -/
set_option linter.unusedVariables false
set_option linter.unusedSimpArgs false
namespace Go.Proofs.YtkcmkgkkddgicaaDoor.R
open Go.RowKit Go.Proofs.YtkcmkgkkddgicaaDoorW.PrintWords Go.Proofs.YtkcmkgkkddgicaaDoorW.PrintLast Go.Proofs.YtkcmkgkkddgicaaDoorW.PrintMore

/-- without the zeros at the end -/
def trimr (l : List Int) : List Int := (l.reverse.dropWhile (fun x => x == 0)).reverse
theorem trimr_snoc (l : List Int) (x : Int) : trimr (l ++ [x]) = if x = 0 then trimr l else l ++ [x] := by
  unfold trimr
  simp only [List.reverse_append, List.reverse_cons, List.reverse_nil, List.nil_append, List.singleton_append, List.dropWhile_cons]
  by_cases h : x = 0 <;> simp [h]
theorem trimr_nil : trimr [] = [] := rfl
theorem take_pred (l : List Int) (h : 0 < l.length) : l.take (l.length - 1) ++ [l.getD (l.length - 1) 0] = l := by
  have e : l.take (l.length - 1 + 1) = l.take (l.length - 1) ++ [l[l.length - 1]] := (List.take_succ_eq_append_getElem (by omega))
  rw [List.take_of_length_le (by omega)] at e
  rw [List.getD_eq_getElem?_getD, List.getElem?_eq_getElem (by omega)]
  exact e.symm
theorem wrap_pred {n : Nat} (h : n ≤ 9223372036854775807) (h0 : 0 < n) : wrap64 ((n : Int) - 1) = ((n - 1 : Nat) : Int) := by
  unfold wrap64; omega
/-- what the loop comes to -/
theorem trimR_f : ∀ (n : Nat) (l : List Int), l.length = n → n ≤ 9223372036854775807 → ∀ k, n < k → bytes_trimRightByte.l0 k l 0 = some (trimr l)
  | 0, l, hl, _, k, hk => by
    obtain ⟨k, rfl⟩ : ∃ m, k = m + 1 := ⟨k - 1, by omega⟩
    obtain rfl : l = [] := List.eq_nil_of_length_eq_zero hl
    simp only [bytes_trimRightByte.l0]
    rw [if_neg (by simp)]
    rfl
  | n + 1, l, hl, hm, k, hk => by
    obtain ⟨k, rfl⟩ : ∃ m, k = m + 1 := ⟨k - 1, by omega⟩
    have e := wrap_pred (n := l.length) (by omega) (by omega)
    have hsp := take_pred l (by omega)
    simp only [bytes_trimRightByte.l0]
    rw [e, if_pos (by omega), if_pos (by omega), if_pos (by omega)]
    have hrd : rd l ((l.length - 1 : Nat) : Int) = l.getD (l.length - 1) 0 := rfl
    by_cases h : l.getD (l.length - 1) 0 = 0
    · rw [if_pos (by rw [hrd]; exact h), if_pos (by omega)]
      have ht : trimr l = trimr (l.take (l.length - 1)) := by
        conv => lhs; rw [← hsp]
        rw [trimr_snoc, if_pos h]
      rw [ht]
      exact trimR_f n _ (by simp; omega) (by omega) k (by omega)
    · rw [if_neg (by rw [hrd]; exact h)]
      have ht : trimr l = l := by
        conv => lhs; rw [← hsp]
        rw [trimr_snoc, if_neg h, hsp]
      rw [ht]

theorem V_of_C {W : World} {A : Option Addr} {c : Nat} {xs : List Int} (h : (Kd.int .u8).C W A xs.length xs) (hc : xs.length ≤ c) : Kd.V (Kd.int .u8) 5 W W.heap.size (fun _ => True) (.slice A xs.length c) xs :=
  Kd.V_mk hc (fun W' hW => Kd.Heap.C (Kd.heap_int .u8) (fun k hk => hW k trivial hk) h)
theorem trimr_le (l : List Int) : (trimr l).length ≤ l.length := by
  unfold trimr
  rw [List.length_reverse]
  have := (List.dropWhile_sublist (fun x : Int => x == 0) (l := l.reverse)).length_le
  simpa using this

set_option maxRecDepth 100000 in
set_option maxHeartbeats 1000000 in
theorem trimRight_calls (A0 : Option Addr) (c0 : Nat) (l0 : List Int) (w : World) (hr0 : Kd.C (Kd.int .u8) w A0 l0.length l0) (hc0 : l0.length ≤ c0) :
    Calls Tryd.prog 61 #[.slice A0 l0.length c0, .string ⟨#[0]⟩] w fun e w' => ∃ A c, e = .returned (.slice A (trimr l0).length c) ∧ (trimr l0).length ≤ c ∧ Kd.C (Kd.int .u8) w' A (trimr l0).length (trimr l0) ∧ Below w.heap.size w w' := by
  have hm := Kd.C_max hr0
  have HC := Aside0.mk (trimR_f l0.length l0 rfl hm (l0.length + 1) (by omega))
  have HR := Aside0.mk hr0
  have HL := Aside0.mk hc0
  clear hr0 hc0 hm
  by_cases h0 : l0.length = 0
  · obtain rfl : l0 = [] := List.eq_nil_of_length_eq_zero h0
    have hb : ((([] : List Int).length : Int) == 0) = true := rfl
    clear h0
    go_enter Tryd.func61, Tryd.ntmps61
    go_wp2
    go_ret
    exact ⟨A0, c0, rfl, by simp [trimr_nil], HR.out, Below.refl _ _⟩
  · have hb : ((l0.length : Int) == 0) = false := by simpa using h0
    have hb' : ¬ (l0 = []) := fun e => h0 (by rw [e]; rfl)
    clear h0
    go_enter Tryd.func61, Tryd.ntmps61
    go_wp2_with (go_at_call 64; refine (bytes_trimRightByte.calls (l0.length + 1) (fun _ => True) A0 c0 l0 0 (trimr l0) _ (V_of_C HR.out HL.out) HC.out).mono ?_; rintro e w1 ⟨v, rfl, hv, hB⟩; obtain ⟨A, c, rfl, hl, hF⟩ := hv)
    go_ret
    exact ⟨A, c, rfl, hl, Kd.F_now hF, hB⟩

def triml (l : List Int) : List Int := l.dropWhile (fun x => x == 0)
theorem trimL_f : ∀ (l : List Int), l.length ≤ 9223372036854775807 → ∀ k, l.length < k → bytes_trimLeftByte.l0 k l 0 = some (triml l)
  | [], _, k, hk => by
    obtain ⟨k, rfl⟩ : ∃ m, k = m + 1 := ⟨k - 1, by omega⟩
    simp only [bytes_trimLeftByte.l0]
    rw [if_neg (by simp)]
    rfl
  | x :: l, hm, k, hk => by
    obtain ⟨k, rfl⟩ : ∃ m, k = m + 1 := ⟨k - 1, by omega⟩
    simp only [List.length_cons] at hm hk
    simp only [bytes_trimLeftByte.l0]
    have hrd : rd (x :: l) 0 = x := rfl
    rw [if_pos (by simp only [List.length_cons]; omega), if_pos (by simp only [List.length_cons]; omega), hrd]
    by_cases h : x = 0
    · rw [if_pos h, if_pos (by simp only [List.length_cons]; omega)]
      have e : triml (x :: l) = triml l := by simp [triml, h]
      rw [e]
      exact trimL_f l (by omega) k (by omega)
    · rw [if_neg h]
      have e : triml (x :: l) = x :: l := by simp [triml, h]
      rw [e, if_neg (by simp only [List.length_cons]; omega)]
theorem dw_all : ∀ l : List Int, (∀ x ∈ l.dropWhile (fun x => x == 0), x = 0) ↔ ∀ x ∈ l, x = 0
  | [] => by simp
  | y :: l => by
    have ih := dw_all l
    by_cases h : y = 0
    · simp only [List.dropWhile_cons, h, beq_self_eq_true, if_true, List.mem_cons, forall_eq_or_imp, true_and]
      exact ih
    · have e : (y :: l).dropWhile (fun x => x == 0) = y :: l := by simp [h]
      rw [e]
theorem dw_nil : ∀ l : List Int, (l.dropWhile (fun x => x == 0)).length = 0 ↔ ∀ x ∈ l, x = 0
  | [] => by simp
  | y :: l => by
    have ih := dw_nil l
    by_cases h : y = 0
    · simp only [List.dropWhile_cons, h, beq_self_eq_true, if_true, List.mem_cons, forall_eq_or_imp, true_and]
      exact ih
    · have e : (y :: l).dropWhile (fun x => x == 0) = y :: l := by simp [h]
      rw [e]
      simp [h]
theorem trim_all (l : List Int) : (triml (trimr l)).length = 0 ↔ ∀ x ∈ l, x = 0 := by
  unfold triml trimr
  rw [dw_nil]
  have h := dw_all l.reverse
  simp only [List.mem_reverse] at h ⊢
  exact h
def header_Blank.f (l : List Int) : Option Bool := some (l.all (fun x => x == 0))
set_option maxRecDepth 100000 in
set_option maxHeartbeats 1000000 in
theorem trim_calls (A0 : Option Addr) (c0 : Nat) (l0 : List Int) (w : World) (hr0 : Kd.C (Kd.int .u8) w A0 l0.length l0) (hc0 : l0.length ≤ c0) :
    Calls Tryd.prog 48 #[.slice A0 l0.length c0, .string ⟨#[0]⟩] w fun e w' => ∃ A c, e = .returned (.slice A (triml (trimr l0)).length c) ∧ Below w.heap.size w w' := by
  have hm := Kd.C_max hr0
  have HC := Aside0.mk (trimR_f l0.length l0 rfl hm (l0.length + 1) (by omega))
  have HC2 := Aside0.mk (trimL_f (trimr l0) (Nat.le_trans (trimr_le l0) hm) ((trimr l0).length + 1) (by omega))
  have HR := Aside0.mk hr0
  have HL := Aside0.mk hc0
  clear hr0 hc0 hm
  by_cases h0 : l0.length = 0
  · obtain rfl : l0 = [] := List.eq_nil_of_length_eq_zero h0
    have hb : ((([] : List Int).length : Int) == 0) = true := rfl
    clear h0
    go_enter Tryd.func48, Tryd.ntmps48
    go_wp2
    go_ret
    exact ⟨none, 0, rfl, Below.refl _ _⟩
  · have hb : ((l0.length : Int) == 0) = false := by simpa using h0
    have hb' : ¬ (l0 = []) := fun e => h0 (by rw [e]; rfl)
    clear h0
    go_enter Tryd.func48, Tryd.ntmps48
    go_wp2
    go_region_with (first
      | (go_at_call 64; refine (bytes_trimRightByte.calls (l0.length + 1) (fun _ => True) A0 c0 l0 0 (trimr l0) _ (V_of_C (Kd.C_drew HR.out) HL.out) HC.out).mono ?_; rintro e w1 ⟨v, rfl, hv, hB⟩; obtain ⟨A, c, rfl, hl, hF⟩ := hv; have HF := Aside0.mk hF; have HB1 := Aside0.mk hB; have HL1 := Aside0.mk hl; clear hF hB hl)
      | (go_at_call 63; refine (bytes_trimLeftByte.calls ((trimr l0).length + 1) (fun _ => True) A c (trimr l0) 0 (triml (trimr l0)) _ (V_of_C (Kd.F_now HF.out) HL1.out) HC2.out).mono ?_; rintro e w2 ⟨v2, rfl, hv2, hB2⟩; obtain ⟨A2, c2, rfl, hl2, hF2⟩ := hv2; have HF2 := Aside0.mk hF2; have HB2 := Aside0.mk hB2; clear hF2 hB2 hl2))
    all_goals (go_wp2; go_ret; exact ⟨_, _, rfl, below_then (below_drew (Below.refl _ _)) (Nat.le_refl _) (below_then HB1.out (HB1.out.size) HB2.out)⟩)

set_option maxRecDepth 100000 in
theorem header_Blank.calls (A0 : Option Addr) (c0 : Nat) (l0 : List Int) (r : Bool) (w : World) (hr0 : Kd.C (Kd.int .u8) w A0 l0.length l0) (hc0 : l0.length ≤ c0) (h : header_Blank.f l0 = some r) :
    Calls Tryd.prog 24 #[.slice A0 l0.length c0] w fun e w' => e = .returned (.bool r) ∧ Below w.heap.size w w' := by
  have hr : ((((triml (trimr l0)).length : Nat) : Int) == 0) = r := by
    injection h with h
    rw [← h]
    by_cases ha : ∀ x ∈ l0, x = 0
    · have e1 := (trim_all l0).2 ha
      have e2 : l0.all (fun x => x == 0) = true := by
        rw [List.all_eq_true]
        intro x hx; simpa using ha x hx
      rw [e1, e2]
      rfl
    · have e1 : ¬ (triml (trimr l0)).length = 0 := fun e => ha ((trim_all l0).1 e)
      have e2 : l0.all (fun x => x == 0) = false := by
        rw [Bool.eq_false_iff]
        intro e
        rw [List.all_eq_true] at e
        exact ha (fun x hx => by simpa using e x hx)
      rw [e2]
      simpa using e1
  have HH := Aside0.mk (trim_calls A0 c0 l0 w hr0 hc0)
  clear h hr0 hc0
  go_enter Tryd.func24, Tryd.ntmps24
  go_wp2_with (go_at_call 48; refine HH.out.mono ?_; rintro e w1 ⟨A, c, rfl, hB⟩)
  go_ret
  exact ⟨rfl, hB⟩

set_option maxRecDepth 100000 in
theorem indexByte_any (A : Option Addr) (c : Nat) (l : List Int) (cv : Int) (w : World) (hr : (Kd.int .u8).C w A l.length l) :
    Calls Tryd.prog 62 #[.slice A l.length c, .int .u8 cv] w fun e w' => e = .returned (.int .i64 (Lib.indexByte (Lib.bytesOf l) cv.toNat.toUInt8)) ∧ w' = w := by
  cases A with
  | some a =>
    refine Tryd.bytes_IndexByte_at a l.length c l cv w rfl (fun i hi => ?_)
    obtain ⟨ad, e, h⟩ := Kd.at_int hr i (by omega) (by omega)
    injection e with e
    subst e
    exact h
  | none =>
    have h0 : l.length = 0 := by
      rcases Nat.eq_zero_or_pos l.length with h | h
      · exact h
      · obtain ⟨ad, e, _⟩ := hr.2.2 h
        cases e
    obtain rfl : l = [] := List.eq_nil_of_length_eq_zero h0
    clear h0 hr
    go_enter Tryd.func62, Tryd.ntmps62
    go_wp2
    rw [run_callFunc_extern Tryd.func76 (by kernel_rfl) (by kernel_rfl) (by kernel_rfl) (e := Extern.BytealgIndexByte.indexByte) (by kernel_rfl), Lib.run_indexByteNil w _ c cv]
    simp only [Result.andThen]
    rw [Oper.upon_value]
    go_wp2
    go_ret
    exact ⟨rfl, rfl⟩
/-- is there a 0? -/
theorem indexByte_zero : ∀ (l : List Int), (∀ x ∈ l, 0 ≤ x ∧ x < 256) → (0 ≤ Lib.indexByte (Lib.bytesOf l) 0 ↔ (0 : Int) ∈ l)
  | [], _ => by simp [Lib.bytesOf, Lib.indexByte]
  | x :: l, h => by
    have ih := indexByte_zero l (fun y hy => h y (.tail _ hy))
    have hx := h x (.head _)
    have e : Lib.bytesOf (x :: l) = UInt8.ofNat x.toNat :: Lib.bytesOf l := rfl
    rw [e]
    unfold Lib.indexByte
    by_cases h0 : x = 0
    · subst h0
      simp
    · have hne : (UInt8.ofNat x.toNat == 0) = false := by
        rw [beq_eq_false_iff_ne]
        intro e
        have := congrArg UInt8.toNat e
        simp at this
        omega
      rw [hne]
      simp only [Bool.false_eq_true, if_false, List.mem_cons]
      by_cases h1 : Lib.indexByte (Lib.bytesOf l) 0 = -1
      · rw [h1] at ih ⊢
        simp only [beq_self_eq_true, if_true]
        constructor
        · intro h; omega
        · rintro (h | h)
          · exact absurd h.symm h0
          · exact ih.2 h
      · have hge : (Lib.indexByte (Lib.bytesOf l) 0 == -1) = false := by simpa using h1
        rw [hge]
        simp only [Bool.false_eq_true, if_false]
        have hlow : -1 ≤ Lib.indexByte (Lib.bytesOf l) 0 := by
          have : ∀ (m : List UInt8), -1 ≤ Lib.indexByte m 0 := by
            intro m
            induction m with
            | nil => simp [Lib.indexByte]
            | cons a m ihm => unfold Lib.indexByte; split; · omega
                              · split <;> omega
          exact this _
        constructor
        · intro _
          exact .inr (ih.1 (by omega))
        · rintro (h | h)
          · exact absurd h.symm h0
          · have := ih.2 h; omega

def octal_Name.f (l : List Int) : Option (ByteArray × Int) :=
  if l.all (fun x => decide (0 ≤ x ∧ x < 256)) = true then some (if (trimr l).contains 0 = true then (⟨#[]⟩, 2) else (strOfNums (trimr l), 0)) else none
theorem trimr_mem {l : List Int} {x : Int} (h : x ∈ trimr l) : x ∈ l := by
  unfold trimr at h
  rw [List.mem_reverse] at h
  have := (List.dropWhile_sublist (fun x : Int => x == 0) (l := l.reverse)).subset h
  simpa using this
set_option maxRecDepth 100000 in
theorem octal_Name.calls (A0 : Option Addr) (c0 : Nat) (l0 : List Int) (r1 : ByteArray) (r2 : Int) (w : World) (hr0 : Kd.C (Kd.int .u8) w A0 l0.length l0) (hc0 : l0.length ≤ c0) (h : octal_Name.f l0 = some (r1, r2)) :
    Calls Tryd.prog 41 #[.slice A0 l0.length c0] w fun e w' => e = .returned (.tuple #[.string r1, .int .i64 r2]) ∧ Below w.heap.size w w' := by
  unfold octal_Name.f at h
  split at h
  · rename_i hall
    injection h with h
    have hz := indexByte_zero (trimr l0) (fun x hx => by simpa using (List.all_eq_true.1 hall) x (trimr_mem hx))
    have HH := Aside0.mk (trimRight_calls A0 c0 l0 w hr0 hc0)
    clear hr0 hc0 hall
    by_cases h0 : (trimr l0).contains 0 = true
    · rw [if_pos h0] at h
      simp only [Prod.mk.injEq] at h
      obtain ⟨rfl, rfl⟩ := h
      have hd : decide (0 ≤ Lib.indexByte (Lib.bytesOf (trimr l0)) 0) = true := decide_eq_true (hz.2 (by simpa using h0))
      clear hz h0
      obtain ⟨y, hy⟩ : ∃ y, trimr l0 = y := ⟨_, rfl⟩
      rw [hy] at HH hd
      clear hy
      obtain ⟨z, hz⟩ : ∃ z, Lib.indexByte (Lib.bytesOf y) 0 = z := ⟨_, rfl⟩
      rw [hz] at hd
      have HZ := Aside0.mk hz
      clear hz
      go_enter Tryd.func41, Tryd.ntmps41
      go_wp2_with (first
        | (go_at_call 61; refine HH.out.mono ?_; rintro e w1 ⟨A, c, rfl, hl, hC, hB⟩; have HB := Aside0.mk hB; have HC := Aside0.mk hC; clear hB hC hl)
        | (go_at_call 62; refine (indexByte_any A c y 0 w1 HC.out).mono ?_; rintro e w2 ⟨rfl, rfl⟩; rw [show Lib.indexByte (Lib.bytesOf y) (0 : Int).toNat.toUInt8 = z from HZ.out]))
      go_ret2
      exact ⟨rfl, HB.out⟩
    · rw [if_neg h0] at h
      simp only [Prod.mk.injEq] at h
      obtain ⟨rfl, rfl⟩ := h
      have hd : decide (0 ≤ Lib.indexByte (Lib.bytesOf (trimr l0)) 0) = false := decide_eq_false (fun e => h0 (by simpa using hz.1 e))
      clear hz h0
      obtain ⟨y, hy⟩ : ∃ y, trimr l0 = y := ⟨_, rfl⟩
      rw [hy] at HH hd ⊢
      clear hy
      obtain ⟨z, hz⟩ : ∃ z, Lib.indexByte (Lib.bytesOf y) 0 = z := ⟨_, rfl⟩
      rw [hz] at hd
      have HZ := Aside0.mk hz
      clear hz
      go_enter Tryd.func41, Tryd.ntmps41
      go_wp2_with (first
        | (go_at_call 61; refine HH.out.mono ?_; rintro e w1 ⟨A, c, rfl, hl, hC, hB⟩; have HB := Aside0.mk hB; have HC := Aside0.mk hC; have hcv := Kd.C_string (P := Tryd.prog) (A := A) (c := c) Tryd.underlying22 Tryd.underlying5 Tryd.underlying9 hC; clear hB hC hl)
        | (go_at_call 62; refine (indexByte_any A c y 0 w1 HC.out).mono ?_; rintro e w2 ⟨rfl, rfl⟩; rw [show Lib.indexByte (Lib.bytesOf y) (0 : Int).toNat.toUInt8 = z from HZ.out]))
      go_ret2
      exact ⟨rfl, HB.out⟩
  · cases h
end Go.Proofs.YtkcmkgkkddgicaaDoor.R
