/- Texts of this claim joined in one. -/
import Derived.Test.YtkcmkgkkddgicaaDoorQBase
import Derived.Test.YtkcmkgkkddgicaaDoorQSplit
import Derived.Test.YtkcmkgkkddgicaaDoorQHead
import Derived.Test.YtkcmkgkkddgicaaDoorQOct
namespace Go.Proofs.YtkcmkgkkddgicaaDoor.R
open Go.RowKit Go.Proofs.YtkcmkgkkddgicaaDoorW.PrintWords Go.Proofs.YtkcmkgkkddgicaaDoorW.PrintLast Go.Proofs.YtkcmkgkkddgicaaDoorW.PrintMore
attribute [local go_sem] max2_int min2_int max_two min_two max_three min_three max_four min_four   -- for this text's walks alone
set_option linter.unusedVariables false
set_option linter.unusedSimpArgs false

/-! ### header_Get: function 19 -/
def header_Get.j0 : Nat → List Int → Int → ByteArray → Bool → Option (ByteArray × Int × Int)
  | 0, _, _, _, _ => none
  | k + 1, x0, x9, x11, x55 => if x55 = true then (some ((⟨#[]⟩ : ByteArray), 0, 2)) else ((header_Put.f x11 x9).bind fun bt140 => (if bt140.2 = 0 then ((bytes_Equal.f bt140.1 x0).bind fun t144 => (if t144 = true then (some (x11, x9, 0)) else (some ((⟨#[]⟩ : ByteArray), 0, 2)))) else (some ((⟨#[]⟩ : ByteArray), 0, 2))))
def header_Get.f (k : Nat) (l0 : List Int) : Option (ByteArray × Int × Int) := if (l0.length : Int) < 512 then (some ((⟨#[]⟩ : ByteArray), 0, 3)) else (if 100 ≤ (l0.length : Int) then ((octal_Name.f (l0.take 100)).bind fun bt130 => (if 345 ≤ 500 then (if 500 ≤ (l0.length : Int) then ((octal_Name.f ((l0.take 500).drop 345)).bind fun bt133 => (if 124 ≤ 136 then (if 136 ≤ (l0.length : Int) then ((octal_Get.f k ((l0.take 136).drop 124)).bind fun bt136 => ((path_Join.f bt133.1 bt130.1).bind fun bt138 => (if bt130.2 = 0 then (if bt133.2 = 0 then (if bt136.2 = 0 then (header_Get.j0 k l0 bt136.1 bt138.1 (bt138.2 != 0)) else (header_Get.j0 k l0 bt136.1 bt138.1 true)) else (header_Get.j0 k l0 bt136.1 bt138.1 true)) else (header_Get.j0 k l0 bt136.1 bt138.1 true)))) else (none)) else (none))) else (none)) else (none))) else (none))
theorem header_Get.mono_l : ∀ k, (∀ y0 y1 y2 y3, LeO (header_Get.j0 k y0 y1 y2 y3) (header_Get.j0 (k + 1) y0 y1 y2 y3))
  | 0 => fun _ _ _ _ r h => by simp [header_Get.j0] at h
  | k + 1 => by
    have ih0 := header_Get.mono_l k
    · intro y0 y1 y2 y3
      unfold header_Get.j0
      repeat' first
      | (with_reducible exact ih0 _ _ _ _)
      | (with_reducible exact octal_Get.mono _ _)
      | (with_reducible exact LeO.refl _)
      | (with_reducible exact LeO.none _)
      | (with_reducible refine LeO.ite ?_ ?_)
      | (with_reducible refine LeO.bind ?_ (fun _ => ?_))
      | exact ih0 _ _ _ _
      | exact octal_Get.mono _ _
      | exact LeO.none _
      | refine LeO.ite ?_ ?_
      | refine LeO.bind ?_ (fun _ => ?_)
theorem header_Get.mono : ∀ a0 k, LeO (header_Get.f k a0) (header_Get.f (k + 1) a0) := by
  intro a0 k
  have ih0 := header_Get.mono_l k
  unfold header_Get.f
  repeat' first
      | (with_reducible exact ih0 _ _ _ _)
      | (with_reducible exact octal_Get.mono _ _)
      | (with_reducible exact LeO.refl _)
      | (with_reducible exact LeO.none _)
      | (with_reducible refine LeO.ite ?_ ?_)
      | (with_reducible refine LeO.bind ?_ (fun _ => ?_))
      | exact ih0 _ _ _ _
      | exact octal_Get.mono _ _
      | exact LeO.none _
      | refine LeO.ite ?_ ?_
      | refine LeO.bind ?_ (fun _ => ?_)
set_option maxHeartbeats 8000000 in
set_option maxRecDepth 100000 in
theorem header_Get.calls (k : Nat) (A0 : Option Addr) (c0 : Nat) (l0 : List Int) (r1 : ByteArray) (r2 : Int) (r3 : Int) (w : World) (hr0 : Kd.C (Kd.int .u8) w A0 l0.length l0) (hc0 : l0.length ≤ c0) (h : header_Get.f k l0 = some (r1, r2, r3)) :
    Calls Tryd.prog 19 #[.slice A0 l0.length c0] w fun e w' => e = .returned (.tuple #[.string r1, .int .i64 r2, .int .i64 r3]) ∧ Below w.heap.size w w' := by
  have HR0 := Aside0.mk hr0
  have HC0 := Aside0.mk hc0
  clear hr0 hc0
  have HB := Aside0.mk (Below.refl w.heap.size w)
  have H : (if (l0.length : Int) < 512 then (some ((⟨#[]⟩ : ByteArray), 0, 3)) else (if 100 ≤ (l0.length : Int) then ((octal_Name.f (l0.take 100)).bind fun bt130 => (if 345 ≤ 500 then (if 500 ≤ (l0.length : Int) then ((octal_Name.f ((l0.take 500).drop 345)).bind fun bt133 => (if 124 ≤ 136 then (if 136 ≤ (l0.length : Int) then ((octal_Get.f k ((l0.take 136).drop 124)).bind fun bt136 => ((path_Join.f bt133.1 bt130.1).bind fun bt138 => (if bt130.2 = 0 then (if bt133.2 = 0 then (if bt136.2 = 0 then (header_Get.j0 k l0 bt136.1 bt138.1 (bt138.2 != 0)) else (header_Get.j0 k l0 bt136.1 bt138.1 true)) else (header_Get.j0 k l0 bt136.1 bt138.1 true)) else (header_Get.j0 k l0 bt136.1 bt138.1 true)))) else (none)) else (none))) else (none)) else (none))) else (none))) = some (r1, r2, r3) := h
  clear h
  by_cases c2 : (l0.length : Int) < 512
  · rw [if_pos c2] at H
    have c2b0 : decide ((l0.length : Int) < 512) = true := decide_eq_true c2
    have c2b1 : decide (l0.length < 512) = true := decide_eq_true (by omega)
    clear c2
    simp only [Option.some.injEq, Prod.mk.injEq] at H
    obtain ⟨rfl, rfl, rfl⟩ := H
    go_enter Tryd.func19, Tryd.ntmps19
    go_wp2
    go_ret3
    exact ⟨by first | rfl | (simp [errW_none, errW_some] <;> rfl) | (simp [*, errW_none, errW_some] <;> rfl), by repeat (first | (with_reducible first | exact HB.out | apply below_alloc | apply pw_below_drewN | apply below_drew1) | exact HB.out)⟩
  · rw [if_neg c2] at H
    have c2b0 : decide ((l0.length : Int) < 512) = false := decide_eq_false c2
    have c2b1 : decide (l0.length < 512) = false := decide_eq_false (by omega)
    clear c2
    by_cases c3 : 100 ≤ (l0.length : Int)
    · rw [if_pos c3] at H
      have c3b0 := eq_true c3
      have c3b1 : decide (100 ≤ (l0.length : Int)) = true := decide_eq_true c3
      clear c3
      replace H := Option.bind_eq_some_iff.mp H
      obtain ⟨⟨t130, t131⟩, A40, H⟩ := H
      replace H : (if 345 ≤ 500 then (if 500 ≤ (l0.length : Int) then ((octal_Name.f ((l0.take 500).drop 345)).bind fun bt133 => (if 124 ≤ 136 then (if 136 ≤ (l0.length : Int) then ((octal_Get.f k ((l0.take 136).drop 124)).bind fun bt136 => ((path_Join.f bt133.1 t130).bind fun bt138 => (if t131 = 0 then (if bt133.2 = 0 then (if bt136.2 = 0 then (header_Get.j0 k l0 bt136.1 bt138.1 (bt138.2 != 0)) else (header_Get.j0 k l0 bt136.1 bt138.1 true)) else (header_Get.j0 k l0 bt136.1 bt138.1 true)) else (header_Get.j0 k l0 bt136.1 bt138.1 true)))) else (none)) else (none))) else (none)) else (none)) = some (r1, r2, r3) := H
      have A4 := Aside0.mk A40
      clear A40
      by_cases c5 : 345 ≤ 500
      · rw [if_pos c5] at H
        have c5b0 := eq_true c5
        have c5b1 : decide (345 ≤ 500) = true := decide_eq_true c5
        clear c5
        by_cases c6 : 500 ≤ (l0.length : Int)
        · rw [if_pos c6] at H
          have c6b0 := eq_true c6
          have c6b1 : decide (500 ≤ (l0.length : Int)) = true := decide_eq_true c6
          clear c6
          replace H := Option.bind_eq_some_iff.mp H
          obtain ⟨⟨t133, t134⟩, A70, H⟩ := H
          replace H : (if 124 ≤ 136 then (if 136 ≤ (l0.length : Int) then ((octal_Get.f k ((l0.take 136).drop 124)).bind fun bt136 => ((path_Join.f t133 t130).bind fun bt138 => (if t131 = 0 then (if t134 = 0 then (if bt136.2 = 0 then (header_Get.j0 k l0 bt136.1 bt138.1 (bt138.2 != 0)) else (header_Get.j0 k l0 bt136.1 bt138.1 true)) else (header_Get.j0 k l0 bt136.1 bt138.1 true)) else (header_Get.j0 k l0 bt136.1 bt138.1 true)))) else (none)) else (none)) = some (r1, r2, r3) := H
          have A7 := Aside0.mk A70
          clear A70
          by_cases c8 : 124 ≤ 136
          · rw [if_pos c8] at H
            have c8b0 := eq_true c8
            have c8b1 : decide (124 ≤ 136) = true := decide_eq_true c8
            clear c8
            by_cases c9 : 136 ≤ (l0.length : Int)
            · rw [if_pos c9] at H
              have c9b0 := eq_true c9
              have c9b1 : decide (136 ≤ (l0.length : Int)) = true := decide_eq_true c9
              clear c9
              replace H := Option.bind_eq_some_iff.mp H
              obtain ⟨⟨t136, t137⟩, A100, H⟩ := H
              replace H : ((path_Join.f t133 t130).bind fun bt138 => (if t131 = 0 then (if t134 = 0 then (if t137 = 0 then (header_Get.j0 k l0 t136 bt138.1 (bt138.2 != 0)) else (header_Get.j0 k l0 t136 bt138.1 true)) else (header_Get.j0 k l0 t136 bt138.1 true)) else (header_Get.j0 k l0 t136 bt138.1 true))) = some (r1, r2, r3) := H
              have A10 := Aside0.mk A100
              clear A100
              replace H := Option.bind_eq_some_iff.mp H
              obtain ⟨⟨t138, t139⟩, A110, H⟩ := H
              replace H : (if t131 = 0 then (if t134 = 0 then (if t137 = 0 then (header_Get.j0 k l0 t136 t138 (t139 != 0)) else (header_Get.j0 k l0 t136 t138 true)) else (header_Get.j0 k l0 t136 t138 true)) else (header_Get.j0 k l0 t136 t138 true)) = some (r1, r2, r3) := H
              have A11 := Aside0.mk A110
              clear A110
              have HC12 := Aside0.mk H
              clear H
              obtain ⟨i013, hi013, _, hsz13, _⟩ := info_parts info5
              obtain ⟨hcut13, hA13, hC13⟩ := print_take_of (P := Tryd.prog) (Value.int .u8) 0 22 5 .i64 Tryd.underlying22 hi013 hsz13 A0 c0 l0 100 (by omega) (of_decide_eq_true (by first | (with_reducible assumption) | assumption)) HC0.out
              have HR129 := Aside0.mk (Kd.C_of_reads (h1 := fun _ => rfl) (hA13 _ (Kd.reads_of_C HR0.out)))
              have HC129 := Aside0.mk hC13
              clear hA13 hC13 hi013 hsz13
              go_enter Tryd.func19, Tryd.ntmps19
              go_upto_region 7 with (first | ((with_reducible refine gate_callee (f := 41) rfl ?_); refine goesL_ (some 21) rfl rfl Tryd.func41 (by kernel_rfl) rfl #[.slice A0 (l0.take 100).length c0] rfl (by (try simp only [List.map_toArray, List.map_cons, List.map_nil]); first | done | (rw [show (l0.take 100).length = 100 from (by rw [List.length_take]; have h_ : (100 : Int) ≤ (l0.length : Int) := of_decide_eq_true (by first | (with_reducible assumption) | assumption); omega)] <;> rfl) | rfl | (simp only [List.length_drop, List.length_take]; rfl)) ?_; (with_reducible refine (octal_Name.calls _ _ (l0.take 100) t130 t131 _ ?side1 ?side2 A4.out).mono ?_); (case side1 => repeat (first | exact HR129.out | (with_reducible refine Kd.C_alloc ?_ _) | (with_reducible refine Kd.C_drewN ?_ _) | (with_reducible refine Kd.C_drew ?_))); (case side2 => exact HC129.out); rintro e w14 ⟨rfl, hb⟩; refine ⟨_, rfl, ?_⟩; have n0_ := Aside0.mk (below_step (by repeat (first | (with_reducible first | exact HB.out | apply below_alloc | apply pw_below_drewN | apply below_drew1) | exact HB.out)) hb); clear HB; have HB := n0_; clear n0_; (try clear hb); (try clear hb2); (try clear hk); (try clear hi); obtain ⟨i015, hi015, _, hsz15, _⟩ := info_parts info5; obtain ⟨A15, hcut15, hA15, hC15⟩ := print_mid_of (P := Tryd.prog) (Value.int .u8) 0 22 5 .i64 .i64 Tryd.underlying22 hi015 hsz15 A0 c0 l0 345 500 (by omega) (by first | omega | exact of_decide_eq_true (by first | (with_reducible assumption) | assumption)) (of_decide_eq_true (by first | (with_reducible assumption) | assumption)) HC0.out; have HR132 := Aside0.mk (Kd.C_of_reads (h1 := fun _ => rfl) (hA15 _ (Kd.reads_of_C HR0.out))); have HC132 := Aside0.mk hC15; clear hA15 hC15 hi015 hsz15) | ((with_reducible refine gate_callee (f := 41) rfl ?_); refine goesL_ (some 27) rfl rfl Tryd.func41 (by kernel_rfl) rfl #[.slice A15 ((l0.take 500).drop 345).length (c0 - 345)] rfl (by (try simp only [List.map_toArray, List.map_cons, List.map_nil]); first | done | (rw [show ((l0.take 500).drop 345).length = (500 - 345) from (by rw [List.length_drop, List.length_take]; have h_ : (500 : Int) ≤ (l0.length : Int) := of_decide_eq_true (by first | (with_reducible assumption) | assumption); omega)] <;> rfl) | rfl | (simp only [List.length_drop, List.length_take]; rfl)) ?_; (with_reducible refine (octal_Name.calls _ _ ((l0.take 500).drop 345) t133 t134 _ ?side1 ?side2 A7.out).mono ?_); (case side1 => repeat (first | exact (Kd.C_below HR132.out HB.out) | (with_reducible refine Kd.C_alloc ?_ _) | (with_reducible refine Kd.C_drewN ?_ _) | (with_reducible refine Kd.C_drew ?_))); (case side2 => exact HC132.out); rintro e w16 ⟨rfl, hb⟩; refine ⟨_, rfl, ?_⟩; have n0_ := Aside0.mk (below_step (by repeat (first | (with_reducible first | exact HB.out | apply below_alloc | apply pw_below_drewN | apply below_drew1) | exact HB.out)) hb); clear HB; have HB := n0_; clear n0_; (try clear hb); (try clear hb2); (try clear hk); (try clear hi); obtain ⟨i017, hi017, _, hsz17, _⟩ := info_parts info5; obtain ⟨A17, hcut17, hA17, hC17⟩ := print_mid_of (P := Tryd.prog) (Value.int .u8) 0 22 5 .i64 .i64 Tryd.underlying22 hi017 hsz17 A0 c0 l0 124 136 (by omega) (by first | omega | exact of_decide_eq_true (by first | (with_reducible assumption) | assumption)) (of_decide_eq_true (by first | (with_reducible assumption) | assumption)) HC0.out; have HR135 := Aside0.mk (Kd.C_of_reads (h1 := fun _ => rfl) (hA17 _ (Kd.reads_of_C HR0.out))); have HC135 := Aside0.mk hC17; clear hA17 hC17 hi017 hsz17) | ((with_reducible refine gate_callee (f := 42) rfl ?_); refine goesL_ (some 33) rfl rfl Tryd.func42 (by kernel_rfl) rfl #[.slice A17 ((l0.take 136).drop 124).length (c0 - 124)] rfl (by (try simp only [List.map_toArray, List.map_cons, List.map_nil]); first | done | (rw [show ((l0.take 136).drop 124).length = (136 - 124) from (by rw [List.length_drop, List.length_take]; have h_ : (136 : Int) ≤ (l0.length : Int) := of_decide_eq_true (by first | (with_reducible assumption) | assumption); omega)] <;> rfl) | rfl | (simp only [List.length_drop, List.length_take]; rfl)) ?_; (with_reducible refine (octal_Get.calls k _ _ ((l0.take 136).drop 124) t136 t137 _ ?side1 ?side2 A10.out).mono ?_); (case side1 => repeat (first | exact (Kd.C_below HR135.out HB.out) | (with_reducible refine Kd.C_alloc ?_ _) | (with_reducible refine Kd.C_drewN ?_ _) | (with_reducible refine Kd.C_drew ?_))); (case side2 => exact HC135.out); rintro e w' ⟨rfl, ⟨nd, rfl⟩⟩; refine ⟨_, rfl, ?_⟩) | ((with_reducible refine gate_callee (f := 43) rfl ?_); refine goesL_ (some 39) rfl rfl Tryd.func43 (by kernel_rfl) rfl #[.string t133, .string t130] rfl (by (try simp only [List.map_toArray, List.map_cons, List.map_nil]); first | done | rfl | (simp only [List.length_drop, List.length_take]; rfl)) ?_; (with_reducible refine (path_Join.calls t133 t130 t138 t139 _ A11.out).mono ?_); rintro e w18 ⟨rfl, hb⟩; refine ⟨_, rfl, ?_⟩; have n0_ := Aside0.mk (below_step (by repeat (first | (with_reducible first | exact HB.out | apply below_alloc | apply pw_below_drewN | apply below_drew1) | exact HB.out)) hb); clear HB; have HB := n0_; clear n0_; (try clear hb); (try clear hb2); (try clear hk); (try clear hi)))
              (try simp only [Act.put, List.setIfInBounds_toArray, List.set_cons_zero, List.set_cons_succ])
              go_cut [55] (fun v55 wc => ∃ (kq : Nat) (x55_11 : Bool), v55 = .bool x55_11 ∧ Aside0 (header_Get.j0 kq l0 t136 t138 x55_11 = some (r1, r2, r3)) ∧ Aside0 (kq ≤ k) ∧ Aside0 (Below w.heap.size w wc))
              case first =>
                have H := HC12.out
                clear HC12
                by_cases c19 : t131 = 0
                · rw [if_pos c19] at H
                  have c19b0 : (t131 == 0) = true := beq_iff_eq.mpr c19
                  have c19b1 : (t131 != 0) = false := bne_eq_false_iff_eq.mpr c19
                  clear c19
                  (first | rw [c19b0] | (simp only [i64_w, i32_w]; rw [c19b0]) | skip)
                  by_cases c20 : t134 = 0
                  · rw [if_pos c20] at H
                    have c20b0 : (t134 == 0) = true := beq_iff_eq.mpr c20
                    have c20b1 : (t134 != 0) = false := bne_eq_false_iff_eq.mpr c20
                    clear c20
                    by_cases c21 : t137 = 0
                    · rw [if_pos c21] at H
                      have c21b0 : (t137 == 0) = true := beq_iff_eq.mpr c21
                      have c21b1 : (t137 != 0) = false := bne_eq_false_iff_eq.mpr c21
                      clear c21
                      have H' := Aside0.mk H
                      clear H
                      go_wp2
                      go_meet
                      case rel => exact ⟨_, ((t139 != 0)), (by first | rfl | (simp; done) | (simp [*]; done)), H', ⟨by first | omega | exact Nat.le_refl _⟩, ⟨by repeat (first | (with_reducible first | exact HB.out | apply below_alloc | apply pw_below_drewN | apply below_drew1) | exact HB.out)⟩⟩
                    · rw [if_neg c21] at H
                      have c21b0 : (t137 == 0) = false := beq_eq_false_iff_ne.mpr c21
                      have c21b1 : (t137 != 0) = true := bne_iff_ne.mpr c21
                      have H' := Aside0.mk H
                      clear H
                      go_wp2
                      go_meet
                      case rel => exact ⟨_, (true), (by first | rfl | (simp; done) | (simp [*]; done)), H', ⟨by first | omega | exact Nat.le_refl _⟩, ⟨by repeat (first | (with_reducible first | exact HB.out | apply below_alloc | apply pw_below_drewN | apply below_drew1) | exact HB.out)⟩⟩
                  · rw [if_neg c20] at H
                    have c20b0 : (t134 == 0) = false := beq_eq_false_iff_ne.mpr c20
                    have c20b1 : (t134 != 0) = true := bne_iff_ne.mpr c20
                    have H' := Aside0.mk H
                    clear H
                    go_wp2
                    go_meet
                    case rel => exact ⟨_, (true), (by first | rfl | (simp; done) | (simp [*]; done)), H', ⟨by first | omega | exact Nat.le_refl _⟩, ⟨by repeat (first | (with_reducible first | exact HB.out | apply below_alloc | apply pw_below_drewN | apply below_drew1) | exact HB.out)⟩⟩
                · rw [if_neg c19] at H
                  have c19b0 : (t131 == 0) = false := beq_eq_false_iff_ne.mpr c19
                  have c19b1 : (t131 != 0) = true := bne_iff_ne.mpr c19
                  (first | rw [c19b0] | (simp only [i64_w, i32_w]; rw [c19b0]) | skip)
                  have H' := Aside0.mk H
                  clear H
                  go_wp2
                  go_meet
                  case rel => exact ⟨_, (true), (by first | rfl | (simp; done) | (simp [*]; done)), H', ⟨by first | omega | exact Nat.le_refl _⟩, ⟨by repeat (first | (with_reducible first | exact HB.out | apply below_alloc | apply pw_below_drewN | apply below_drew1) | exact HB.out)⟩⟩
              case rest =>
                clear HC12
                try clear c1
                try clear c2
                try clear c2b0
                try clear c2b1
                try clear p2
                try clear c3
                try clear c3b0
                try clear c3b1
                try clear c4
                try clear c5
                try clear c5b0
                try clear c5b1
                try clear c6
                try clear c6b0
                try clear c6b1
                try clear c8
                try clear c8b0
                try clear c8b1
                try clear c9
                try clear c9b0
                try clear c9b1
                try clear c19
                try clear c19b0
                try clear c19b1
                try clear c20
                try clear c20b0
                try clear c20b1
                try clear c21
                try clear c21b0
                try clear c21b1
                obtain ⟨kq, x55_11, rfl, HA, HJ11, HB⟩ := hcut
                cases kq with
                | zero => exact absurd HA.out (by simp [header_Get.j0])
                | succ kj11 =>
                  have H := HA.out
                  clear HA
                  simp only [header_Get.j0] at H
                  by_cases c22 : x55_11 = true
                  · subst c22
                    have H1 : (some ((⟨#[]⟩ : ByteArray), 0, 2)) = some (r1, r2, r3) := by rw [if_pos rfl] at H; exact H
                    clear H
                    have H := H1
                    clear H1
                    simp only [Option.some.injEq, Prod.mk.injEq] at H
                    obtain ⟨rfl, rfl, rfl⟩ := H
                    go_wp2
                    go_ret3
                    exact ⟨by first | rfl | (simp [errW_none, errW_some] <;> rfl) | (simp [*, errW_none, errW_some] <;> rfl), by repeat (first | (with_reducible first | exact HB.out | apply below_alloc | apply pw_below_drewN | apply below_drew1) | exact HB.out)⟩
                  · replace c22 := Bool.eq_false_iff.mpr c22
                    subst c22
                    have H1 : ((header_Put.f t138 t136).bind fun bt140 => (if bt140.2 = 0 then ((bytes_Equal.f bt140.1 l0).bind fun t144 => (if t144 = true then (some (t138, t136, 0)) else (some ((⟨#[]⟩ : ByteArray), 0, 2)))) else (some ((⟨#[]⟩ : ByteArray), 0, 2)))) = some (r1, r2, r3) := by rw [if_neg (show ¬ (false = true) by decide)] at H; exact H
                    clear H
                    have H := H1
                    clear H1
                    replace H := Option.bind_eq_some_iff.mp H
                    obtain ⟨⟨t140, t141⟩, A230, H⟩ := H
                    replace H : (if t141 = 0 then ((bytes_Equal.f t140 l0).bind fun t144 => (if t144 = true then (some (t138, t136, 0)) else (some ((⟨#[]⟩ : ByteArray), 0, 2)))) else (some ((⟨#[]⟩ : ByteArray), 0, 2))) = some (r1, r2, r3) := H
                    have A23 := Aside0.mk A230
                    clear A230
                    by_cases c24 : t141 = 0
                    · rw [if_pos c24] at H
                      have c24b0 : (t141 == 0) = true := beq_iff_eq.mpr c24
                      have c24b1 : (t141 != 0) = false := bne_eq_false_iff_eq.mpr c24
                      clear c24
                      replace H := Option.bind_eq_some_iff.mp H
                      obtain ⟨t144, A250, H⟩ := H
                      replace H : (if t144 = true then (some (t138, t136, 0)) else (some ((⟨#[]⟩ : ByteArray), 0, 2))) = some (r1, r2, r3) := H
                      have A25 := Aside0.mk A250
                      clear A250
                      by_cases c26 : t144 = true
                      · subst c26
                        have H1 : (some (t138, t136, 0)) = some (r1, r2, r3) := by rw [if_pos rfl] at H; exact H
                        clear H
                        have H := H1
                        clear H1
                        simp only [Option.some.injEq, Prod.mk.injEq] at H
                        obtain ⟨rfl, rfl, rfl⟩ := H
                        go_wp2_with (first | ((with_reducible refine gate_callee (f := 17) rfl ?_); refine goesL_ (some 59) rfl rfl Tryd.func17 (by kernel_rfl) rfl #[.string t138, .int .i64 t136] rfl (by (try simp only [List.map_toArray, List.map_cons, List.map_nil]); first | done | rfl | (simp only [List.length_drop, List.length_take]; rfl)) ?_; (with_reducible refine (header_Put.calls t138 t136 t140 t141 _ A23.out).mono ?_); rintro e w27 ⟨v142, rfl, ho0, hb⟩; refine ⟨_, rfl, ?_⟩; have n0_ := Aside0.mk (Kd.R_lower ho0 (below_size (by repeat (first | (with_reducible first | exact HB.out | apply below_alloc | apply pw_below_drewN | apply below_drew1) | exact HB.out)))); have n1_ := Aside0.mk (below_step (by repeat (first | (with_reducible first | exact HB.out | apply below_alloc | apply pw_below_drewN | apply below_drew1) | exact HB.out)) hb); clear HB; have HO143 := n0_; have HB := n1_; clear n0_ n1_; (try clear hb); (try clear hb2); (try clear hk); (try clear hi); (try clear ho0); obtain ⟨Ao28, co28, eo28⟩ := Kd.R_slice HO143.out; subst eo28) | (go_at_call 44; (with_reducible refine (bytes_Equal.calls _ _ t140 _ _ l0 true _ ?side1 ?side2 ?side3 ?side4 A25.out).mono ?_); (case side1 => repeat (first | exact (Kd.R_reads' HO143.out).2.2 | (with_reducible refine Kd.C_alloc ?_ _) | (with_reducible refine Kd.C_drewN ?_ _) | (with_reducible refine Kd.C_drew ?_))); (case side2 => exact (Kd.R_reads' HO143.out).2.1); (case side3 => repeat (first | exact (Kd.C_below HR0.out HB.out) | (with_reducible refine Kd.C_alloc ?_ _) | (with_reducible refine Kd.C_drewN ?_ _) | (with_reducible refine Kd.C_drew ?_))); (case side4 => exact HC0.out); rintro e w' ⟨rfl, ⟨nd, rfl⟩⟩))
                        go_ret3
                        exact ⟨by first | rfl | (simp [errW_none, errW_some] <;> rfl) | (simp [*, errW_none, errW_some] <;> rfl), by repeat (first | (with_reducible first | exact HB.out | apply below_alloc | apply pw_below_drewN | apply below_drew1) | exact HB.out)⟩
                      · replace c26 := Bool.eq_false_iff.mpr c26
                        subst c26
                        have H1 : (some ((⟨#[]⟩ : ByteArray), 0, 2)) = some (r1, r2, r3) := by rw [if_neg (show ¬ (false = true) by decide)] at H; exact H
                        clear H
                        have H := H1
                        clear H1
                        simp only [Option.some.injEq, Prod.mk.injEq] at H
                        obtain ⟨rfl, rfl, rfl⟩ := H
                        go_wp2_with (first | ((with_reducible refine gate_callee (f := 17) rfl ?_); refine goesL_ (some 59) rfl rfl Tryd.func17 (by kernel_rfl) rfl #[.string t138, .int .i64 t136] rfl (by (try simp only [List.map_toArray, List.map_cons, List.map_nil]); first | done | rfl | (simp only [List.length_drop, List.length_take]; rfl)) ?_; (with_reducible refine (header_Put.calls t138 t136 t140 t141 _ A23.out).mono ?_); rintro e w29 ⟨v142, rfl, ho0, hb⟩; refine ⟨_, rfl, ?_⟩; have n0_ := Aside0.mk (Kd.R_lower ho0 (below_size (by repeat (first | (with_reducible first | exact HB.out | apply below_alloc | apply pw_below_drewN | apply below_drew1) | exact HB.out)))); have n1_ := Aside0.mk (below_step (by repeat (first | (with_reducible first | exact HB.out | apply below_alloc | apply pw_below_drewN | apply below_drew1) | exact HB.out)) hb); clear HB; have HO143 := n0_; have HB := n1_; clear n0_ n1_; (try clear hb); (try clear hb2); (try clear hk); (try clear hi); (try clear ho0); obtain ⟨Ao30, co30, eo30⟩ := Kd.R_slice HO143.out; subst eo30) | (go_at_call 44; (with_reducible refine (bytes_Equal.calls _ _ t140 _ _ l0 false _ ?side1 ?side2 ?side3 ?side4 A25.out).mono ?_); (case side1 => repeat (first | exact (Kd.R_reads' HO143.out).2.2 | (with_reducible refine Kd.C_alloc ?_ _) | (with_reducible refine Kd.C_drewN ?_ _) | (with_reducible refine Kd.C_drew ?_))); (case side2 => exact (Kd.R_reads' HO143.out).2.1); (case side3 => repeat (first | exact (Kd.C_below HR0.out HB.out) | (with_reducible refine Kd.C_alloc ?_ _) | (with_reducible refine Kd.C_drewN ?_ _) | (with_reducible refine Kd.C_drew ?_))); (case side4 => exact HC0.out); rintro e w' ⟨rfl, ⟨nd, rfl⟩⟩))
                        go_ret3
                        exact ⟨by first | rfl | (simp [errW_none, errW_some] <;> rfl) | (simp [*, errW_none, errW_some] <;> rfl), by repeat (first | (with_reducible first | exact HB.out | apply below_alloc | apply pw_below_drewN | apply below_drew1) | exact HB.out)⟩
                    · rw [if_neg c24] at H
                      have c24b0 : (t141 == 0) = false := beq_eq_false_iff_ne.mpr c24
                      have c24b1 : (t141 != 0) = true := bne_iff_ne.mpr c24
                      simp only [Option.some.injEq, Prod.mk.injEq] at H
                      obtain ⟨rfl, rfl, rfl⟩ := H
                      go_wp2_with (first | ((with_reducible refine gate_callee (f := 17) rfl ?_); refine goesL_ (some 59) rfl rfl Tryd.func17 (by kernel_rfl) rfl #[.string t138, .int .i64 t136] rfl (by (try simp only [List.map_toArray, List.map_cons, List.map_nil]); first | done | rfl | (simp only [List.length_drop, List.length_take]; rfl)) ?_; (with_reducible refine (header_Put.calls t138 t136 t140 t141 _ A23.out).mono ?_); rintro e w31 ⟨v142, rfl, ho0, hb⟩; refine ⟨_, rfl, ?_⟩; have n0_ := Aside0.mk (Kd.R_lower ho0 (below_size (by repeat (first | (with_reducible first | exact HB.out | apply below_alloc | apply pw_below_drewN | apply below_drew1) | exact HB.out)))); have n1_ := Aside0.mk (below_step (by repeat (first | (with_reducible first | exact HB.out | apply below_alloc | apply pw_below_drewN | apply below_drew1) | exact HB.out)) hb); clear HB; have HO143 := n0_; have HB := n1_; clear n0_ n1_; (try clear hb); (try clear hb2); (try clear hk); (try clear hi); (try clear ho0)))
                      go_ret3
                      exact ⟨by first | rfl | (simp [errW_none, errW_some] <;> rfl) | (simp [*, errW_none, errW_some] <;> rfl), by repeat (first | (with_reducible first | exact HB.out | apply below_alloc | apply pw_below_drewN | apply below_drew1) | exact HB.out)⟩
            · rw [if_neg c9] at H
              exact absurd H (by simp)
          · rw [if_neg c8] at H
            exact absurd H (by simp)
        · rw [if_neg c6] at H
          exact absurd H (by simp)
      · rw [if_neg c5] at H
        exact absurd H (by simp)
    · rw [if_neg c3] at H
      exact absurd H (by simp)

/-! ### bindlelaw07_awake: function 16 -/
def bindlelaw07_awake.f (k : Nat)  : Option (Bool) := (header_Put.f (⟨#[97]⟩ : ByteArray) 3).bind fun bt145 => (if (bt145.1.length : Int) = 512 then ((header_Get.f k bt145.1).bind fun bt149 => (if bt145.2 = 0 then (if 0 < (bt145.1.length : Int) then (if (rd bt145.1 0) = 97 then (if 124 ≤ 136 then (if 136 ≤ (bt145.1.length : Int) then (if (strOfNums ((bt145.1.take 136).drop 124)).toList = ([48, 48, 48, 48, 48, 48, 48, 48, 48, 48, 51, 0] : List UInt8) then (if 257 ≤ 263 then (if 263 ≤ (bt145.1.length : Int) then (if (strOfNums ((bt145.1.take 263).drop 257)).toList = ([117, 115, 116, 97, 114, 0] : List UInt8) then (if bt149.1.toList = ([97] : List UInt8) then (if bt149.2.1 = 3 then (some (bt149.2.2 == 0)) else (some false)) else (some false)) else (some false)) else (none)) else (none)) else (some false)) else (none)) else (none)) else (some false)) else (none)) else (some false))) else (some false))
theorem bindlelaw07_awake.mono : ∀ k, LeO (bindlelaw07_awake.f k ) (bindlelaw07_awake.f (k + 1) ) := by
  intro  k
  unfold bindlelaw07_awake.f
  repeat' first
      | (with_reducible exact header_Get.mono _ _)
      | (with_reducible exact LeO.refl _)
      | (with_reducible exact LeO.none _)
      | (with_reducible refine LeO.ite ?_ ?_)
      | (with_reducible refine LeO.bind ?_ (fun _ => ?_))
      | exact header_Get.mono _ _
      | exact LeO.none _
      | refine LeO.ite ?_ ?_
      | refine LeO.bind ?_ (fun _ => ?_)
set_option maxHeartbeats 8000000 in
set_option maxRecDepth 100000 in
theorem bindlelaw07_awake.calls (k : Nat)  (r : Bool) (w : World) (h : bindlelaw07_awake.f k  = some r) :
    Calls Tryd.prog 16 #[] w fun e w' => e = .returned (.bool r) ∧ Below w.heap.size w w' := by
  have HB := Aside0.mk (Below.refl w.heap.size w)
  have H : ((header_Put.f (⟨#[97]⟩ : ByteArray) 3).bind fun bt145 => (if (bt145.1.length : Int) = 512 then ((header_Get.f k bt145.1).bind fun bt149 => (if bt145.2 = 0 then (if 0 < (bt145.1.length : Int) then (if (rd bt145.1 0) = 97 then (if 124 ≤ 136 then (if 136 ≤ (bt145.1.length : Int) then (if (strOfNums ((bt145.1.take 136).drop 124)).toList = ([48, 48, 48, 48, 48, 48, 48, 48, 48, 48, 51, 0] : List UInt8) then (if 257 ≤ 263 then (if 263 ≤ (bt145.1.length : Int) then (if (strOfNums ((bt145.1.take 263).drop 257)).toList = ([117, 115, 116, 97, 114, 0] : List UInt8) then (if bt149.1.toList = ([97] : List UInt8) then (if bt149.2.1 = 3 then (some (bt149.2.2 == 0)) else (some false)) else (some false)) else (some false)) else (none)) else (none)) else (some false)) else (none)) else (none)) else (some false)) else (none)) else (some false))) else (some false))) = some r := h
  clear h
  replace H := Option.bind_eq_some_iff.mp H
  obtain ⟨⟨t145, t146⟩, A10, H⟩ := H
  replace H : (if (t145.length : Int) = 512 then ((header_Get.f k t145).bind fun bt149 => (if t146 = 0 then (if 0 < (t145.length : Int) then (if (rd t145 0) = 97 then (if 124 ≤ 136 then (if 136 ≤ (t145.length : Int) then (if (strOfNums ((t145.take 136).drop 124)).toList = ([48, 48, 48, 48, 48, 48, 48, 48, 48, 48, 51, 0] : List UInt8) then (if 257 ≤ 263 then (if 263 ≤ (t145.length : Int) then (if (strOfNums ((t145.take 263).drop 257)).toList = ([117, 115, 116, 97, 114, 0] : List UInt8) then (if bt149.1.toList = ([97] : List UInt8) then (if bt149.2.1 = 3 then (some (bt149.2.2 == 0)) else (some false)) else (some false)) else (some false)) else (none)) else (none)) else (some false)) else (none)) else (none)) else (some false)) else (none)) else (some false))) else (some false)) = some r := H
  have A1 := Aside0.mk A10
  clear A10
  by_cases c2 : (t145.length : Int) = 512
  · rw [if_pos c2] at H
    have c2b0 : ((t145.length : Int) == 512) = true := beq_iff_eq.mpr c2
    have c2b1 : ((t145.length : Int) != 512) = false := bne_eq_false_iff_eq.mpr c2
    clear c2
    replace H := Option.bind_eq_some_iff.mp H
    obtain ⟨⟨t149, t150, t151⟩, A30, H⟩ := H
    replace H : (if t146 = 0 then (if 0 < (t145.length : Int) then (if (rd t145 0) = 97 then (if 124 ≤ 136 then (if 136 ≤ (t145.length : Int) then (if (strOfNums ((t145.take 136).drop 124)).toList = ([48, 48, 48, 48, 48, 48, 48, 48, 48, 48, 51, 0] : List UInt8) then (if 257 ≤ 263 then (if 263 ≤ (t145.length : Int) then (if (strOfNums ((t145.take 263).drop 257)).toList = ([117, 115, 116, 97, 114, 0] : List UInt8) then (if t149.toList = ([97] : List UInt8) then (if t150 = 3 then (some (t151 == 0)) else (some false)) else (some false)) else (some false)) else (none)) else (none)) else (some false)) else (none)) else (none)) else (some false)) else (none)) else (some false)) = some r := H
    have A3 := Aside0.mk A30
    clear A30
    by_cases c4 : t146 = 0
    · rw [if_pos c4] at H
      have c4b0 : (t146 == 0) = true := beq_iff_eq.mpr c4
      have c4b1 : (t146 != 0) = false := bne_eq_false_iff_eq.mpr c4
      clear c4
      by_cases c5 : 0 < (t145.length : Int)
      · rw [if_pos c5] at H
        have c5b0 : decide (0 < (t145.length : Int)) = true := decide_eq_true c5
        have c5b1 : decide (0 < t145.length) = true := decide_eq_true (by omega)
        clear c5
        by_cases c6 : (rd t145 0) = 97
        · rw [if_pos c6] at H
          have c6b0 : ((rd t145 0) == 97) = true := beq_iff_eq.mpr c6
          have c6b1 : ((rd t145 0) != 97) = false := bne_eq_false_iff_eq.mpr c6
          clear c6
          by_cases c7 : 124 ≤ 136
          · rw [if_pos c7] at H
            have c7b0 := eq_true c7
            have c7b1 : decide (124 ≤ 136) = true := decide_eq_true c7
            clear c7
            by_cases c8 : 136 ≤ (t145.length : Int)
            · rw [if_pos c8] at H
              have c8b0 := eq_true c8
              have c8b1 : decide (136 ≤ (t145.length : Int)) = true := decide_eq_true c8
              clear c8
              obtain ⟨y153, hy153⟩ : ∃ y_ : List Int, y_ = ((t145.take 136).drop 124) := ⟨_, rfl⟩
              replace H : (if (strOfNums y153).toList = ([48, 48, 48, 48, 48, 48, 48, 48, 48, 48, 51, 0] : List UInt8) then (if 257 ≤ 263 then (if 263 ≤ (t145.length : Int) then (if (strOfNums ((t145.take 263).drop 257)).toList = ([117, 115, 116, 97, 114, 0] : List UInt8) then (if t149.toList = ([97] : List UInt8) then (if t150 = 3 then (some (t151 == 0)) else (some false)) else (some false)) else (some false)) else (none)) else (none)) else (some false)) = some r := by first | (rw [hy153]; with_reducible exact H) | (have H2_ := (Option.bind_some _ _).symm.trans H; rw [hy153]; with_reducible exact H2_) | (have H2_ := (Option.bind_some _ _).symm.trans H; with_reducible exact H2_) | with_reducible exact H | (rw [hy153]; exact H) | exact H
              have Ny153 := Aside0.mk hy153
              clear hy153
              by_cases c9 : (strOfNums y153).toList = ([48, 48, 48, 48, 48, 48, 48, 48, 48, 48, 51, 0] : List UInt8)
              · rw [if_pos c9] at H
                have c9b0 : ((strOfNums y153).toList == ([48, 48, 48, 48, 48, 48, 48, 48, 48, 48, 51, 0] : List UInt8)) = true := beq_iff_eq.mpr c9
                have c9b1 : ((strOfNums y153).toList != ([48, 48, 48, 48, 48, 48, 48, 48, 48, 48, 51, 0] : List UInt8)) = false := bne_eq_false_iff_eq.mpr c9
                clear c9
                by_cases c10 : 257 ≤ 263
                · rw [if_pos c10] at H
                  have c10b0 := eq_true c10
                  have c10b1 : decide (257 ≤ 263) = true := decide_eq_true c10
                  clear c10
                  by_cases c11 : 263 ≤ (t145.length : Int)
                  · rw [if_pos c11] at H
                    have c11b0 := eq_true c11
                    have c11b1 : decide (263 ≤ (t145.length : Int)) = true := decide_eq_true c11
                    clear c11
                    obtain ⟨y157, hy157⟩ : ∃ y_ : List Int, y_ = ((t145.take 263).drop 257) := ⟨_, rfl⟩
                    replace H : (if (strOfNums y157).toList = ([117, 115, 116, 97, 114, 0] : List UInt8) then (if t149.toList = ([97] : List UInt8) then (if t150 = 3 then (some (t151 == 0)) else (some false)) else (some false)) else (some false)) = some r := by first | (rw [hy157]; with_reducible exact H) | (have H2_ := (Option.bind_some _ _).symm.trans H; rw [hy157]; with_reducible exact H2_) | (have H2_ := (Option.bind_some _ _).symm.trans H; with_reducible exact H2_) | with_reducible exact H | (rw [hy157]; exact H) | exact H
                    have Ny157 := Aside0.mk hy157
                    clear hy157
                    by_cases c12 : (strOfNums y157).toList = ([117, 115, 116, 97, 114, 0] : List UInt8)
                    · rw [if_pos c12] at H
                      have c12b0 : ((strOfNums y157).toList == ([117, 115, 116, 97, 114, 0] : List UInt8)) = true := beq_iff_eq.mpr c12
                      have c12b1 : ((strOfNums y157).toList != ([117, 115, 116, 97, 114, 0] : List UInt8)) = false := bne_eq_false_iff_eq.mpr c12
                      clear c12
                      by_cases c13 : t149.toList = ([97] : List UInt8)
                      · rw [if_pos c13] at H
                        have c13b0 : (t149.toList == ([97] : List UInt8)) = true := beq_iff_eq.mpr c13
                        have c13b1 : (t149.toList != ([97] : List UInt8)) = false := bne_eq_false_iff_eq.mpr c13
                        clear c13
                        by_cases c14 : t150 = 3
                        · rw [if_pos c14] at H
                          have c14b0 : (t150 == 3) = true := beq_iff_eq.mpr c14
                          have c14b1 : (t150 != 3) = false := bne_eq_false_iff_eq.mpr c14
                          clear c14
                          obtain rfl := Option.some.inj H
                          go_enter Tryd.func16, Tryd.ntmps16
                          go_wp2_with (first | ((with_reducible refine gate_callee (f := 17) rfl ?_); refine goesL_ (some 7) rfl rfl Tryd.func17 (by kernel_rfl) rfl #[.string (⟨#[97]⟩ : ByteArray), .int .i64 3] rfl (by (try simp only [List.map_toArray, List.map_cons, List.map_nil]); first | done | rfl | (simp only [List.length_drop, List.length_take]; rfl)) ?_; (with_reducible refine (header_Put.calls (⟨#[97]⟩ : ByteArray) 3 t145 t146 _ A1.out).mono ?_); rintro e w15 ⟨v147, rfl, ho0, hb⟩; refine ⟨_, rfl, ?_⟩; have n0_ := Aside0.mk (Kd.R_lower ho0 (below_size (by repeat (first | (with_reducible first | exact HB.out | apply below_alloc | apply pw_below_drewN | apply below_drew1) | exact HB.out)))); have n1_ := Aside0.mk (below_step (by repeat (first | (with_reducible first | exact HB.out | apply below_alloc | apply pw_below_drewN | apply below_drew1) | exact HB.out)) hb); clear HB; have HO148 := n0_; have HB := n1_; clear n0_ n1_; (try clear hb); (try clear hb2); (try clear hk); (try clear hi); (try clear ho0); obtain ⟨Ao16, co16, eo16⟩ := Kd.R_slice HO148.out; subst eo16) | ((with_reducible refine gate_callee (f := 19) rfl ?_); refine goesL_ (some 15) rfl rfl Tryd.func19 (by kernel_rfl) rfl #[.slice Ao16 t145.length co16] rfl (by (try simp only [List.map_toArray, List.map_cons, List.map_nil]); first | done | rfl | (simp only [List.length_drop, List.length_take]; rfl)) ?_; (with_reducible refine (header_Get.calls k _ _ t145 t149 t150 t151 _ ?side1 ?side2 A3.out).mono ?_); (case side1 => repeat (first | exact (Kd.R_reads' HO148.out).2.2 | (with_reducible refine Kd.C_alloc ?_ _) | (with_reducible refine Kd.C_drewN ?_ _) | (with_reducible refine Kd.C_drew ?_))); (case side2 => exact (Kd.R_reads' HO148.out).2.1); rintro e w17 ⟨rfl, hb⟩; refine ⟨_, rfl, ?_⟩; have n0_ := Aside0.mk (Kd.R_below (by (with_reducible repeat (first | apply Kd.R_alloc | apply Kd.R_drewN | apply Kd.R_drew)); exact HO148.out) hb); have n1_ := Aside0.mk (below_step (by repeat (first | (with_reducible first | exact HB.out | apply below_alloc | apply pw_below_drewN | apply below_drew1) | exact HB.out)) hb); clear HO148; clear HB; have HO148 := n0_; have HB := n1_; clear n0_ n1_; (try clear hb); (try clear hb2); (try clear hk); (try clear hi); have p152 : 0 ≤ (0 : Int) := (by omega); have q152 : 0 < (t145.length : Int) := of_decide_eq_true (by first | (with_reducible assumption) | assumption); obtain ⟨ad152, e152, hx152_0⟩ := Kd.at_int (Kd.R_reads' HO148.out).2.2 0 p152 q152; cases e152; have qi152 : (0 < t145.length) = True := eq_true (by omega); (try rw [show ((0 : Int)).toNat = 0 from rfl] at hx152_0); (try rw [Addr.add_zero'] at hx152_0); replace p152 := eq_true p152; replace q152 := eq_true q152; have q18 : (136 : Int) ≤ ((t145.length : Int) : Int) := of_decide_eq_true (by first | (with_reducible assumption) | assumption); obtain ⟨i018, hi018, _, hsz18, _⟩ := info_parts info5; have hroom18 : t145.length ≤ co16 := (Kd.R_reads' HO148.out).2.1; have hC18 : Kd.C (Kd.int .u8) _ (some ad152) t145.length t145 := (Kd.R_reads' HO148.out).2.2; have ql18 : (124 : Int) ≤ (136 : Int) := (by omega); have hcut18 := cut_mid (P := Tryd.prog) 22 5 .i64 .i64 Tryd.underlying22 hi018 1 hsz18 (some ad152) t145.length co16 124 136 (by omega) ql18 q18 hroom18; have hr18 := Kd.C_mid (lo := (124 : Int).toNat) (hi := (136 : Int).toNat) (c := co16) hC18 (by omega) (by omega) hroom18; obtain ⟨A18, hA18⟩ : ∃ A1, A1 = (if co16 = (124 : Int).toNat then (some ad152) else ((some ad152) : Option Addr).map (·.add ((124 : Int).toNat * 1))) := ⟨_, rfl⟩; obtain ⟨c18, hc18⟩ : ∃ c1, c1 = co16 - (124 : Int).toNat := ⟨_, rfl⟩; have hy18 : y153.length = (136 : Int).toNat - (124 : Int).toNat := (by rw [Ny153.out, List.length_drop, List.length_take] <;> omega); rw [show ((t145).take (136 : Int).toNat).drop (124 : Int).toNat = y153 from Ny153.out.symm] at hr18; replace hr18 : Kd.C (Kd.int .u8) _ A18 y153.length y153 := (by rw [hA18]; exact hr18); rw [← hy18, ← hA18, ← hc18] at hcut18; have HR156 := Aside0.mk hr18; have HC156 := Aside0.mk (show y153.length ≤ c18 from by rw [hy18, hc18]; exact Nat.sub_le_sub_right (Nat.le_trans (by omega) hroom18) _); clear hr18 hC18 hroom18 hi018 hsz18 hc18; have KY18 := Aside0.mk hy18; have KA18 := Aside0.mk hA18; clear hy18 hA18; have KL18 := Aside0.mk (show 136 ≤ t145.length from by omega); have KM18 := Aside0.mk (show 124 ≤ 136 from by omega); replace q18 := eq_true q18; have hcv19 := Kd.C_string (P := Tryd.prog) (A := A18) (c := c18) Tryd.underlying22 Tryd.underlying5 Tryd.underlying9 (by repeat (first | (with_reducible exact HR156.out) | (with_reducible refine Kd.C_alloc ?_ _) | (with_reducible refine Kd.C_drewN ?_ _) | (with_reducible refine Kd.C_drew ?_) | exact HR156.out)); have q20 : (263 : Int) ≤ ((t145.length : Int) : Int) := of_decide_eq_true (by first | (with_reducible assumption) | assumption); obtain ⟨i020, hi020, _, hsz20, _⟩ := info_parts info5; have hroom20 : t145.length ≤ co16 := (Kd.R_reads' HO148.out).2.1; have hC20 : Kd.C (Kd.int .u8) _ (some ad152) t145.length t145 := (Kd.R_reads' HO148.out).2.2; have ql20 : (257 : Int) ≤ (263 : Int) := (by omega); have hcut20 := cut_mid (P := Tryd.prog) 22 5 .i64 .i64 Tryd.underlying22 hi020 1 hsz20 (some ad152) t145.length co16 257 263 (by omega) ql20 q20 hroom20; have hr20 := Kd.C_mid (lo := (257 : Int).toNat) (hi := (263 : Int).toNat) (c := co16) hC20 (by omega) (by omega) hroom20; obtain ⟨A20, hA20⟩ : ∃ A1, A1 = (if co16 = (257 : Int).toNat then (some ad152) else ((some ad152) : Option Addr).map (·.add ((257 : Int).toNat * 1))) := ⟨_, rfl⟩; obtain ⟨c20, hc20⟩ : ∃ c1, c1 = co16 - (257 : Int).toNat := ⟨_, rfl⟩; have hy20 : y157.length = (263 : Int).toNat - (257 : Int).toNat := (by rw [Ny157.out, List.length_drop, List.length_take] <;> omega); rw [show ((t145).take (263 : Int).toNat).drop (257 : Int).toNat = y157 from Ny157.out.symm] at hr20; replace hr20 : Kd.C (Kd.int .u8) _ A20 y157.length y157 := (by rw [hA20]; exact hr20); rw [← hy20, ← hA20, ← hc20] at hcut20; have HR160 := Aside0.mk hr20; have HC160 := Aside0.mk (show y157.length ≤ c20 from by rw [hy20, hc20]; exact Nat.sub_le_sub_right (Nat.le_trans (by omega) hroom20) _); clear hr20 hC20 hroom20 hi020 hsz20 hc20; have KY20 := Aside0.mk hy20; have KA20 := Aside0.mk hA20; clear hy20 hA20; have KL20 := Aside0.mk (show 263 ≤ t145.length from by omega); have KM20 := Aside0.mk (show 257 ≤ 263 from by omega); replace q20 := eq_true q20; have hcv21 := Kd.C_string (P := Tryd.prog) (A := A20) (c := c20) Tryd.underlying22 Tryd.underlying5 Tryd.underlying9 (by repeat (first | (with_reducible exact HR160.out) | (with_reducible refine Kd.C_alloc ?_ _) | (with_reducible refine Kd.C_drewN ?_ _) | (with_reducible refine Kd.C_drew ?_) | exact HR160.out))))
                          go_ret
                          exact ⟨by first | rfl | (simp [errW_none, errW_some] <;> rfl) | (simp [*, errW_none, errW_some] <;> rfl), by repeat (first | (with_reducible first | exact HB.out | apply below_alloc | apply pw_below_drewN | apply below_drew1) | exact HB.out)⟩
                        · rw [if_neg c14] at H
                          have c14b0 : (t150 == 3) = false := beq_eq_false_iff_ne.mpr c14
                          have c14b1 : (t150 != 3) = true := bne_iff_ne.mpr c14
                          obtain rfl := Option.some.inj H
                          go_enter Tryd.func16, Tryd.ntmps16
                          go_wp2_with (first | ((with_reducible refine gate_callee (f := 17) rfl ?_); refine goesL_ (some 7) rfl rfl Tryd.func17 (by kernel_rfl) rfl #[.string (⟨#[97]⟩ : ByteArray), .int .i64 3] rfl (by (try simp only [List.map_toArray, List.map_cons, List.map_nil]); first | done | rfl | (simp only [List.length_drop, List.length_take]; rfl)) ?_; (with_reducible refine (header_Put.calls (⟨#[97]⟩ : ByteArray) 3 t145 t146 _ A1.out).mono ?_); rintro e w22 ⟨v147, rfl, ho0, hb⟩; refine ⟨_, rfl, ?_⟩; have n0_ := Aside0.mk (Kd.R_lower ho0 (below_size (by repeat (first | (with_reducible first | exact HB.out | apply below_alloc | apply pw_below_drewN | apply below_drew1) | exact HB.out)))); have n1_ := Aside0.mk (below_step (by repeat (first | (with_reducible first | exact HB.out | apply below_alloc | apply pw_below_drewN | apply below_drew1) | exact HB.out)) hb); clear HB; have HO148 := n0_; have HB := n1_; clear n0_ n1_; (try clear hb); (try clear hb2); (try clear hk); (try clear hi); (try clear ho0); obtain ⟨Ao23, co23, eo23⟩ := Kd.R_slice HO148.out; subst eo23) | ((with_reducible refine gate_callee (f := 19) rfl ?_); refine goesL_ (some 15) rfl rfl Tryd.func19 (by kernel_rfl) rfl #[.slice Ao23 t145.length co23] rfl (by (try simp only [List.map_toArray, List.map_cons, List.map_nil]); first | done | rfl | (simp only [List.length_drop, List.length_take]; rfl)) ?_; (with_reducible refine (header_Get.calls k _ _ t145 t149 t150 t151 _ ?side1 ?side2 A3.out).mono ?_); (case side1 => repeat (first | exact (Kd.R_reads' HO148.out).2.2 | (with_reducible refine Kd.C_alloc ?_ _) | (with_reducible refine Kd.C_drewN ?_ _) | (with_reducible refine Kd.C_drew ?_))); (case side2 => exact (Kd.R_reads' HO148.out).2.1); rintro e w24 ⟨rfl, hb⟩; refine ⟨_, rfl, ?_⟩; have n0_ := Aside0.mk (Kd.R_below (by (with_reducible repeat (first | apply Kd.R_alloc | apply Kd.R_drewN | apply Kd.R_drew)); exact HO148.out) hb); have n1_ := Aside0.mk (below_step (by repeat (first | (with_reducible first | exact HB.out | apply below_alloc | apply pw_below_drewN | apply below_drew1) | exact HB.out)) hb); clear HO148; clear HB; have HO148 := n0_; have HB := n1_; clear n0_ n1_; (try clear hb); (try clear hb2); (try clear hk); (try clear hi); have p152 : 0 ≤ (0 : Int) := (by omega); have q152 : 0 < (t145.length : Int) := of_decide_eq_true (by first | (with_reducible assumption) | assumption); obtain ⟨ad152, e152, hx152_0⟩ := Kd.at_int (Kd.R_reads' HO148.out).2.2 0 p152 q152; cases e152; have qi152 : (0 < t145.length) = True := eq_true (by omega); (try rw [show ((0 : Int)).toNat = 0 from rfl] at hx152_0); (try rw [Addr.add_zero'] at hx152_0); replace p152 := eq_true p152; replace q152 := eq_true q152; have q25 : (136 : Int) ≤ ((t145.length : Int) : Int) := of_decide_eq_true (by first | (with_reducible assumption) | assumption); obtain ⟨i025, hi025, _, hsz25, _⟩ := info_parts info5; have hroom25 : t145.length ≤ co23 := (Kd.R_reads' HO148.out).2.1; have hC25 : Kd.C (Kd.int .u8) _ (some ad152) t145.length t145 := (Kd.R_reads' HO148.out).2.2; have ql25 : (124 : Int) ≤ (136 : Int) := (by omega); have hcut25 := cut_mid (P := Tryd.prog) 22 5 .i64 .i64 Tryd.underlying22 hi025 1 hsz25 (some ad152) t145.length co23 124 136 (by omega) ql25 q25 hroom25; have hr25 := Kd.C_mid (lo := (124 : Int).toNat) (hi := (136 : Int).toNat) (c := co23) hC25 (by omega) (by omega) hroom25; obtain ⟨A25, hA25⟩ : ∃ A1, A1 = (if co23 = (124 : Int).toNat then (some ad152) else ((some ad152) : Option Addr).map (·.add ((124 : Int).toNat * 1))) := ⟨_, rfl⟩; obtain ⟨c25, hc25⟩ : ∃ c1, c1 = co23 - (124 : Int).toNat := ⟨_, rfl⟩; have hy25 : y153.length = (136 : Int).toNat - (124 : Int).toNat := (by rw [Ny153.out, List.length_drop, List.length_take] <;> omega); rw [show ((t145).take (136 : Int).toNat).drop (124 : Int).toNat = y153 from Ny153.out.symm] at hr25; replace hr25 : Kd.C (Kd.int .u8) _ A25 y153.length y153 := (by rw [hA25]; exact hr25); rw [← hy25, ← hA25, ← hc25] at hcut25; have HR156 := Aside0.mk hr25; have HC156 := Aside0.mk (show y153.length ≤ c25 from by rw [hy25, hc25]; exact Nat.sub_le_sub_right (Nat.le_trans (by omega) hroom25) _); clear hr25 hC25 hroom25 hi025 hsz25 hc25; have KY25 := Aside0.mk hy25; have KA25 := Aside0.mk hA25; clear hy25 hA25; have KL25 := Aside0.mk (show 136 ≤ t145.length from by omega); have KM25 := Aside0.mk (show 124 ≤ 136 from by omega); replace q25 := eq_true q25; have hcv26 := Kd.C_string (P := Tryd.prog) (A := A25) (c := c25) Tryd.underlying22 Tryd.underlying5 Tryd.underlying9 (by repeat (first | (with_reducible exact HR156.out) | (with_reducible refine Kd.C_alloc ?_ _) | (with_reducible refine Kd.C_drewN ?_ _) | (with_reducible refine Kd.C_drew ?_) | exact HR156.out)); have q27 : (263 : Int) ≤ ((t145.length : Int) : Int) := of_decide_eq_true (by first | (with_reducible assumption) | assumption); obtain ⟨i027, hi027, _, hsz27, _⟩ := info_parts info5; have hroom27 : t145.length ≤ co23 := (Kd.R_reads' HO148.out).2.1; have hC27 : Kd.C (Kd.int .u8) _ (some ad152) t145.length t145 := (Kd.R_reads' HO148.out).2.2; have ql27 : (257 : Int) ≤ (263 : Int) := (by omega); have hcut27 := cut_mid (P := Tryd.prog) 22 5 .i64 .i64 Tryd.underlying22 hi027 1 hsz27 (some ad152) t145.length co23 257 263 (by omega) ql27 q27 hroom27; have hr27 := Kd.C_mid (lo := (257 : Int).toNat) (hi := (263 : Int).toNat) (c := co23) hC27 (by omega) (by omega) hroom27; obtain ⟨A27, hA27⟩ : ∃ A1, A1 = (if co23 = (257 : Int).toNat then (some ad152) else ((some ad152) : Option Addr).map (·.add ((257 : Int).toNat * 1))) := ⟨_, rfl⟩; obtain ⟨c27, hc27⟩ : ∃ c1, c1 = co23 - (257 : Int).toNat := ⟨_, rfl⟩; have hy27 : y157.length = (263 : Int).toNat - (257 : Int).toNat := (by rw [Ny157.out, List.length_drop, List.length_take] <;> omega); rw [show ((t145).take (263 : Int).toNat).drop (257 : Int).toNat = y157 from Ny157.out.symm] at hr27; replace hr27 : Kd.C (Kd.int .u8) _ A27 y157.length y157 := (by rw [hA27]; exact hr27); rw [← hy27, ← hA27, ← hc27] at hcut27; have HR160 := Aside0.mk hr27; have HC160 := Aside0.mk (show y157.length ≤ c27 from by rw [hy27, hc27]; exact Nat.sub_le_sub_right (Nat.le_trans (by omega) hroom27) _); clear hr27 hC27 hroom27 hi027 hsz27 hc27; have KY27 := Aside0.mk hy27; have KA27 := Aside0.mk hA27; clear hy27 hA27; have KL27 := Aside0.mk (show 263 ≤ t145.length from by omega); have KM27 := Aside0.mk (show 257 ≤ 263 from by omega); replace q27 := eq_true q27; have hcv28 := Kd.C_string (P := Tryd.prog) (A := A27) (c := c27) Tryd.underlying22 Tryd.underlying5 Tryd.underlying9 (by repeat (first | (with_reducible exact HR160.out) | (with_reducible refine Kd.C_alloc ?_ _) | (with_reducible refine Kd.C_drewN ?_ _) | (with_reducible refine Kd.C_drew ?_) | exact HR160.out))))
                          go_ret
                          exact ⟨by first | rfl | (simp [errW_none, errW_some] <;> rfl) | (simp [*, errW_none, errW_some] <;> rfl), by repeat (first | (with_reducible first | exact HB.out | apply below_alloc | apply pw_below_drewN | apply below_drew1) | exact HB.out)⟩
                      · rw [if_neg c13] at H
                        have c13b0 : (t149.toList == ([97] : List UInt8)) = false := beq_eq_false_iff_ne.mpr c13
                        have c13b1 : (t149.toList != ([97] : List UInt8)) = true := bne_iff_ne.mpr c13
                        obtain rfl := Option.some.inj H
                        go_enter Tryd.func16, Tryd.ntmps16
                        go_wp2_with (first | ((with_reducible refine gate_callee (f := 17) rfl ?_); refine goesL_ (some 7) rfl rfl Tryd.func17 (by kernel_rfl) rfl #[.string (⟨#[97]⟩ : ByteArray), .int .i64 3] rfl (by (try simp only [List.map_toArray, List.map_cons, List.map_nil]); first | done | rfl | (simp only [List.length_drop, List.length_take]; rfl)) ?_; (with_reducible refine (header_Put.calls (⟨#[97]⟩ : ByteArray) 3 t145 t146 _ A1.out).mono ?_); rintro e w29 ⟨v147, rfl, ho0, hb⟩; refine ⟨_, rfl, ?_⟩; have n0_ := Aside0.mk (Kd.R_lower ho0 (below_size (by repeat (first | (with_reducible first | exact HB.out | apply below_alloc | apply pw_below_drewN | apply below_drew1) | exact HB.out)))); have n1_ := Aside0.mk (below_step (by repeat (first | (with_reducible first | exact HB.out | apply below_alloc | apply pw_below_drewN | apply below_drew1) | exact HB.out)) hb); clear HB; have HO148 := n0_; have HB := n1_; clear n0_ n1_; (try clear hb); (try clear hb2); (try clear hk); (try clear hi); (try clear ho0); obtain ⟨Ao30, co30, eo30⟩ := Kd.R_slice HO148.out; subst eo30) | ((with_reducible refine gate_callee (f := 19) rfl ?_); refine goesL_ (some 15) rfl rfl Tryd.func19 (by kernel_rfl) rfl #[.slice Ao30 t145.length co30] rfl (by (try simp only [List.map_toArray, List.map_cons, List.map_nil]); first | done | rfl | (simp only [List.length_drop, List.length_take]; rfl)) ?_; (with_reducible refine (header_Get.calls k _ _ t145 t149 t150 t151 _ ?side1 ?side2 A3.out).mono ?_); (case side1 => repeat (first | exact (Kd.R_reads' HO148.out).2.2 | (with_reducible refine Kd.C_alloc ?_ _) | (with_reducible refine Kd.C_drewN ?_ _) | (with_reducible refine Kd.C_drew ?_))); (case side2 => exact (Kd.R_reads' HO148.out).2.1); rintro e w31 ⟨rfl, hb⟩; refine ⟨_, rfl, ?_⟩; have n0_ := Aside0.mk (Kd.R_below (by (with_reducible repeat (first | apply Kd.R_alloc | apply Kd.R_drewN | apply Kd.R_drew)); exact HO148.out) hb); have n1_ := Aside0.mk (below_step (by repeat (first | (with_reducible first | exact HB.out | apply below_alloc | apply pw_below_drewN | apply below_drew1) | exact HB.out)) hb); clear HO148; clear HB; have HO148 := n0_; have HB := n1_; clear n0_ n1_; (try clear hb); (try clear hb2); (try clear hk); (try clear hi); have p152 : 0 ≤ (0 : Int) := (by omega); have q152 : 0 < (t145.length : Int) := of_decide_eq_true (by first | (with_reducible assumption) | assumption); obtain ⟨ad152, e152, hx152_0⟩ := Kd.at_int (Kd.R_reads' HO148.out).2.2 0 p152 q152; cases e152; have qi152 : (0 < t145.length) = True := eq_true (by omega); (try rw [show ((0 : Int)).toNat = 0 from rfl] at hx152_0); (try rw [Addr.add_zero'] at hx152_0); replace p152 := eq_true p152; replace q152 := eq_true q152; have q32 : (136 : Int) ≤ ((t145.length : Int) : Int) := of_decide_eq_true (by first | (with_reducible assumption) | assumption); obtain ⟨i032, hi032, _, hsz32, _⟩ := info_parts info5; have hroom32 : t145.length ≤ co30 := (Kd.R_reads' HO148.out).2.1; have hC32 : Kd.C (Kd.int .u8) _ (some ad152) t145.length t145 := (Kd.R_reads' HO148.out).2.2; have ql32 : (124 : Int) ≤ (136 : Int) := (by omega); have hcut32 := cut_mid (P := Tryd.prog) 22 5 .i64 .i64 Tryd.underlying22 hi032 1 hsz32 (some ad152) t145.length co30 124 136 (by omega) ql32 q32 hroom32; have hr32 := Kd.C_mid (lo := (124 : Int).toNat) (hi := (136 : Int).toNat) (c := co30) hC32 (by omega) (by omega) hroom32; obtain ⟨A32, hA32⟩ : ∃ A1, A1 = (if co30 = (124 : Int).toNat then (some ad152) else ((some ad152) : Option Addr).map (·.add ((124 : Int).toNat * 1))) := ⟨_, rfl⟩; obtain ⟨c32, hc32⟩ : ∃ c1, c1 = co30 - (124 : Int).toNat := ⟨_, rfl⟩; have hy32 : y153.length = (136 : Int).toNat - (124 : Int).toNat := (by rw [Ny153.out, List.length_drop, List.length_take] <;> omega); rw [show ((t145).take (136 : Int).toNat).drop (124 : Int).toNat = y153 from Ny153.out.symm] at hr32; replace hr32 : Kd.C (Kd.int .u8) _ A32 y153.length y153 := (by rw [hA32]; exact hr32); rw [← hy32, ← hA32, ← hc32] at hcut32; have HR156 := Aside0.mk hr32; have HC156 := Aside0.mk (show y153.length ≤ c32 from by rw [hy32, hc32]; exact Nat.sub_le_sub_right (Nat.le_trans (by omega) hroom32) _); clear hr32 hC32 hroom32 hi032 hsz32 hc32; have KY32 := Aside0.mk hy32; have KA32 := Aside0.mk hA32; clear hy32 hA32; have KL32 := Aside0.mk (show 136 ≤ t145.length from by omega); have KM32 := Aside0.mk (show 124 ≤ 136 from by omega); replace q32 := eq_true q32; have hcv33 := Kd.C_string (P := Tryd.prog) (A := A32) (c := c32) Tryd.underlying22 Tryd.underlying5 Tryd.underlying9 (by repeat (first | (with_reducible exact HR156.out) | (with_reducible refine Kd.C_alloc ?_ _) | (with_reducible refine Kd.C_drewN ?_ _) | (with_reducible refine Kd.C_drew ?_) | exact HR156.out)); have q34 : (263 : Int) ≤ ((t145.length : Int) : Int) := of_decide_eq_true (by first | (with_reducible assumption) | assumption); obtain ⟨i034, hi034, _, hsz34, _⟩ := info_parts info5; have hroom34 : t145.length ≤ co30 := (Kd.R_reads' HO148.out).2.1; have hC34 : Kd.C (Kd.int .u8) _ (some ad152) t145.length t145 := (Kd.R_reads' HO148.out).2.2; have ql34 : (257 : Int) ≤ (263 : Int) := (by omega); have hcut34 := cut_mid (P := Tryd.prog) 22 5 .i64 .i64 Tryd.underlying22 hi034 1 hsz34 (some ad152) t145.length co30 257 263 (by omega) ql34 q34 hroom34; have hr34 := Kd.C_mid (lo := (257 : Int).toNat) (hi := (263 : Int).toNat) (c := co30) hC34 (by omega) (by omega) hroom34; obtain ⟨A34, hA34⟩ : ∃ A1, A1 = (if co30 = (257 : Int).toNat then (some ad152) else ((some ad152) : Option Addr).map (·.add ((257 : Int).toNat * 1))) := ⟨_, rfl⟩; obtain ⟨c34, hc34⟩ : ∃ c1, c1 = co30 - (257 : Int).toNat := ⟨_, rfl⟩; have hy34 : y157.length = (263 : Int).toNat - (257 : Int).toNat := (by rw [Ny157.out, List.length_drop, List.length_take] <;> omega); rw [show ((t145).take (263 : Int).toNat).drop (257 : Int).toNat = y157 from Ny157.out.symm] at hr34; replace hr34 : Kd.C (Kd.int .u8) _ A34 y157.length y157 := (by rw [hA34]; exact hr34); rw [← hy34, ← hA34, ← hc34] at hcut34; have HR160 := Aside0.mk hr34; have HC160 := Aside0.mk (show y157.length ≤ c34 from by rw [hy34, hc34]; exact Nat.sub_le_sub_right (Nat.le_trans (by omega) hroom34) _); clear hr34 hC34 hroom34 hi034 hsz34 hc34; have KY34 := Aside0.mk hy34; have KA34 := Aside0.mk hA34; clear hy34 hA34; have KL34 := Aside0.mk (show 263 ≤ t145.length from by omega); have KM34 := Aside0.mk (show 257 ≤ 263 from by omega); replace q34 := eq_true q34; have hcv35 := Kd.C_string (P := Tryd.prog) (A := A34) (c := c34) Tryd.underlying22 Tryd.underlying5 Tryd.underlying9 (by repeat (first | (with_reducible exact HR160.out) | (with_reducible refine Kd.C_alloc ?_ _) | (with_reducible refine Kd.C_drewN ?_ _) | (with_reducible refine Kd.C_drew ?_) | exact HR160.out))))
                        go_ret
                        exact ⟨by first | rfl | (simp [errW_none, errW_some] <;> rfl) | (simp [*, errW_none, errW_some] <;> rfl), by repeat (first | (with_reducible first | exact HB.out | apply below_alloc | apply pw_below_drewN | apply below_drew1) | exact HB.out)⟩
                    · rw [if_neg c12] at H
                      have c12b0 : ((strOfNums y157).toList == ([117, 115, 116, 97, 114, 0] : List UInt8)) = false := beq_eq_false_iff_ne.mpr c12
                      have c12b1 : ((strOfNums y157).toList != ([117, 115, 116, 97, 114, 0] : List UInt8)) = true := bne_iff_ne.mpr c12
                      obtain rfl := Option.some.inj H
                      go_enter Tryd.func16, Tryd.ntmps16
                      go_wp2_with (first | ((with_reducible refine gate_callee (f := 17) rfl ?_); refine goesL_ (some 7) rfl rfl Tryd.func17 (by kernel_rfl) rfl #[.string (⟨#[97]⟩ : ByteArray), .int .i64 3] rfl (by (try simp only [List.map_toArray, List.map_cons, List.map_nil]); first | done | rfl | (simp only [List.length_drop, List.length_take]; rfl)) ?_; (with_reducible refine (header_Put.calls (⟨#[97]⟩ : ByteArray) 3 t145 t146 _ A1.out).mono ?_); rintro e w36 ⟨v147, rfl, ho0, hb⟩; refine ⟨_, rfl, ?_⟩; have n0_ := Aside0.mk (Kd.R_lower ho0 (below_size (by repeat (first | (with_reducible first | exact HB.out | apply below_alloc | apply pw_below_drewN | apply below_drew1) | exact HB.out)))); have n1_ := Aside0.mk (below_step (by repeat (first | (with_reducible first | exact HB.out | apply below_alloc | apply pw_below_drewN | apply below_drew1) | exact HB.out)) hb); clear HB; have HO148 := n0_; have HB := n1_; clear n0_ n1_; (try clear hb); (try clear hb2); (try clear hk); (try clear hi); (try clear ho0); obtain ⟨Ao37, co37, eo37⟩ := Kd.R_slice HO148.out; subst eo37) | ((with_reducible refine gate_callee (f := 19) rfl ?_); refine goesL_ (some 15) rfl rfl Tryd.func19 (by kernel_rfl) rfl #[.slice Ao37 t145.length co37] rfl (by (try simp only [List.map_toArray, List.map_cons, List.map_nil]); first | done | rfl | (simp only [List.length_drop, List.length_take]; rfl)) ?_; (with_reducible refine (header_Get.calls k _ _ t145 t149 t150 t151 _ ?side1 ?side2 A3.out).mono ?_); (case side1 => repeat (first | exact (Kd.R_reads' HO148.out).2.2 | (with_reducible refine Kd.C_alloc ?_ _) | (with_reducible refine Kd.C_drewN ?_ _) | (with_reducible refine Kd.C_drew ?_))); (case side2 => exact (Kd.R_reads' HO148.out).2.1); rintro e w38 ⟨rfl, hb⟩; refine ⟨_, rfl, ?_⟩; have n0_ := Aside0.mk (Kd.R_below (by (with_reducible repeat (first | apply Kd.R_alloc | apply Kd.R_drewN | apply Kd.R_drew)); exact HO148.out) hb); have n1_ := Aside0.mk (below_step (by repeat (first | (with_reducible first | exact HB.out | apply below_alloc | apply pw_below_drewN | apply below_drew1) | exact HB.out)) hb); clear HO148; clear HB; have HO148 := n0_; have HB := n1_; clear n0_ n1_; (try clear hb); (try clear hb2); (try clear hk); (try clear hi); have p152 : 0 ≤ (0 : Int) := (by omega); have q152 : 0 < (t145.length : Int) := of_decide_eq_true (by first | (with_reducible assumption) | assumption); obtain ⟨ad152, e152, hx152_0⟩ := Kd.at_int (Kd.R_reads' HO148.out).2.2 0 p152 q152; cases e152; have qi152 : (0 < t145.length) = True := eq_true (by omega); (try rw [show ((0 : Int)).toNat = 0 from rfl] at hx152_0); (try rw [Addr.add_zero'] at hx152_0); replace p152 := eq_true p152; replace q152 := eq_true q152; have q39 : (136 : Int) ≤ ((t145.length : Int) : Int) := of_decide_eq_true (by first | (with_reducible assumption) | assumption); obtain ⟨i039, hi039, _, hsz39, _⟩ := info_parts info5; have hroom39 : t145.length ≤ co37 := (Kd.R_reads' HO148.out).2.1; have hC39 : Kd.C (Kd.int .u8) _ (some ad152) t145.length t145 := (Kd.R_reads' HO148.out).2.2; have ql39 : (124 : Int) ≤ (136 : Int) := (by omega); have hcut39 := cut_mid (P := Tryd.prog) 22 5 .i64 .i64 Tryd.underlying22 hi039 1 hsz39 (some ad152) t145.length co37 124 136 (by omega) ql39 q39 hroom39; have hr39 := Kd.C_mid (lo := (124 : Int).toNat) (hi := (136 : Int).toNat) (c := co37) hC39 (by omega) (by omega) hroom39; obtain ⟨A39, hA39⟩ : ∃ A1, A1 = (if co37 = (124 : Int).toNat then (some ad152) else ((some ad152) : Option Addr).map (·.add ((124 : Int).toNat * 1))) := ⟨_, rfl⟩; obtain ⟨c39, hc39⟩ : ∃ c1, c1 = co37 - (124 : Int).toNat := ⟨_, rfl⟩; have hy39 : y153.length = (136 : Int).toNat - (124 : Int).toNat := (by rw [Ny153.out, List.length_drop, List.length_take] <;> omega); rw [show ((t145).take (136 : Int).toNat).drop (124 : Int).toNat = y153 from Ny153.out.symm] at hr39; replace hr39 : Kd.C (Kd.int .u8) _ A39 y153.length y153 := (by rw [hA39]; exact hr39); rw [← hy39, ← hA39, ← hc39] at hcut39; have HR156 := Aside0.mk hr39; have HC156 := Aside0.mk (show y153.length ≤ c39 from by rw [hy39, hc39]; exact Nat.sub_le_sub_right (Nat.le_trans (by omega) hroom39) _); clear hr39 hC39 hroom39 hi039 hsz39 hc39; have KY39 := Aside0.mk hy39; have KA39 := Aside0.mk hA39; clear hy39 hA39; have KL39 := Aside0.mk (show 136 ≤ t145.length from by omega); have KM39 := Aside0.mk (show 124 ≤ 136 from by omega); replace q39 := eq_true q39; have hcv40 := Kd.C_string (P := Tryd.prog) (A := A39) (c := c39) Tryd.underlying22 Tryd.underlying5 Tryd.underlying9 (by repeat (first | (with_reducible exact HR156.out) | (with_reducible refine Kd.C_alloc ?_ _) | (with_reducible refine Kd.C_drewN ?_ _) | (with_reducible refine Kd.C_drew ?_) | exact HR156.out)); have q41 : (263 : Int) ≤ ((t145.length : Int) : Int) := of_decide_eq_true (by first | (with_reducible assumption) | assumption); obtain ⟨i041, hi041, _, hsz41, _⟩ := info_parts info5; have hroom41 : t145.length ≤ co37 := (Kd.R_reads' HO148.out).2.1; have hC41 : Kd.C (Kd.int .u8) _ (some ad152) t145.length t145 := (Kd.R_reads' HO148.out).2.2; have ql41 : (257 : Int) ≤ (263 : Int) := (by omega); have hcut41 := cut_mid (P := Tryd.prog) 22 5 .i64 .i64 Tryd.underlying22 hi041 1 hsz41 (some ad152) t145.length co37 257 263 (by omega) ql41 q41 hroom41; have hr41 := Kd.C_mid (lo := (257 : Int).toNat) (hi := (263 : Int).toNat) (c := co37) hC41 (by omega) (by omega) hroom41; obtain ⟨A41, hA41⟩ : ∃ A1, A1 = (if co37 = (257 : Int).toNat then (some ad152) else ((some ad152) : Option Addr).map (·.add ((257 : Int).toNat * 1))) := ⟨_, rfl⟩; obtain ⟨c41, hc41⟩ : ∃ c1, c1 = co37 - (257 : Int).toNat := ⟨_, rfl⟩; have hy41 : y157.length = (263 : Int).toNat - (257 : Int).toNat := (by rw [Ny157.out, List.length_drop, List.length_take] <;> omega); rw [show ((t145).take (263 : Int).toNat).drop (257 : Int).toNat = y157 from Ny157.out.symm] at hr41; replace hr41 : Kd.C (Kd.int .u8) _ A41 y157.length y157 := (by rw [hA41]; exact hr41); rw [← hy41, ← hA41, ← hc41] at hcut41; have HR160 := Aside0.mk hr41; have HC160 := Aside0.mk (show y157.length ≤ c41 from by rw [hy41, hc41]; exact Nat.sub_le_sub_right (Nat.le_trans (by omega) hroom41) _); clear hr41 hC41 hroom41 hi041 hsz41 hc41; have KY41 := Aside0.mk hy41; have KA41 := Aside0.mk hA41; clear hy41 hA41; have KL41 := Aside0.mk (show 263 ≤ t145.length from by omega); have KM41 := Aside0.mk (show 257 ≤ 263 from by omega); replace q41 := eq_true q41; have hcv42 := Kd.C_string (P := Tryd.prog) (A := A41) (c := c41) Tryd.underlying22 Tryd.underlying5 Tryd.underlying9 (by repeat (first | (with_reducible exact HR160.out) | (with_reducible refine Kd.C_alloc ?_ _) | (with_reducible refine Kd.C_drewN ?_ _) | (with_reducible refine Kd.C_drew ?_) | exact HR160.out))))
                      go_ret
                      exact ⟨by first | rfl | (simp [errW_none, errW_some] <;> rfl) | (simp [*, errW_none, errW_some] <;> rfl), by repeat (first | (with_reducible first | exact HB.out | apply below_alloc | apply pw_below_drewN | apply below_drew1) | exact HB.out)⟩
                  · rw [if_neg c11] at H
                    exact absurd H (by simp)
                · rw [if_neg c10] at H
                  exact absurd H (by simp)
              · rw [if_neg c9] at H
                have c9b0 : ((strOfNums y153).toList == ([48, 48, 48, 48, 48, 48, 48, 48, 48, 48, 51, 0] : List UInt8)) = false := beq_eq_false_iff_ne.mpr c9
                have c9b1 : ((strOfNums y153).toList != ([48, 48, 48, 48, 48, 48, 48, 48, 48, 48, 51, 0] : List UInt8)) = true := bne_iff_ne.mpr c9
                obtain rfl := Option.some.inj H
                go_enter Tryd.func16, Tryd.ntmps16
                go_wp2_with (first | ((with_reducible refine gate_callee (f := 17) rfl ?_); refine goesL_ (some 7) rfl rfl Tryd.func17 (by kernel_rfl) rfl #[.string (⟨#[97]⟩ : ByteArray), .int .i64 3] rfl (by (try simp only [List.map_toArray, List.map_cons, List.map_nil]); first | done | rfl | (simp only [List.length_drop, List.length_take]; rfl)) ?_; (with_reducible refine (header_Put.calls (⟨#[97]⟩ : ByteArray) 3 t145 t146 _ A1.out).mono ?_); rintro e w43 ⟨v147, rfl, ho0, hb⟩; refine ⟨_, rfl, ?_⟩; have n0_ := Aside0.mk (Kd.R_lower ho0 (below_size (by repeat (first | (with_reducible first | exact HB.out | apply below_alloc | apply pw_below_drewN | apply below_drew1) | exact HB.out)))); have n1_ := Aside0.mk (below_step (by repeat (first | (with_reducible first | exact HB.out | apply below_alloc | apply pw_below_drewN | apply below_drew1) | exact HB.out)) hb); clear HB; have HO148 := n0_; have HB := n1_; clear n0_ n1_; (try clear hb); (try clear hb2); (try clear hk); (try clear hi); (try clear ho0); obtain ⟨Ao44, co44, eo44⟩ := Kd.R_slice HO148.out; subst eo44) | ((with_reducible refine gate_callee (f := 19) rfl ?_); refine goesL_ (some 15) rfl rfl Tryd.func19 (by kernel_rfl) rfl #[.slice Ao44 t145.length co44] rfl (by (try simp only [List.map_toArray, List.map_cons, List.map_nil]); first | done | rfl | (simp only [List.length_drop, List.length_take]; rfl)) ?_; (with_reducible refine (header_Get.calls k _ _ t145 t149 t150 t151 _ ?side1 ?side2 A3.out).mono ?_); (case side1 => repeat (first | exact (Kd.R_reads' HO148.out).2.2 | (with_reducible refine Kd.C_alloc ?_ _) | (with_reducible refine Kd.C_drewN ?_ _) | (with_reducible refine Kd.C_drew ?_))); (case side2 => exact (Kd.R_reads' HO148.out).2.1); rintro e w45 ⟨rfl, hb⟩; refine ⟨_, rfl, ?_⟩; have n0_ := Aside0.mk (Kd.R_below (by (with_reducible repeat (first | apply Kd.R_alloc | apply Kd.R_drewN | apply Kd.R_drew)); exact HO148.out) hb); have n1_ := Aside0.mk (below_step (by repeat (first | (with_reducible first | exact HB.out | apply below_alloc | apply pw_below_drewN | apply below_drew1) | exact HB.out)) hb); clear HO148; clear HB; have HO148 := n0_; have HB := n1_; clear n0_ n1_; (try clear hb); (try clear hb2); (try clear hk); (try clear hi); have p152 : 0 ≤ (0 : Int) := (by omega); have q152 : 0 < (t145.length : Int) := of_decide_eq_true (by first | (with_reducible assumption) | assumption); obtain ⟨ad152, e152, hx152_0⟩ := Kd.at_int (Kd.R_reads' HO148.out).2.2 0 p152 q152; cases e152; have qi152 : (0 < t145.length) = True := eq_true (by omega); (try rw [show ((0 : Int)).toNat = 0 from rfl] at hx152_0); (try rw [Addr.add_zero'] at hx152_0); replace p152 := eq_true p152; replace q152 := eq_true q152; have q46 : (136 : Int) ≤ ((t145.length : Int) : Int) := of_decide_eq_true (by first | (with_reducible assumption) | assumption); obtain ⟨i046, hi046, _, hsz46, _⟩ := info_parts info5; have hroom46 : t145.length ≤ co44 := (Kd.R_reads' HO148.out).2.1; have hC46 : Kd.C (Kd.int .u8) _ (some ad152) t145.length t145 := (Kd.R_reads' HO148.out).2.2; have ql46 : (124 : Int) ≤ (136 : Int) := (by omega); have hcut46 := cut_mid (P := Tryd.prog) 22 5 .i64 .i64 Tryd.underlying22 hi046 1 hsz46 (some ad152) t145.length co44 124 136 (by omega) ql46 q46 hroom46; have hr46 := Kd.C_mid (lo := (124 : Int).toNat) (hi := (136 : Int).toNat) (c := co44) hC46 (by omega) (by omega) hroom46; obtain ⟨A46, hA46⟩ : ∃ A1, A1 = (if co44 = (124 : Int).toNat then (some ad152) else ((some ad152) : Option Addr).map (·.add ((124 : Int).toNat * 1))) := ⟨_, rfl⟩; obtain ⟨c46, hc46⟩ : ∃ c1, c1 = co44 - (124 : Int).toNat := ⟨_, rfl⟩; have hy46 : y153.length = (136 : Int).toNat - (124 : Int).toNat := (by rw [Ny153.out, List.length_drop, List.length_take] <;> omega); rw [show ((t145).take (136 : Int).toNat).drop (124 : Int).toNat = y153 from Ny153.out.symm] at hr46; replace hr46 : Kd.C (Kd.int .u8) _ A46 y153.length y153 := (by rw [hA46]; exact hr46); rw [← hy46, ← hA46, ← hc46] at hcut46; have HR156 := Aside0.mk hr46; have HC156 := Aside0.mk (show y153.length ≤ c46 from by rw [hy46, hc46]; exact Nat.sub_le_sub_right (Nat.le_trans (by omega) hroom46) _); clear hr46 hC46 hroom46 hi046 hsz46 hc46; have KY46 := Aside0.mk hy46; have KA46 := Aside0.mk hA46; clear hy46 hA46; have KL46 := Aside0.mk (show 136 ≤ t145.length from by omega); have KM46 := Aside0.mk (show 124 ≤ 136 from by omega); replace q46 := eq_true q46; have hcv47 := Kd.C_string (P := Tryd.prog) (A := A46) (c := c46) Tryd.underlying22 Tryd.underlying5 Tryd.underlying9 (by repeat (first | (with_reducible exact HR156.out) | (with_reducible refine Kd.C_alloc ?_ _) | (with_reducible refine Kd.C_drewN ?_ _) | (with_reducible refine Kd.C_drew ?_) | exact HR156.out))))
                go_ret
                exact ⟨by first | rfl | (simp [errW_none, errW_some] <;> rfl) | (simp [*, errW_none, errW_some] <;> rfl), by repeat (first | (with_reducible first | exact HB.out | apply below_alloc | apply pw_below_drewN | apply below_drew1) | exact HB.out)⟩
            · rw [if_neg c8] at H
              exact absurd H (by simp)
          · rw [if_neg c7] at H
            exact absurd H (by simp)
        · rw [if_neg c6] at H
          have c6b0 : ((rd t145 0) == 97) = false := beq_eq_false_iff_ne.mpr c6
          have c6b1 : ((rd t145 0) != 97) = true := bne_iff_ne.mpr c6
          obtain rfl := Option.some.inj H
          go_enter Tryd.func16, Tryd.ntmps16
          go_wp2_with (first | ((with_reducible refine gate_callee (f := 17) rfl ?_); refine goesL_ (some 7) rfl rfl Tryd.func17 (by kernel_rfl) rfl #[.string (⟨#[97]⟩ : ByteArray), .int .i64 3] rfl (by (try simp only [List.map_toArray, List.map_cons, List.map_nil]); first | done | rfl | (simp only [List.length_drop, List.length_take]; rfl)) ?_; (with_reducible refine (header_Put.calls (⟨#[97]⟩ : ByteArray) 3 t145 t146 _ A1.out).mono ?_); rintro e w48 ⟨v147, rfl, ho0, hb⟩; refine ⟨_, rfl, ?_⟩; have n0_ := Aside0.mk (Kd.R_lower ho0 (below_size (by repeat (first | (with_reducible first | exact HB.out | apply below_alloc | apply pw_below_drewN | apply below_drew1) | exact HB.out)))); have n1_ := Aside0.mk (below_step (by repeat (first | (with_reducible first | exact HB.out | apply below_alloc | apply pw_below_drewN | apply below_drew1) | exact HB.out)) hb); clear HB; have HO148 := n0_; have HB := n1_; clear n0_ n1_; (try clear hb); (try clear hb2); (try clear hk); (try clear hi); (try clear ho0); obtain ⟨Ao49, co49, eo49⟩ := Kd.R_slice HO148.out; subst eo49) | ((with_reducible refine gate_callee (f := 19) rfl ?_); refine goesL_ (some 15) rfl rfl Tryd.func19 (by kernel_rfl) rfl #[.slice Ao49 t145.length co49] rfl (by (try simp only [List.map_toArray, List.map_cons, List.map_nil]); first | done | rfl | (simp only [List.length_drop, List.length_take]; rfl)) ?_; (with_reducible refine (header_Get.calls k _ _ t145 t149 t150 t151 _ ?side1 ?side2 A3.out).mono ?_); (case side1 => repeat (first | exact (Kd.R_reads' HO148.out).2.2 | (with_reducible refine Kd.C_alloc ?_ _) | (with_reducible refine Kd.C_drewN ?_ _) | (with_reducible refine Kd.C_drew ?_))); (case side2 => exact (Kd.R_reads' HO148.out).2.1); rintro e w50 ⟨rfl, hb⟩; refine ⟨_, rfl, ?_⟩; have n0_ := Aside0.mk (Kd.R_below (by (with_reducible repeat (first | apply Kd.R_alloc | apply Kd.R_drewN | apply Kd.R_drew)); exact HO148.out) hb); have n1_ := Aside0.mk (below_step (by repeat (first | (with_reducible first | exact HB.out | apply below_alloc | apply pw_below_drewN | apply below_drew1) | exact HB.out)) hb); clear HO148; clear HB; have HO148 := n0_; have HB := n1_; clear n0_ n1_; (try clear hb); (try clear hb2); (try clear hk); (try clear hi); have p152 : 0 ≤ (0 : Int) := (by omega); have q152 : 0 < (t145.length : Int) := of_decide_eq_true (by first | (with_reducible assumption) | assumption); obtain ⟨ad152, e152, hx152_0⟩ := Kd.at_int (Kd.R_reads' HO148.out).2.2 0 p152 q152; cases e152; have qi152 : (0 < t145.length) = True := eq_true (by omega); (try rw [show ((0 : Int)).toNat = 0 from rfl] at hx152_0); (try rw [Addr.add_zero'] at hx152_0); replace p152 := eq_true p152; replace q152 := eq_true q152))
          go_ret
          exact ⟨by first | rfl | (simp [errW_none, errW_some] <;> rfl) | (simp [*, errW_none, errW_some] <;> rfl), by repeat (first | (with_reducible first | exact HB.out | apply below_alloc | apply pw_below_drewN | apply below_drew1) | exact HB.out)⟩
      · rw [if_neg c5] at H
        exact absurd H (by simp)
    · rw [if_neg c4] at H
      have c4b0 : (t146 == 0) = false := beq_eq_false_iff_ne.mpr c4
      have c4b1 : (t146 != 0) = true := bne_iff_ne.mpr c4
      obtain rfl := Option.some.inj H
      go_enter Tryd.func16, Tryd.ntmps16
      go_wp2_with (first | ((with_reducible refine gate_callee (f := 17) rfl ?_); refine goesL_ (some 7) rfl rfl Tryd.func17 (by kernel_rfl) rfl #[.string (⟨#[97]⟩ : ByteArray), .int .i64 3] rfl (by (try simp only [List.map_toArray, List.map_cons, List.map_nil]); first | done | rfl | (simp only [List.length_drop, List.length_take]; rfl)) ?_; (with_reducible refine (header_Put.calls (⟨#[97]⟩ : ByteArray) 3 t145 t146 _ A1.out).mono ?_); rintro e w51 ⟨v147, rfl, ho0, hb⟩; refine ⟨_, rfl, ?_⟩; have n0_ := Aside0.mk (Kd.R_lower ho0 (below_size (by repeat (first | (with_reducible first | exact HB.out | apply below_alloc | apply pw_below_drewN | apply below_drew1) | exact HB.out)))); have n1_ := Aside0.mk (below_step (by repeat (first | (with_reducible first | exact HB.out | apply below_alloc | apply pw_below_drewN | apply below_drew1) | exact HB.out)) hb); clear HB; have HO148 := n0_; have HB := n1_; clear n0_ n1_; (try clear hb); (try clear hb2); (try clear hk); (try clear hi); (try clear ho0); obtain ⟨Ao52, co52, eo52⟩ := Kd.R_slice HO148.out; subst eo52) | ((with_reducible refine gate_callee (f := 19) rfl ?_); refine goesL_ (some 15) rfl rfl Tryd.func19 (by kernel_rfl) rfl #[.slice Ao52 t145.length co52] rfl (by (try simp only [List.map_toArray, List.map_cons, List.map_nil]); first | done | rfl | (simp only [List.length_drop, List.length_take]; rfl)) ?_; (with_reducible refine (header_Get.calls k _ _ t145 t149 t150 t151 _ ?side1 ?side2 A3.out).mono ?_); (case side1 => repeat (first | exact (Kd.R_reads' HO148.out).2.2 | (with_reducible refine Kd.C_alloc ?_ _) | (with_reducible refine Kd.C_drewN ?_ _) | (with_reducible refine Kd.C_drew ?_))); (case side2 => exact (Kd.R_reads' HO148.out).2.1); rintro e w53 ⟨rfl, hb⟩; refine ⟨_, rfl, ?_⟩; have n0_ := Aside0.mk (Kd.R_below (by (with_reducible repeat (first | apply Kd.R_alloc | apply Kd.R_drewN | apply Kd.R_drew)); exact HO148.out) hb); have n1_ := Aside0.mk (below_step (by repeat (first | (with_reducible first | exact HB.out | apply below_alloc | apply pw_below_drewN | apply below_drew1) | exact HB.out)) hb); clear HO148; clear HB; have HO148 := n0_; have HB := n1_; clear n0_ n1_; (try clear hb); (try clear hb2); (try clear hk); (try clear hi)))
      go_ret
      exact ⟨by first | rfl | (simp [errW_none, errW_some] <;> rfl) | (simp [*, errW_none, errW_some] <;> rfl), by repeat (first | (with_reducible first | exact HB.out | apply below_alloc | apply pw_below_drewN | apply below_drew1) | exact HB.out)⟩
  · rw [if_neg c2] at H
    have c2b0 : ((t145.length : Int) == 512) = false := beq_eq_false_iff_ne.mpr c2
    have c2b1 : ((t145.length : Int) != 512) = true := bne_iff_ne.mpr c2
    obtain rfl := Option.some.inj H
    go_enter Tryd.func16, Tryd.ntmps16
    go_wp2_with (first | ((with_reducible refine gate_callee (f := 17) rfl ?_); refine goesL_ (some 7) rfl rfl Tryd.func17 (by kernel_rfl) rfl #[.string (⟨#[97]⟩ : ByteArray), .int .i64 3] rfl (by (try simp only [List.map_toArray, List.map_cons, List.map_nil]); first | done | rfl | (simp only [List.length_drop, List.length_take]; rfl)) ?_; (with_reducible refine (header_Put.calls (⟨#[97]⟩ : ByteArray) 3 t145 t146 _ A1.out).mono ?_); rintro e w54 ⟨v147, rfl, ho0, hb⟩; refine ⟨_, rfl, ?_⟩; have n0_ := Aside0.mk (Kd.R_lower ho0 (below_size (by repeat (first | (with_reducible first | exact HB.out | apply below_alloc | apply pw_below_drewN | apply below_drew1) | exact HB.out)))); have n1_ := Aside0.mk (below_step (by repeat (first | (with_reducible first | exact HB.out | apply below_alloc | apply pw_below_drewN | apply below_drew1) | exact HB.out)) hb); clear HB; have HO148 := n0_; have HB := n1_; clear n0_ n1_; (try clear hb); (try clear hb2); (try clear hk); (try clear hi); (try clear ho0); obtain ⟨Ao55, co55, eo55⟩ := Kd.R_slice HO148.out; subst eo55))
    go_ret
    exact ⟨by first | rfl | (simp [errW_none, errW_some] <;> rfl) | (simp [*, errW_none, errW_some] <;> rfl), by repeat (first | (with_reducible first | exact HB.out | apply below_alloc | apply pw_below_drewN | apply below_drew1) | exact HB.out)⟩

end Go.Proofs.YtkcmkgkkddgicaaDoor.R

/- bindlelaw07's awake, by evaluation. -/
namespace Go.Proofs.YtkcmkgkkddgicaaDoor.R
open Go.RowKit Go.Proofs.YtkcmkgkkddgicaaDoorW.PrintWords Go.Proofs.YtkcmkgkkddgicaaDoorW.PrintLast Go.Proofs.YtkcmkgkkddgicaaDoorW.PrintMore
theorem toListF : ByteArray.toList = fun b => b.data.toList := funext ByteArray.toList_eq
set_option maxRecDepth 100000 in
theorem awake07 : bindlelaw07_awake.f 1000 = some true := by
  unfold bindlelaw07_awake.f header_Get.f path_Join.f
  rw [toListF]
  kernel_rfl
end Go.Proofs.YtkcmkgkkddgicaaDoor.R
