/- The pure law UstarJoins. -/
import Derived.Test.YtkcmkgkkddgicaaDoorJPlainC
import Derived.Test.YtkcmkgkkddgicaaDoorJRx23
set_option linter.unusedVariables false
set_option linter.unusedSimpArgs false
namespace Go.Proofs.YtkcmkgkkddgicaaDoor.R
open Go Go.RowKit Go.Proofs.YtkcmkgkkddgicaaDoorW.PrintWords Go.Proofs.YtkcmkgkkddgicaaDoorW.PrintLast Go.Proofs.YtkcmkgkkddgicaaDoorW.PrintMore
theorem sub_ok {l m : List S58} {b : List Int} (h : UOk (l ++ m) b) : UOk l (arcs l ++ Z1024) ∧ UOk m (arcs m ++ Z1024) := by
  have h1 := h.len
  have h2 := h.sz
  rw [List.length_append] at h1
  rw [sizes_app] at h2
  have h3 := h.nd
  rw [List.map_append, List.nodup_append] at h3
  exact ⟨⟨by omega, by omega, fun f hf => h.ok f (List.mem_append_left _ hf), h3.1, rfl⟩, ⟨by omega, by omega, fun f hf => h.ok f (List.mem_append_right _ hf), h3.2.1, rfl⟩⟩
theorem str_app (a b : List Int) : strOfNums a ++ strOfNums b = strOfNums (a ++ b) := by
  refine ba_ext ?_
  rw [app_data, strOfNums_data, strOfNums_data, strOfNums_data, List.map_append]
theorem pUstarJoins (l m : List S58) (hA : Arg l) (hA2 : Arg m) : ∃ k, bindlelaw08_UstarJoins.f k l m = some true := by
  obtain ⟨k, hk⟩ := many
  obtain ⟨k, rfl⟩ : ∃ j, k = j + 2 := ⟨k - 2, by omega⟩
  refine ⟨k + 2, ?_⟩
  unfold bindlelaw08_UstarJoins.f
  rw [awake08_f]
  simp only [Option.bind_some]
  have hT : bindlelaw08_UstarJoins.j0 (k + 2) l m true true = some true := by
    simp only [bindlelaw08_UstarJoins.j0]
    rw [if_pos trivial]
  rcases small_cases hA (k := k + 2) (by omega) with h | ⟨h, h1, h3⟩
  · rw [h]
    simp only [Option.bind_some]
    rw [if_neg (by decide), hT]
  rw [h]
  simp only [Option.bind_some]
  rw [if_pos trivial]
  rcases small_cases hA2 (k := k + 2) (by omega) with h' | ⟨h', h1', h3'⟩
  · rw [h']
    simp only [Option.bind_some]
    rw [show (!false) = true from rfl, hT]
  rw [h']
  simp only [Option.bind_some]
  rw [show (!true) = false from rfl]
  have hsn : Sane (l ++ m) := fun f hf => (List.mem_append.1 hf).elim (hA.sane f) (hA2.sane f)
  simp only [bindlelaw08_UstarJoins.j0]
  rw [if_neg (by decide), ustar_Put_eq l hA.sane (by omega) (by omega), ustar_Put_eq m hA2.sane (by omega) (by omega)]
  simp only [Option.bind_some, List.nil_append, List.length_nil]
  rw [if_pos (by omega), if_pos (by omega), ustar_Put_eq (l ++ m) hsn (by rw [List.length_append]; omega) (by rw [sizes_app]; omega)]
  simp only [Option.bind_some]
  have hno : ((uput l).2 ≠ 0 ∨ (uput m).2 ≠ 0) → (uput (l ++ m)).2 ≠ 0 := by
    intro hor h0
    obtain ⟨u1, u2⟩ := sub_ok (uput_ok.1 (uput_split h0))
    rcases hor with h | h
    · exact h (by rw [uput_ok.2 u1])
    · exact h (by rw [uput_ok.2 u2])
  by_cases g1 : (uput l).2 = 0
  · rw [if_pos g1]
    by_cases g2 : (uput m).2 = 0
    · rw [show ((uput m).2 != 0) = false from bne_eq_false_iff_eq.mpr g2]
      simp only [bindlelaw08_UstarJoins.j1]
      rw [if_neg (by decide)]
      have u1 := uput_ok.1 (uput_split g1)
      have u2 := uput_ok.1 (uput_split g2)
      have hz := uput_len g1 h1 h3
      have hz2 := uput_len g2 h1' h3'
      by_cases g3 : (uput (l ++ m)).2 = 0
      · have u3 := uput_ok.1 (uput_split g3)
        rw [if_pos g3, if_neg (by omega), if_pos trivial, w64b (n := ((uput l).1.length : Int) - 1024) (by omega) (by omega), if_pos (by omega), if_pos (by omega)]
        simp only [Option.bind_some]
        have ht : (uput l).1.take (((uput l).1.length : Int) - 1024).toNat = arcs l := by
          have e := congrArg List.length u1.b
          rw [List.length_append, Z_len] at e
          rw [show (((uput l).1.length : Int) - 1024).toNat = (arcs l).length by omega, u1.b, app_take' rfl]
        have hal := congrArg List.length u1.b
        rw [List.length_append, Z_len] at hal
        rw [ht, if_pos (by rw [strOfNums_size, strOfNums_size]; omega), str_app, u3.b, u2.b, arcs_app, List.append_assoc, beq_self_eq_true]
      · rw [if_neg g3, if_pos trivial]
        have : (uput (l ++ m)).2 = 7 := by
          unfold uput at g3 ⊢
          rw [if_neg (by rw [List.length_append, sizes_app]; omega)] at g3 ⊢
          rw [if_neg (by rw [bad_app, if_pos ((bad_none l).2 u1.ok)]; exact not_not_intro ((bad_none m).2 u2.ok))] at g3 ⊢
          split at g3
          · exact absurd rfl g3
          · rename_i hd; rw [if_neg hd]
        rw [this]; rfl
    · rw [show ((uput m).2 != 0) = true from bne_iff_ne.mpr g2]
      simp only [bindlelaw08_UstarJoins.j1]
      rw [if_pos trivial, if_pos trivial, show ((uput (l ++ m)).2 != 0) = true from bne_iff_ne.mpr (hno (.inr g2))]
  · rw [if_neg g1]
    simp only [bindlelaw08_UstarJoins.j1]
    rw [if_pos trivial, if_pos trivial, show ((uput (l ++ m)).2 != 0) = true from bne_iff_ne.mpr (hno (.inl g1))]
end Go.Proofs.YtkcmkgkkddgicaaDoor.R
