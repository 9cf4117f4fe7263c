/- The pure law UstarGets. -/
import Derived.Test.YtkcmkgkkddgicaaDoorQPlainC
import Derived.Test.YtkcmkgkkddgicaaDoorQRx17
set_option linter.unusedVariables false
set_option linter.unusedSimpArgs false
namespace Go.Proofs.YtkcmkgkkddgicaaDoor.R
open Go Go.RowKit Go.Proofs.YtkcmkgkkddgicaaDoorW.PrintWords Go.Proofs.YtkcmkgkkddgicaaDoorW.PrintLast Go.Proofs.YtkcmkgkkddgicaaDoorW.PrintMore
theorem pUstarGets (b : List Int) (hB : Bts b) : ∃ k, bindlelaw08_UstarGets.f k b = some true := by
  obtain ⟨k, hk⟩ := many
  refine ⟨k, ?_⟩
  unfold bindlelaw08_UstarGets.f
  rw [awake08_f]
  simp only [Option.bind_some]
  by_cases h : (b.length : Int) > 60000
  · rw [if_pos h]
  · rw [if_neg h, ustar_Get_eq b hB (by omega), ref08_Get_eq hB (by omega) (by omega)]
    simp only [Option.bind_some]
    rw [if_pos trivial]
    rcases uget_cases b with ⟨hg, -⟩ | ⟨l, hg, hp⟩
    · rw [hg, Same_eq (by decide) (by simp) (by simp) (by simp only [List.length_nil]; omega), sameB_iff.2 rfl]; rfl
    · have h' := uput_ok.1 hp
      have hl := h'.len
      rw [hg, Same_eq (by first | omega | (simp only; omega)) (put_bts hp hB) (put_bts hp hB) (by first | omega | (simp only; omega)), sameB_iff.2 rfl]; rfl
end Go.Proofs.YtkcmkgkkddgicaaDoor.R
