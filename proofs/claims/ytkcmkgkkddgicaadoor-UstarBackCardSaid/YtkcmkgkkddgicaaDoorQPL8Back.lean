/- The pure law UstarBack. -/
import Derived.Test.YtkcmkgkkddgicaaDoorQPlainC
import Derived.Test.YtkcmkgkkddgicaaDoorQRx19
set_option linter.unusedVariables false
set_option linter.unusedSimpArgs false
namespace Go.Proofs.YtkcmkgkkddgicaaDoor.R
open Go Go.RowKit Go.Proofs.YtkcmkgkkddgicaaDoorW.PrintWords Go.Proofs.YtkcmkgkkddgicaaDoorW.PrintLast Go.Proofs.YtkcmkgkkddgicaaDoorW.PrintMore
theorem pUstarBack (l : List S58) (hA : Arg l) : ∃ k, bindlelaw08_UstarBack.f k l = some true := by
  obtain ⟨k, hk⟩ := many
  refine ⟨k, ?_⟩
  unfold bindlelaw08_UstarBack.f
  rw [awake08_f]
  simp only [Option.bind_some]
  rcases small_cases hA (k := k) (by omega) with h | ⟨h, h1, h2⟩
  · rw [h]; rfl
  · rw [h]
    simp only [Option.bind_some]
    rw [if_pos trivial, ustar_Put_eq l hA.sane (by omega) (by omega)]
    simp only [Option.bind_some]
    by_cases h0 : (uput l).2 = 0
    · have hp := uput_split h0
      have hz := uput_len h0 h1 h2
      rw [if_pos h0, ustar_Get_eq _ (uput_bts hA.bts) (by omega), uget_ok hp]
      simp only [Option.bind_some]
      rw [if_pos trivial, if_pos trivial, Same_eq (by omega) hA.bts hA.bts (by omega), sameB_iff.2 rfl]
      simp only [Option.bind_some]
      have := (uput_mod hp).1
      rw [if_pos trivial, show ((uput l).1.length : Int) % 512 = 0 by omega]; rfl
    · rw [if_neg h0, if_pos trivial, uput_bad h0]; rfl
end Go.Proofs.YtkcmkgkkddgicaaDoor.R
