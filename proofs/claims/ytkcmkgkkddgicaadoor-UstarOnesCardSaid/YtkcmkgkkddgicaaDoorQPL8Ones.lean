/- The pure law UstarOnes. -/
import Derived.Test.YtkcmkgkkddgicaaDoorQPlainC
import Derived.Test.YtkcmkgkkddgicaaDoorQRx20
set_option linter.unusedVariables false
set_option linter.unusedSimpArgs false
namespace Go.Proofs.YtkcmkgkkddgicaaDoor.R
open Go Go.RowKit Go.Proofs.YtkcmkgkkddgicaaDoorW.PrintWords Go.Proofs.YtkcmkgkkddgicaaDoorW.PrintLast Go.Proofs.YtkcmkgkkddgicaaDoorW.PrintMore
theorem pUstarOnes (b : List Int) (hB : Bts b) : bindlelaw08_UstarOnes.f b = some true := by
  unfold bindlelaw08_UstarOnes.f
  rw [awake08_f]
  simp only [Option.bind_some]
  by_cases h : (b.length : Int) > 60000
  · rw [if_pos h]
  · rw [if_neg h, ustar_Get_eq b hB (by omega)]
    simp only [Option.bind_some]
    rcases uget_cases b with ⟨hg, -⟩ | ⟨l, hg, hp⟩
    · rw [hg, if_neg (by decide), if_pos trivial, if_pos rfl]; rfl
    · have h' := uput_ok.1 hp
      rw [hg]
      simp only
      rw [if_pos trivial, ustar_Put_eq l (fun f hf => by have := put_sane hp f hf; omega) (by have := h'.len; omega) (by have := h'.sz; omega), hp]
      simp only [Option.bind_some]
      rw [if_pos trivial, if_pos trivial, beq_self_eq_true]
end Go.Proofs.YtkcmkgkkddgicaaDoor.R
