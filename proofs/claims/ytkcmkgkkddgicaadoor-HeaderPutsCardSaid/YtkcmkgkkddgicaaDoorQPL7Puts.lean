/- The pure law HeaderPuts. -/
import Derived.Test.YtkcmkgkkddgicaaDoorQPL7B
import Derived.Test.YtkcmkgkkddgicaaDoorQRx9
set_option linter.unusedVariables false
set_option linter.unusedSimpArgs false
namespace Go.Proofs.YtkcmkgkkddgicaaDoor.R
open Go Go.RowKit Go.Proofs.YtkcmkgkkddgicaaDoorW.PrintWords Go.Proofs.YtkcmkgkkddgicaaDoorW.PrintLast Go.Proofs.YtkcmkgkkddgicaaDoorW.PrintMore
theorem pHeaderPuts (a0 : ByteArray) (a1 : Int) (l2 : List Int) (h0 : a0.size ≤ 140737488351232) (hB : Bts l2) (hl : l2.length ≤ 140737488351232) : ∃ k, bindlelaw07_HeaderPuts.f k a0 a1 l2 = some true := by
  refine ⟨3 * a0.size + 30000, ?_⟩
  unfold bindlelaw07_HeaderPuts.f
  rw [awake07_at (by omega), header_Put_eq a0 a1 (by omega), ref07_Put_eq h0 (by omega), header_Get_eq' hB hl (by omega), ref07_Get_eq hB hl (by omega)]
  simp only [Option.bind_some, if_true, beq_self_eq_true]
end Go.Proofs.YtkcmkgkkddgicaaDoor.R
