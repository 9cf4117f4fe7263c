/- The pure law HeaderBack. -/
import Derived.Test.YtkcmkgkkddgicaaDoorQPL7B
import Derived.Test.YtkcmkgkkddgicaaDoorQRx10
set_option linter.unusedVariables false
set_option linter.unusedSimpArgs false
namespace Go.Proofs.YtkcmkgkkddgicaaDoor.R
open Go Go.RowKit Go.Proofs.YtkcmkgkkddgicaaDoorW.PrintWords Go.Proofs.YtkcmkgkkddgicaaDoorW.PrintLast Go.Proofs.YtkcmkgkkddgicaaDoorW.PrintMore
theorem pHeaderBack (a0 : ByteArray) (a1 : Int) (l2 : List Int) (h0 : a0.size ≤ 140737488351232) (hB : Bts l2) (hl : l2.length ≤ 140737488351232) : ∃ k, bindlelaw07_HeaderBack.f k a0 a1 l2 = some true := by
  refine ⟨3 * a0.size + 30001, ?_⟩
  unfold bindlelaw07_HeaderBack.f
  rw [awake07_at (by omega), header_Put_eq a0 a1 (by omega)]
  simp only [Option.bind_some]
  have hj : bindlelaw07_HeaderBack.j0 (3 * a0.size + 30001) l2 true = some true := by
    simp only [bindlelaw07_HeaderBack.j0]
    rw [header_Get_eq' hB hl (by omega)]
    simp only [Option.bind_some]
    rcases hget_cases l2 with ⟨-, hg⟩ | ⟨-, hg, -⟩ | ⟨s, n, hp, hg⟩
    · rw [hg, if_neg (by decide), if_pos trivial, if_pos (by rw [ByteArray.toList_eq])]; rfl
    · rw [hg, if_neg (by decide), if_pos trivial, if_pos (by rw [ByteArray.toList_eq])]; rfl
    · rw [hg]
      simp only
      obtain ⟨p, q, ho⟩ := hput_ok hp
      rw [if_pos trivial, header_Put_eq s n (by have := ho.size_le; omega), hp]
      simp only [Option.bind_some, if_true, beq_self_eq_true]
  by_cases hz : (hput a0 a1).2 = 0
  · have hp : hput a0 a1 = ((hput a0 a1).1, 0) := by rw [← hz]
    rw [if_pos hz, header_Get_eq' (hput_bts a0 a1) (by rw [hput_len hp]; decide) (by omega), hget_ok hp]
    simp only [Option.bind_some]
    rw [if_pos trivial, if_pos trivial, if_pos trivial, if_pos (by rw [hput_len hp]; rfl), hj]
  · rw [if_neg hz, hj]
end Go.Proofs.YtkcmkgkkddgicaaDoor.R
