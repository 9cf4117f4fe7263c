/- The pure law UstarTurned. -/
import Derived.Test.YtkcmkgkkddgicaaDoorQPlainC
import Derived.Test.YtkcmkgkkddgicaaDoorQRx22
import Derived.Test.YtkcmkgkkddgicaaDoorQPL7B
set_option linter.unusedVariables false
set_option linter.unusedSimpArgs false
namespace Go.Proofs.YtkcmkgkkddgicaaDoor.R
open Go Go.RowKit Go.Proofs.YtkcmkgkkddgicaaDoorW.PrintWords Go.Proofs.YtkcmkgkkddgicaaDoorW.PrintLast Go.Proofs.YtkcmkgkkddgicaaDoorW.PrintMore
theorem pUstarTurned (l : List S58) (a m : Int) (hA : Arg l) (h2 : 0 ≤ a ∧ a < 65536) (h4 : 0 ≤ m ∧ m < 256) : ∃ k, bindlelaw08_UstarTurned.f k l a m = some true := by
  obtain ⟨k, hk⟩ := many
  obtain ⟨k, rfl⟩ : ∃ j, k = j + 1 := ⟨k - 1, by omega⟩
  refine ⟨k + 1, ?_⟩
  unfold bindlelaw08_UstarTurned.f
  rw [awake08_f]
  simp only [Option.bind_some]
  have hT : bindlelaw08_UstarTurned.j0 (k + 1) l a m true true = some true := by
    simp only [bindlelaw08_UstarTurned.j0]
    rw [if_pos trivial]
  rcases small_cases hA (k := k + 1) (by omega) with h | ⟨h, h1, h3⟩
  · rw [h]
    simp only [Option.bind_some]
    rw [if_neg (by decide), hT]
  · rw [h]
    simp only [Option.bind_some]
    rw [if_pos trivial]
    by_cases hm : m = 0
    · rw [show (m == 0) = true by rw [hm]; rfl, hT]
    · rw [show (m == 0) = false by simpa using hm]
      simp only [bindlelaw08_UstarTurned.j0]
      rw [if_neg (by decide), ustar_Put_eq l hA.sane (by omega) (by omega)]
      simp only [Option.bind_some]
      by_cases h0 : (uput l).2 = 0
      · have hp := uput_split h0
        have hz := uput_len h0 h1 h3
        have hBu := uput_bts hA.bts
        rw [if_pos h0]
        generalize (uput l).1 = b at hp hz hBu ⊢
        obtain ⟨j, hj, hjl⟩ := atMod a b.length h2.1 h2.2 (by omega)
        obtain ⟨x1, -, x3⟩ := xor_bd b[j] m (hBu _ (List.getElem_mem hjl)) h4
        have x3 := x3 hm
        rw [if_neg (by omega), hj, if_pos (by omega), if_pos (by omega), Int.toNat_natCast, rd_at hjl]
        generalize Go.bits .xor .u8 b[j] m = v at x1 x3 ⊢
        rw [ustar_Get_eq _ (hBu.set j v x1) (by rw [List.length_set]; omega)]
        simp only [Option.bind_some]
        rw [if_pos trivial]
        rcases uget_cases (b.set j v) with ⟨hg, -⟩ | ⟨l2, hg, hp2⟩
        · rw [hg, if_pos rfl]
        · rw [hg]
          simp only
          rw [if_neg (by decide), Same_eq (by omega) hA.bts (put_bts hp2 (hBu.set j v x1)) (by omega), sameB_no]
          · rfl
          · rintro rfl
            have e := congrArg (fun l : List Int => l[j]?) (Prod.mk.inj (hp.symm.trans hp2)).1
            simp only [List.getElem?_set_self hjl, List.getElem?_eq_getElem hjl] at e
            exact x3 (Option.some.inj e).symm
      · rw [if_neg h0]
end Go.Proofs.YtkcmkgkkddgicaaDoor.R
