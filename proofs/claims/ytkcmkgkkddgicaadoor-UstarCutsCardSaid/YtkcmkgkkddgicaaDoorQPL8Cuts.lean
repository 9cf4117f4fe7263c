/- The pure law UstarCuts. -/
import Derived.Test.YtkcmkgkkddgicaaDoorQPlainC
import Derived.Test.YtkcmkgkkddgicaaDoorQRx21
set_option linter.unusedVariables false
set_option linter.unusedSimpArgs false
namespace Go.Proofs.YtkcmkgkkddgicaaDoor.R
open Go Go.RowKit Go.Proofs.YtkcmkgkkddgicaaDoorW.PrintWords Go.Proofs.YtkcmkgkkddgicaaDoorW.PrintLast Go.Proofs.YtkcmkgkkddgicaaDoorW.PrintMore
theorem pUstarCuts (l : List S58) (a : Int) (more : List Int) (hA : Arg l) (h2 : 0 ≤ a ∧ a < 65536) (hM : Bts more) : ∃ k, bindlelaw08_UstarCuts.f k l a more = some true := by
  obtain ⟨k, hk⟩ := many
  obtain ⟨k, rfl⟩ : ∃ j, k = j + 1 := ⟨k - 1, by omega⟩
  refine ⟨k + 1, ?_⟩
  unfold bindlelaw08_UstarCuts.f
  rw [awake08_f]
  simp only [Option.bind_some]
  have hT : bindlelaw08_UstarCuts.j0 (k + 1) l a more true true = some true := by
    simp only [bindlelaw08_UstarCuts.j0]
    rw [if_pos trivial]
  rcases small_cases hA (k := k + 1) (by omega) with h | ⟨h, h1, h3⟩
  · rw [h]
    simp only [Option.bind_some]
    rw [if_neg (by decide), hT]
  · rw [h]
    simp only [Option.bind_some]
    rw [if_pos trivial]
    by_cases hm : (more.length : Int) = 0
    · rw [if_pos hm, hT]
    · rw [if_neg hm]
      by_cases hm2 : (more.length : Int) > 5000
      · rw [decide_eq_true hm2, hT]
      · rw [decide_eq_false hm2]
        simp only [bindlelaw08_UstarCuts.j0]
        rw [if_neg (by decide), ustar_Put_eq l hA.sane (by omega) (by omega)]
        simp only [Option.bind_some]
        by_cases h0 : (uput l).2 = 0
        · have hp := uput_split h0
          have hz := uput_len h0 h1 h3
          have hBu := uput_bts hA.bts
          have hU := uput_ok.1 hp
          rw [if_pos h0]
          generalize (uput l).1 = b at hp hz hBu hU ⊢
          obtain ⟨j, hj, hjl⟩ := atMod a b.length h2.1 h2.2 (by omega)
          rw [if_neg (by omega), hj, if_pos (by omega), if_pos (by omega), Int.toNat_natCast, ustar_Get_eq _ (hBu.take j) (by rw [List.length_take]; omega)]
          simp only [Option.bind_some, List.nil_append, List.length_nil]
          rw [if_pos (by omega), if_pos (by omega), ustar_Get_eq _ (hBu.app hM) (by rw [List.length_append]; omega)]
          have g1 : uget (b.take j) = ([], 2) := by
            refine uget_bad fun m hmm => ?_
            have hV := uput_ok.1 hmm
            have e := (arcs_prefix m l hV.ok hU.ok (b.drop j) (by rw [← hV.b, ← hU.b, List.take_append_drop])).2
            have := congrArg List.length e
            rw [List.length_drop, List.length_nil] at this
            omega
          have g2 : uget (b ++ more) = ([], 2) := by
            refine uget_bad fun m hmm => ?_
            have hV := uput_ok.1 hmm
            have e := (arcs_prefix l m hU.ok hV.ok more (by rw [← hV.b, ← hU.b])).2
            rw [e] at hm
            exact hm rfl
          rw [g1, g2]; rfl
        · rw [if_neg h0]
end Go.Proofs.YtkcmkgkkddgicaaDoor.R
