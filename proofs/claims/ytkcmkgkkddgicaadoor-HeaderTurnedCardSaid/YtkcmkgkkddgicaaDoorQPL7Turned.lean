/- The pure law HeaderTurned. -/
import Derived.Test.YtkcmkgkkddgicaaDoorQPL7B
import Derived.Test.YtkcmkgkkddgicaaDoorQRx11
set_option linter.unusedVariables false
set_option linter.unusedSimpArgs false
namespace Go.Proofs.YtkcmkgkkddgicaaDoor.R
open Go Go.RowKit Go.Proofs.YtkcmkgkkddgicaaDoorW.PrintWords Go.Proofs.YtkcmkgkkddgicaaDoorW.PrintLast Go.Proofs.YtkcmkgkkddgicaaDoorW.PrintMore
theorem pHeaderTurned (a0 : ByteArray) (a1 a2 a3 : Int) (h0 : a0.size ≤ 140737488351232) (h2 : 0 ≤ a2 ∧ a2 < 65536) (h3 : 0 ≤ a3 ∧ a3 < 256) : ∃ k, bindlelaw07_HeaderTurned.f k a0 a1 a2 a3 = some true := by
  refine ⟨3 * a0.size + 30001, ?_⟩
  unfold bindlelaw07_HeaderTurned.f
  rw [awake07_at (by omega), header_Put_eq a0 a1 (by omega)]
  simp only [Option.bind_some]
  by_cases hz : (hput a0 a1).2 = 0
  · have hp : hput a0 a1 = ((hput a0 a1).1, 0) := by rw [← hz]
    have hBb := hput_bts a0 a1
    have hlen := hput_len hp
    generalize (hput a0 a1).1 = b at hp hBb hlen ⊢
    rw [if_pos hz]
    simp only [bindlelaw07_HeaderTurned.j0]
    by_cases hm : a3 = 0
    · rw [if_pos (by rw [hm]; rfl)]
    · obtain ⟨j, hj, hj5⟩ := at512 a2 h2.1 h2.2
      have hjl : j < b.length := by omega
      have hbj := hBb _ (List.getElem_mem hjl)
      obtain ⟨x1, x2, x3⟩ := xor_bd b[j] a3 hbj h3
      have x3 := x3 hm
      rw [if_neg (by simpa using hm), if_pos (by omega), hj, if_pos (by omega), if_pos (by omega), rd_at hjl, Int.toNat_natCast]
      generalize Go.bits .xor .u8 b[j] a3 = v at x1 x2 x3 ⊢
      simp only [Option.bind_some, List.nil_append, List.length_nil]
      rw [rd_set_self hjl, x2, set_back hjl, header_Get_eq' (hBb.set j v x1) (by rw [List.length_set]; omega) (by omega)]
      simp only [Option.bind_some]
      rw [if_pos (by omega), if_pos (by omega), header_Get_eq' (hBb.app (fun x hx => by obtain rfl := List.mem_singleton.1 hx; exact h3)) (by rw [List.length_append, List.length_singleton]; omega) (by omega)]
      simp only [Option.bind_some]
      rw [if_pos (by omega), header_Get_eq' (hBb.take j) (by rw [List.length_take]; omega) (by omega)]
      simp only [Option.bind_some, if_true]
      rw [hget_short (b := b.take j) (by rw [List.length_take]; omega)]
      have hmore : hget (b ++ [a3]) = (⟨#[]⟩, 0, 2) := by
        refine hget_form (by rw [List.length_append, List.length_singleton]; omega) ?_
        rintro ⟨t, ht⟩
        have := hput_len ht
        rw [List.length_append, List.length_singleton] at this
        omega
      rw [hmore]
      rcases hget_cases (b.set j v) with ⟨hs, -⟩ | ⟨-, hg, -⟩ | ⟨s, n, hp', hg⟩
      · rw [List.length_set] at hs; omega
      · rw [hg]; rfl
      · rw [hg]
        simp only
        rw [if_neg (by decide), if_pos trivial]
        by_cases hs : s.toList = a0.toList
        · rw [if_pos hs]
          by_cases hn : n = a1
          · exfalso
            rw [ByteArray.toList_eq, ByteArray.toList_eq] at hs
            rw [ba_ext hs, hn, hp] at hp'
            have e := congrArg (fun l : List Int => l[j]?) (Prod.mk.inj hp').1
            simp only [List.getElem?_set_self hjl, List.getElem?_eq_getElem hjl] at e
            exact x3 (Option.some.inj e).symm
          · rw [if_neg hn, if_pos trivial]; rfl
        · rw [if_neg hs, if_pos trivial]; rfl
  · rw [if_neg hz]
    simp only [bindlelaw07_HeaderTurned.j0]
    rw [if_pos trivial]
end Go.Proofs.YtkcmkgkkddgicaaDoor.R
