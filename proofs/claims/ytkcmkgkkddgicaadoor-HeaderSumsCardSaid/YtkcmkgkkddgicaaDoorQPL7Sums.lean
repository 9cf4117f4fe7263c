/- The pure law HeaderSums. -/
import Derived.Test.YtkcmkgkkddgicaaDoorQPL7B
import Derived.Test.YtkcmkgkkddgicaaDoorQRx12
set_option linter.unusedVariables false
set_option linter.unusedSimpArgs false
namespace Go.Proofs.YtkcmkgkkddgicaaDoor.R
open Go Go.RowKit Go.Proofs.YtkcmkgkkddgicaaDoorW.PrintWords Go.Proofs.YtkcmkgkkddgicaaDoorW.PrintLast Go.Proofs.YtkcmkgkkddgicaaDoorW.PrintMore
theorem Sums_l0 (k0 : Nat) (t : List Int) (at_ : Int) (R : Option Bool) (b : List Int) (D : List Int) (hD : (b.take 156).drop 148 = D ++ [0, 32]) (hDl : D.length = 6) (hx : ∀ x ∈ D, 48 ≤ x ∧ x ≤ 55) (hb : b.length = 512)
    (hR : ∀ k, k0 ≤ k → bindlelaw07_HeaderSums.l0 k at_ true b (oval D) 154 = R) : ∀ (d k i : Nat), i + d = 6 → k0 + d ≤ k → bindlelaw07_HeaderSums.l0 k at_ true b (oval (D.take i)) ((148 + i : Nat) : Int) = R
  | 0, k, i, h, hk => by
    obtain rfl : i = 6 := by omega
    rw [List.take_of_length_le (by omega)]
    exact hR k (by omega)
  | d + 1, k, i, h, hk => by
    obtain ⟨k, rfl⟩ : ∃ j, k = j + 1 := ⟨k - 1, by omega⟩
    have hi : i < D.length := by omega
    have hb' := hx _ (List.getElem_mem hi)
    have ho := oval_bd i (D.take i) (by rw [List.length_take]; omega) (fun y hy => hx y (List.mem_of_mem_take hy))
    have hp : 8 ^ i ≤ 262144 := by
      have := Nat.pow_le_pow_right (show 0 < 8 by decide) (show i ≤ 6 by omega)
      have e : (8 : Nat) ^ 6 = 262144 := by decide
      omega
    have hr : rd b ((148 + i : Nat) : Int) = D[i] := by
      rw [rd_at (by omega)]
      have e := congrArg (fun l : List Int => l[i]?) hD
      simp only [List.getElem?_drop, List.getElem?_take] at e
      rw [if_pos (by omega), List.getElem?_append_left hi, List.getElem?_eq_getElem hi, List.getElem?_eq_getElem (by omega)] at e
      exact Option.some.inj e
    simp only [bindlelaw07_HeaderSums.l0]
    rw [if_pos (by omega), if_pos (by omega), if_pos (by omega), hr, w64b (n := 8 * oval (D.take i)) (by omega) (by omega), w64b (n := ((148 + i : Nat) : Int) + 1) (by omega) (by omega), w64b (by omega) (by omega)]
    have e : 8 * oval (D.take i) + (D[i] - 48) % 256 = oval (D.take (i + 1)) := by
      rw [List.take_succ_eq_append_getElem hi, oval_snoc]; omega
    rw [e, show ((148 + i : Nat) : Int) + 1 = ((148 + (i + 1) : Nat) : Int) by omega]
    exact Sums_l0 k0 t at_ R b D hD hDl hx hb hR d k (i + 1) (by omega) (by omega)
theorem pHeaderSums (a0 : ByteArray) (a1 a2 : Int) (h0 : a0.size ≤ 140737488351232) (h2 : 0 ≤ a2 ∧ a2 < 65536) : ∃ k, bindlelaw07_HeaderSums.f k a0 a1 a2 = some true := by
  refine ⟨3 * a0.size + 30001, ?_⟩
  unfold bindlelaw07_HeaderSums.f
  rw [awake07_at (by omega), header_Put_eq a0 a1 (by omega)]
  simp only [Option.bind_some]
  by_cases hz : (hput a0 a1).2 = 0
  · have hp : hput a0 a1 = ((hput a0 a1).1, 0) := by rw [← hz]
    have hBb := hput_bts a0 a1
    have hlen := hput_len hp
    generalize (hput a0 a1).1 = b at hp hBb hlen ⊢
    rw [if_pos hz, if_pos (by omega)]
    obtain ⟨p, q, ho⟩ := hput_ok hp
    obtain ⟨s1, s2, s3⟩ := ho.sum
    obtain ⟨j, hj, hj5⟩ := at512 a2 h2.1 h2.2
    have hjl : j < b.length := by omega
    have hbj := hBb _ (List.getElem_mem hjl)
    have key := Sums_l0 20000 [] a2 (some true) b _ s1 (digs_length ..) (digs_range 6 _) hlen ?_ 6 (3 * a0.size + 30001) 0 (by omega) (by omega)
    · exact key
    intro k hk
    obtain ⟨k, rfl⟩ : ∃ j, k = j + 1 := ⟨k - 1, by omega⟩
    rw [oval_digs 6 _ s3]
    simp only [bindlelaw07_HeaderSums.l0]
    rw [if_neg (by decide), hj, if_pos (by omega), if_pos (by omega), rd_at hjl, Int.toNat_natCast]
    simp only [Option.bind_some]
    have hv : 0 ≤ (b[j] + 1) % 256 ∧ (b[j] + 1) % 256 < 256 := by omega
    have hne : (b[j] + 1) % 256 ≠ b[j] := by omega
    have hbk : ((b[j] + 1) % 256 - 1) % 256 = b[j] := by omega
    rw [rd_set_self hjl, hbk, set_back hjl, header_Get_eq' (hBb.set j _ hv) (by rw [List.length_set]; omega) (by omega)]
    simp only [Option.bind_some]
    rw [if_pos trivial, ref05_Check_eq hBb (by omega) (by omega)]
    simp only [Option.bind_some]
    have hcast : (((ckFrom 0 b).toNat : Nat) : Int) = ckFrom 0 b := by omega
    have at_ : ∀ i : Nat, i < 2 → rd b ((154 + i : Nat) : Int) = ([0, 32] : List Int).getD i 0 := by
      intro i hi
      rw [rd_at (by omega)]
      have e := congrArg (fun l : List Int => l[6 + i]?) s1
      simp only [List.getElem?_drop, List.getElem?_take] at e
      rw [if_pos (by omega), List.getElem?_append_right (by rw [digs_length]; omega), digs_length, show 148 + (6 + i) = 154 + i by omega, show 6 + i - 6 = i by omega, List.getElem?_eq_getElem (by omega)] at e
      rw [List.getD_eq_getElem?_getD, ← e]; rfl
    rw [if_pos hcast, if_pos (by omega), show rd b 154 = 0 from at_ 0 (by decide), if_pos rfl, if_pos (by omega), show rd b 155 = 32 from at_ 1 (by decide), if_pos rfl]
    rcases hget_cases (b.set j ((b[j] + 1) % 256)) with ⟨hs, -⟩ | ⟨-, hg, -⟩ | ⟨s, n, hp', hg⟩
    · rw [List.length_set] at hs; omega
    · rw [hg]; rfl
    · exact (one_byte hp hjl hne hp').elim
  · rw [if_neg hz]
end Go.Proofs.YtkcmkgkkddgicaaDoor.R
