/- The pure law HeaderRounds. -/
import Derived.Test.YtkcmkgkkddgicaaDoorQPL7B
import Derived.Test.YtkcmkgkkddgicaaDoorQRx14
set_option linter.unusedVariables false
set_option linter.unusedSimpArgs false
namespace Go.Proofs.YtkcmkgkkddgicaaDoor.R
open Go Go.RowKit Go.Proofs.YtkcmkgkkddgicaaDoorW.PrintWords Go.Proofs.YtkcmkgkkddgicaaDoorW.PrintLast Go.Proofs.YtkcmkgkkddgicaaDoorW.PrintMore
def rndI (s : Int) : Nat := (s.toNat + 511) / 512
theorem round_any (s : Int) (h1 : -1000000000 ≤ s) (h2 : s ≤ 1000000000) : header_Round.f s = some ((512 * rndI s : Nat) : Int) := by
  unfold header_Round.f rndI
  have hm : mx s 0 = (s.toNat : Int) := by unfold mx; split <;> omega
  rw [hm, w64b (n := (s.toNat : Int) + 512) (by omega) (by omega), w64b (n := (s.toNat : Int) + 512 - 1) (by omega) (by omega), Int.tdiv_eq_ediv_of_nonneg (by omega), w64b (n := ((s.toNat : Int) + 512 - 1) / 512) (by omega) (by omega), w64b (by omega) (by omega)]
  exact congrArg some (by omega)
theorem ref_Round_l0 (s : Int) (h1 : s ≤ 1000000000) : ∀ (d k i : Nat), i + d = rndI s → d < k → bindleref07_Round.l0 k s ((512 * i : Nat) : Int) = some ((512 * rndI s : Nat) : Int)
  | 0, k, i, h, hk => by
    obtain ⟨k, rfl⟩ : ∃ j, k = j + 1 := ⟨k - 1, by omega⟩
    unfold rndI at h ⊢
    simp only [bindleref07_Round.l0]
    rw [if_neg (by omega)]
    exact congrArg some (by omega)
  | d + 1, k, i, h, hk => by
    obtain ⟨k, rfl⟩ : ∃ j, k = j + 1 := ⟨k - 1, by omega⟩
    have h' := h
    unfold rndI at h'
    simp only [bindleref07_Round.l0]
    rw [if_pos (by omega), w64b (by omega) (by omega), show ((512 * i : Nat) : Int) + 512 = ((512 * (i + 1) : Nat) : Int) by omega]
    exact ref_Round_l0 s h1 d k (i + 1) (by omega) (by omega)
theorem ref_Round_any {s : Int} {k : Nat} (h1 : s ≤ 1000000000) (hk : rndI s < k) : bindleref07_Round.f k s = some ((512 * rndI s : Nat) : Int) :=
  ref_Round_l0 s h1 (rndI s) k 0 (by omega) hk
theorem Rounds_l0 (x0 : Int) (l : List Int) (x6 : Int) (hl : l.length ≤ 140737488351232) (k0 : Nat) (R : Option Bool) (hR : ∀ k, k0 ≤ k → bindlelaw07_HeaderRounds.l0 k x0 l true x6 (l.all (fun x => x == 0)) (l.length : Int) = R) :
    ∀ (d k i : Nat), i + d = l.length → k0 + d ≤ k → bindlelaw07_HeaderRounds.l0 k x0 l true x6 ((l.take i).all (fun x => x == 0)) (i : Int) = R
  | 0, k, i, h, hk => by
    obtain rfl : i = l.length := by omega
    rw [List.take_length]
    exact hR k (by omega)
  | d + 1, k, i, h, hk => by
    obtain ⟨k, rfl⟩ : ∃ j, k = j + 1 := ⟨k - 1, by omega⟩
    have hi : i < l.length := by omega
    have ih := Rounds_l0 x0 l x6 hl k0 R hR d k (i + 1) (by omega) (by omega)
    rw [List.take_succ_eq_append_getElem hi, List.all_append, List.all_cons, List.all_nil, Bool.and_true] at ih
    simp only [bindlelaw07_HeaderRounds.l0]
    rw [if_pos (by omega), w64b (by omega) (by omega), show (i : Int) + 1 = ((i + 1 : Nat) : Int) by omega, rd_at hi]
    cases hb : (l.take i).all (fun x => x == 0) with
    | true =>
      rw [hb, Bool.true_and] at ih
      rw [if_pos rfl, if_pos (by omega)]
      exact ih
    | false =>
      rw [hb, Bool.false_and] at ih
      rw [if_neg (by decide)]
      exact ih
theorem pHeaderRounds (a0 : Int) (l1 : List Int) (h0 : -9223372036854775808 ≤ a0 ∧ a0 ≤ 9223372036854775807) (hl : l1.length ≤ 140737488351232) : ∃ k, bindlelaw07_HeaderRounds.f k a0 l1 = some true := by
  refine ⟨l1.length + 30001, ?_⟩
  unfold bindlelaw07_HeaderRounds.f
  have ht : -100000 < Int.tmod a0 100000 ∧ Int.tmod a0 100000 < 100000 := by
    by_cases h : 0 ≤ a0
    · rw [Int.tmod_eq_emod_of_nonneg h]; omega
    · obtain ⟨b, rfl⟩ : ∃ b, a0 = -b := ⟨-a0, by omega⟩
      rw [Int.neg_tmod, Int.tmod_eq_emod_of_nonneg (by omega)]; omega
  rw [awake07_at (by omega), round_any _ (by omega) (by omega)]
  simp only [Option.bind_some]
  have key := fun hR => Rounds_l0 a0 l1 ((512 * rndI (Int.tmod a0 100000) : Nat) : Int) hl 30000 (some true) hR l1.length (l1.length + 30001) 0 (by omega) (by omega)
  rw [List.take_zero, List.all_nil, show ((0 : Nat) : Int) = 0 from rfl] at key
  refine key ?_
  clear key
  intro k hk
  obtain ⟨k, rfl⟩ : ∃ j, k = j + 1 := ⟨k - 1, by omega⟩
  simp only [bindlelaw07_HeaderRounds.l0]
  generalize Int.tmod a0 100000 = s at ht ⊢
  have hr : rndI s < k := by unfold rndI; omega
  rw [if_neg (by omega), if_pos trivial, ref_Round_any (by omega) hr]
  simp only [Option.bind_some]
  have e : Int.tmod ((512 * rndI s : Nat) : Int) 512 = 0 := by rw [Int.tmod_eq_emod_of_nonneg (by omega)]; omega
  rw [if_pos trivial, e, if_pos rfl, if_pos (by unfold rndI; omega), if_pos (by omega)]
  unfold header_Blank.f
  simp only [Option.bind_some, beq_self_eq_true, if_true, List.all_nil]
  by_cases hz : ((512 * rndI s : Nat) : Int) = 0
  · rw [if_pos hz]
  · rw [if_neg hz, w64b (by omega) (by unfold rndI; omega), if_pos (by unfold rndI at hz ⊢; omega)]
end Go.Proofs.YtkcmkgkkddgicaaDoor.R
