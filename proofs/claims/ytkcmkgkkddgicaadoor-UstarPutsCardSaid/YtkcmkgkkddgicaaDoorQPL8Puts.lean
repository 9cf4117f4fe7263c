/- The pure law UstarPuts. -/
import Derived.Test.YtkcmkgkkddgicaaDoorQPlainC
import Derived.Test.YtkcmkgkkddgicaaDoorQRx25
set_option linter.unusedVariables false
set_option linter.unusedSimpArgs false
namespace Go.Proofs.YtkcmkgkkddgicaaDoor.R
open Go Go.RowKit Go.Proofs.YtkcmkgkkddgicaaDoorW.PrintWords Go.Proofs.YtkcmkgkkddgicaaDoorW.PrintLast Go.Proofs.YtkcmkgkkddgicaaDoorW.PrintMore
def szs (l : List S58) : List Int := l.map (fun f => (f.f1.length : Int))
def total (l : List S58) : Nat := (l.map (fun f => 512 + rnd f.f1.length)).sum
theorem szs_get {l : List S58} {i : Nat} (h : i < l.length) : rd (szs l) (i : Int) = (l[i].f1.length : Int) := by
  rw [rd_at (by unfold szs; rw [List.length_map]; exact h)]; unfold szs; rw [List.getElem_map]
theorem szs_len (l : List S58) : (szs l).length = l.length := by unfold szs; rw [List.length_map]
theorem total_succ {l : List S58} {i : Nat} (h : i < l.length) : total (l.take (i + 1)) = total (l.take i) + (512 + rnd l[i].f1.length) := by
  have ha : ∀ a b : List S58, total (a ++ b) = total a + total b := by intro a b; unfold total; simp
  rw [List.take_succ_eq_append_getElem h, ha]
  congr 1
theorem total_le (l : List S58) : total l ≤ 1023 * l.length + sizes l := by
  induction l with
  | nil => simp [total]
  | cons f r ih =>
    have h1 : rnd f.f1.length ≤ f.f1.length + 511 := by unfold rnd; omega
    have h2 : total (f :: r) = (512 + rnd f.f1.length) + total r := by unfold total; simp
    have h3 : sizes (f :: r) = f.f1.length + sizes r := by unfold sizes; simp
    rw [h2, h3, List.length_cons]; omega
theorem total_arcs : ∀ l : List S58, (∀ f ∈ l, FOk f) → (arcs l).length = total l
  | [], _ => rfl
  | f :: r, h => by
    rw [arcs, List.length_append, entry_len (h f (List.mem_cons_self ..)), total_arcs r (fun g hg => h g (List.mem_cons_of_mem _ hg))]
    unfold total; simp
theorem Size_l0 (l : List S58) (hl : l.length ≤ 40) (hs : sizes l ≤ 20000) : ∀ (d k i : Nat), i + d = l.length → d < k →
    ustar_Size.l0 k ((1024 + total (l.take i) : Nat) : Int) (szs l) ((szs l).length : Int) (i : Int) = some ((1024 + total l : Nat) : Int)
  | 0, k, i, h, hk => by
    obtain ⟨k, rfl⟩ : ∃ j, k = j + 1 := ⟨k - 1, by omega⟩
    simp only [ustar_Size.l0]
    rw [szs_len, if_neg (by omega), List.take_of_length_le (by omega)]
  | d + 1, k, i, h, hk => by
    obtain ⟨k, rfl⟩ : ∃ j, k = j + 1 := ⟨k - 1, by omega⟩
    have hi : i < l.length := by omega
    have h1 := size_at hi
    have h2 := total_succ hi
    have h3 := total_le (l.take (i + 1))
    have h4 := sizes_le l (i + 1)
    rw [List.length_take] at h3
    have h5 : rnd l[i].f1.length ≤ l[i].f1.length + 511 := by unfold rnd; omega
    have ih := Size_l0 l hl hs d k (i + 1) (by omega) (by omega)
    simp only [ustar_Size.l0]
    rw [szs_len] at ih ⊢
    rw [if_pos (by omega), if_pos (by omega), if_pos (by omega), szs_get hi, round_rnd _ (by omega)]
    simp only [Option.bind_some]
    rw [w64b (n := 512 + ((rnd l[i].f1.length : Nat) : Int)) (by omega) (by omega), w64b (n := (i : Int) + 1) (by omega) (by omega), w64b (by omega) (by omega), show ((1024 + total (l.take i) : Nat) : Int) + (512 + ((rnd l[i].f1.length : Nat) : Int)) = ((1024 + total (l.take (i + 1)) : Nat) : Int) by omega, show (i : Int) + 1 = ((i + 1 : Nat) : Int) by omega]
    exact ih
theorem RefSize_l0 (l : List S58) (hl : l.length ≤ 40) (hs : sizes l ≤ 20000) : ∀ (d k i : Nat), i + d = l.length → d + 300000 < k →
    bindleref08_Size.l0 k (szs l) ((1024 + total (l.take i) : Nat) : Int) (i : Int) = some ((1024 + total l : Nat) : Int)
  | 0, k, i, h, hk => by
    obtain ⟨k, rfl⟩ : ∃ j, k = j + 1 := ⟨k - 1, by omega⟩
    simp only [bindleref08_Size.l0]
    rw [szs_len, if_neg (by omega), List.take_of_length_le (by omega)]
  | d + 1, k, i, h, hk => by
    obtain ⟨k, rfl⟩ : ∃ j, k = j + 1 := ⟨k - 1, by omega⟩
    have hi : i < l.length := by omega
    have h1 := size_at hi
    have h2 := total_succ hi
    have h3 := total_le (l.take (i + 1))
    have h4 := sizes_le l (i + 1)
    rw [List.length_take] at h3
    have h5 : rnd l[i].f1.length ≤ l[i].f1.length + 511 := by unfold rnd; omega
    have ih := RefSize_l0 l hl hs d k (i + 1) (by omega) (by omega)
    simp only [bindleref08_Size.l0]
    rw [szs_len, if_pos (by omega), if_pos (by omega), szs_get hi, ref_rnd (by omega) (by omega)]
    simp only [Option.bind_some]
    rw [w64b (n := ((1024 + total (l.take i) : Nat) : Int) + 512) (by omega) (by omega), w64b (n := (i : Int) + 1) (by omega) (by omega), w64b (by omega) (by omega), show ((1024 + total (l.take i) : Nat) : Int) + 512 + ((rnd l[i].f1.length : Nat) : Int) = ((1024 + total (l.take (i + 1)) : Nat) : Int) by omega, show (i : Int) + 1 = ((i + 1 : Nat) : Int) by omega]
    exact ih
theorem Puts_l0 (l : List S58) (hl : l.length ≤ 40) (x3 : Bool) (x4 : List Int) (x5 : Int) (x6 : List Int) (x7 : Int) (K : Nat) (R : Option Bool) (hR : ∀ k, K ≤ k → bindlelaw08_UstarPuts.l0 k l x3 x4 x5 x6 x7 (szs l) (l.length : Int) = R) :
    ∀ (d k i : Nat), i + d = l.length → K + d ≤ k → bindlelaw08_UstarPuts.l0 k l x3 x4 x5 x6 x7 (szs (l.take i)) (i : Int) = R
  | 0, k, i, h, hk => by
    obtain rfl : i = l.length := by omega
    rw [List.take_length]
    exact hR k (by omega)
  | d + 1, k, i, h, hk => by
    obtain ⟨k, rfl⟩ : ∃ j, k = j + 1 := ⟨k - 1, by omega⟩
    have hi : i < l.length := by omega
    simp only [bindlelaw08_UstarPuts.l0]
    rw [if_pos (by omega), if_pos (by omega), if_pos (by rw [szs_len, List.length_take]; omega), rdF hi, w64b (by omega) (by omega), show (i : Int) + 1 = ((i + 1 : Nat) : Int) by omega]
    have e : szs (l.take i) ++ [(l[i].f1.length : Int)] = szs (l.take (i + 1)) := by
      rw [List.take_succ_eq_append_getElem hi]; unfold szs; rw [List.map_append, List.map_singleton]
    rw [e]
    exact Puts_l0 l hl x3 x4 x5 x6 x7 K R hR d k (i + 1) (by omega) (by omega)
theorem pUstarPuts (l : List S58) (hA : Arg l) : ∃ k, bindlelaw08_UstarPuts.f k l = some true := by
  obtain ⟨k, hk⟩ := many
  refine ⟨k, ?_⟩
  unfold bindlelaw08_UstarPuts.f
  rw [awake08_f]
  simp only [Option.bind_some]
  rcases small_cases hA (k := k) (by omega) with h | ⟨h, h1, h2⟩
  · rw [h]; rfl
  · rw [h]
    simp only [Option.bind_some]
    rw [if_pos trivial, ustar_Put_eq l hA.sane (by omega) (by omega), ref08_Put_eq hA.name (by omega) (by omega) (by omega) (by omega)]
    simp only [Option.bind_some]
    have key := fun hR => Puts_l0 l h1 true (uput l).1 (uput l).2 (uput l).1 (uput l).2 400000 (some true) hR l.length k 0 (by omega) (by omega)
    rw [List.take_zero, show szs [] = [] from rfl, show ((0 : Nat) : Int) = 0 from rfl] at key
    refine key ?_
    clear key
    intro k hk
    obtain ⟨k, rfl⟩ : ∃ j, k = j + 1 := ⟨k - 1, by omega⟩
    have e1 : ustar_Size.f k (szs l) = some ((1024 + total l : Nat) : Int) := Size_l0 l h1 h2 l.length k 0 (by omega) (by omega)
    have e2 : bindleref08_Size.f k (szs l) = some ((1024 + total l : Nat) : Int) := RefSize_l0 l h1 h2 l.length k 0 (by omega) (by omega)
    simp only [bindlelaw08_UstarPuts.l0]
    rw [if_neg (by omega), e1, e2]
    simp only [Option.bind_some, if_true]
    by_cases h0 : (uput l).2 = 0
    · have hU := uput_ok.1 (uput_split h0)
      have e := congrArg List.length hU.b
      rw [List.length_append, Z_len, total_arcs l hU.ok] at e
      rw [if_pos h0, show ((uput l).1.length : Int) = ((1024 + total l : Nat) : Int) by omega, beq_self_eq_true]
    · rw [if_neg h0]
end Go.Proofs.YtkcmkgkkddgicaaDoor.R
