/- What the pure laws of layer 7 share. -/
import Derived.Test.YtkcmkgkkddgicaaDoorQPlain
import Derived.Test.YtkcmkgkkddgicaaDoorQHGet
import Derived.Laws.BitsAllLaws
set_option linter.unusedVariables false
set_option linter.unusedSimpArgs false
namespace Go.Proofs.YtkcmkgkkddgicaaDoor.R
open Go Go.RowKit Go.Proofs.YtkcmkgkkddgicaaDoorW.PrintWords Go.Proofs.YtkcmkgkkddgicaaDoorW.PrintLast Go.Proofs.YtkcmkgkkddgicaaDoorW.PrintMore
theorem awake07_at {k : Nat} (hk : 1000 ≤ k) : bindlelaw07_awake.f k = some true := at_rounds (g := fun k => bindlelaw07_awake.f k) bindlelaw07_awake.mono hk awake07
theorem xor_bd (a b : Int) (ha : 0 ≤ a ∧ a < 256) (hb : 0 ≤ b ∧ b < 256) : (0 ≤ Go.bits .xor .u8 a b ∧ Go.bits .xor .u8 a b < 256) ∧ Go.bits .xor .u8 (Go.bits .xor .u8 a b) b = a ∧ (b ≠ 0 → Go.bits .xor .u8 a b ≠ a) := by
  have e := u8_xor a b ha.1 ha.2 hb.1 hb.2
  have h1 : a.toNat ^^^ b.toNat < 2 ^ 8 := Nat.xor_lt_two_pow (by omega) (by omega)
  have h2 : ((a.toNat ^^^ b.toNat : Nat) : Int) < 256 := by omega
  refine ⟨by rw [e]; omega, ?_, fun hb0 h => ?_⟩
  · rw [e, u8_xor _ b (by omega) h2 hb.1 hb.2, Int.toNat_natCast, Nat.xor_assoc, Nat.xor_self, Nat.xor_zero]; omega
  · rw [e] at h
    have h3 : a.toNat ^^^ b.toNat = a.toNat := by omega
    have h4 := congrArg (a.toNat ^^^ ·) h3
    simp only [← Nat.xor_assoc, Nat.xor_self, Nat.zero_xor] at h4
    omega
theorem Bts.set {l : List Int} (h : Bts l) (k : Nat) (v : Int) (hv : 0 ≤ v ∧ v < 256) : Bts (l.set k v) := fun x hx => by
  rcases List.mem_or_eq_of_mem_set hx with hx | rfl
  · exact h x hx
  · exact hv
theorem set_back {l : List Int} {k : Nat} (h : k < l.length) (v : Int) : (l.set k v).set k l[k] = l := by
  rw [List.set_set, List.set_getElem_self]
theorem rd_set_self {l : List Int} {k : Nat} (h : k < l.length) (v : Int) : rd (l.set k v) (k : Int) = v := by
  rw [rd_at (by rw [List.length_set]; exact h), List.getElem_set_self]
theorem at512 (a : Int) (h0 : 0 ≤ a) (h1 : a < 65536) : ∃ j : Nat, Int.tmod (wrap64 a) 512 = j ∧ j < 512 := by
  rw [w64b (by omega) (by omega), Int.tmod_eq_emod_of_nonneg h0]
  exact ⟨(a % 512).toNat, by omega, by omega⟩
theorem u16_wf {x : Int} (h : (Lit.int .u16 x).wf = true) : 0 ≤ x ∧ x < 65536 := by
  simp only [Lit.wf, Bool.and_eq_true, decide_eq_true_eq] at h
  have e1 : IntKind.u16.min = 0 := by decide
  have e2 : IntKind.u16.max = 65535 := by decide
  omega
theorem u8_wf {x : Int} (h : (Lit.int .u8 x).wf = true) : 0 ≤ x ∧ x < 256 := by
  simp only [Lit.wf, Bool.and_eq_true, decide_eq_true_eq] at h
  have e1 : IntKind.u8.min = 0 := by decide
  have e2 : IntKind.u8.max = 255 := by decide
  omega
theorem i64_wf {x : Int} (h : (Lit.int .i64 x).wf = true) : -9223372036854775808 ≤ x ∧ x ≤ 9223372036854775807 := by
  simp only [Lit.wf, Bool.and_eq_true, decide_eq_true_eq] at h
  have e1 : IntKind.i64.min = -9223372036854775808 := by decide
  have e2 : IntKind.i64.max = 9223372036854775807 := by decide
  omega
theorem Bts_wf {l : List Int} (h : ∀ x ∈ l, (Lit.int .u8 x).wf = true) : Bts l := fun x hx => u8_wf (h x hx)
end Go.Proofs.YtkcmkgkkddgicaaDoor.R
