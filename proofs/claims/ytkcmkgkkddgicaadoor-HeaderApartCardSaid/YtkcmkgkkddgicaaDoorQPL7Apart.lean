/- The law HeaderApart, over the plain answers. -/
import Derived.Test.YtkcmkgkkddgicaaDoorQPL7B
import Derived.Test.YtkcmkgkkddgicaaDoorQApart
set_option linter.unusedVariables false
set_option linter.unusedSimpArgs false
namespace Go.Proofs.YtkcmkgkkddgicaaDoor.R
open Go Go.RowKit Go.Proofs.YtkcmkgkkddgicaaDoorW.PrintWords Go.Proofs.YtkcmkgkkddgicaaDoorW.PrintLast Go.Proofs.YtkcmkgkkddgicaaDoorW.PrintMore
theorem hput_nil {s : ByteArray} {n : Int} (h : ¬ (hput s n).2 = 0) : (hput s n).1 = [] := by rcases hput_bad h with e | e <;> rw [e]
theorem bne_t {a b : Int} (h : ¬ a = b) : (a != b) = true := bne_iff_ne.mpr h
theorem bne_f {a b : Int} (h : a = b) : (a != b) = false := bne_eq_false_iff_eq.mpr h
theorem HeaderApart_true (s t : ByteArray) (n m : Int) (hs : s.size ≤ 140737488351232) (ht : t.size ≤ 140737488351232) (w : World) :
    Calls Tryd.prog 7 #[.string s, .string t, .agg #[.int .i64 n, .int .i64 m]] w fun e w' => e = .returned (.bool true) ∧ Below w.heap.size w w' := by
  have hk := awake07_at (k := 1000) (Nat.le_refl _)
  have hA : header_Put.f s n = some ((hput s n).1, (hput s n).2) := header_Put_eq s n (by omega)
  have hB : header_Put.f t m = some ((hput t m).1, (hput t m).2) := header_Put_eq t m (by omega)
  have l0 : ∀ {s : ByteArray} {n : Int}, ¬ (hput s n).2 = 0 → (((hput s n).1.length : Int) == 0) = true := fun h => by rw [hput_nil h]; rfl
  have l1 : ∀ {s : ByteArray} {n : Int}, (hput s n).2 = 0 → (((hput s n).1.length : Int) == 0) = false := fun {s n} h => by rw [hput_len (s := s) (n := n) (b := (hput s n).1) (by rw [← h])]; rfl
  by_cases h1 : (hput s n).2 = 0
  · by_cases h2 : (hput t m).2 = 0
    · have p1 : hput s n = ((hput s n).1, 0) := by rw [← h1]
      have p2 : hput t m = ((hput t m).1, 0) := by rw [← h2]
      have hne : ¬ (s = t ∧ n = m) → ((strOfNums (hput s n).1).toList == (strOfNums (hput t m).1).toList) = false := by
        intro h
        rw [beq_eq_false_iff_ne]
        intro e
        have e := (str_eq (hput_bts s n) (hput_bts t m)).1 e
        rw [e] at p1
        exact h (hput_inj p1 p2)
      by_cases h3 : s = t
      · by_cases h4 : n = m
        · exact apart_same 1000 s t n m _ _ _ _ w hk hA hB (bne_f h1) (bne_f h2) (by rw [h3, h4, beq_self_eq_true]) (by rw [h3, beq_self_eq_true]) (by rw [h4, beq_self_eq_true])
        · exact apart_size 1000 s t n m _ _ _ _ w hk hA hB (bne_f h1) (bne_f h2) (hne (fun h => h4 h.2)) (by rw [h3, beq_self_eq_true]) (beq_eq_false_iff_ne.mpr h4)
      · exact apart_path 1000 s t n m _ _ _ _ w hk hA hB (bne_f h1) (bne_f h2) (hne (fun h => h3 h.1)) (beq_eq_false_iff_ne.mpr (fun e => h3 (ba_ext (by rw [← ByteArray.toList_eq, ← ByteArray.toList_eq]; exact e))))
    · exact apart_yn 1000 s t n m _ _ _ _ w hk hA hB (bne_f h1) (bne_t h2) (l1 h1) (l0 h2)
  · by_cases h2 : (hput t m).2 = 0
    · exact apart_ny 1000 s t n m _ _ _ _ w hk hA hB (bne_t h1) (bne_f h2) (l0 h1) (l1 h2)
    · exact apart_nn 1000 s t n m _ _ _ _ w hk hA hB (bne_t h1) (bne_t h2) (l0 h1) (l0 h2)
end Go.Proofs.YtkcmkgkkddgicaaDoor.R
