/- Texts of this claim joined in one. -/
import Derived.Test.YtkcmkgkkddgicaaDoorQBase
import Derived.Test.YtkcmkgkkddgicaaDoorQShelf
import Derived.RangeFuncKeeps
import Derived.RangeFuncLeaves
import Derived.Shelf.Abstract
import Derived.WalkKit
import Derived.OwnWalkIn
import Derived.TacticsInMore
import Derived.LoopNIn
import Derived.LoopIn
import Derived.RangeFuncFrom
import Derived.RangeFuncCalls
/- strings.Index at a text of one byte, by the shelf's contract. -/
set_option linter.unusedVariables false
namespace Go.Proofs.YtkcmkgkkddgicaaDoor.R
open Go.RowKit Go.Proofs.YtkcmkgkkddgicaaDoorW.PrintWords Go.Proofs.YtkcmkgkkddgicaaDoorW.PrintLast Go.Proofs.YtkcmkgkkddgicaaDoorW.PrintMore
def strings_Index.f (a0 a1 : ByteArray) : Option Int := match a1.data.toList with | [c] => some (Lib.indexByte a0.data.toList c) | _ => none
theorem strings_Index.calls (a0 a1 : ByteArray) (r : Int) (w : World) (h : strings_Index.f a0 a1 = some r) :
    Calls Tryd.prog 52 #[.string a0, .string a1] w fun e w' => e = .returned (.int .i64 r) ∧ Drawn0 w w' := by
  unfold strings_Index.f at h
  split at h
  · rename_i c hc
    injection h with h
    subst h
    have e1 : a1 = ⟨#[c]⟩ := by
      cases a1 with
      | mk d => simp only [ByteArray.mk.injEq]; exact Array.toList_inj.1 hc
    subst e1
    refine (Tryd.strings_Index_one a0 c w).mono ?_
    rintro e w' ⟨rfl, rfl⟩
    exact ⟨rfl, Drawn0.refl _⟩
  · cases h
end Go.Proofs.YtkcmkgkkddgicaaDoor.R

/- path.part: what it answers. -/
set_option linter.unusedVariables false
set_option linter.unusedSimpArgs false
namespace Go.Proofs.YtkcmkgkkddgicaaDoor.R
open Go.RowKit Go.Proofs.YtkcmkgkkddgicaaDoorW.PrintWords Go.Proofs.YtkcmkgkkddgicaaDoorW.PrintLast Go.Proofs.YtkcmkgkkddgicaaDoorW.PrintMore
/-- the letters of a path's parts -/
def lettersL : List UInt8 := [97, 98, 99, 100, 101, 102, 103, 104, 105, 106, 107, 108, 109, 110, 111, 112, 113, 114, 115, 116, 117, 118, 119, 120, 121, 122, 65, 66, 67, 68, 69, 70, 71, 72, 73, 74, 75, 76, 77, 78, 79, 80, 81, 82, 83, 84, 85, 86, 87, 88, 89, 90, 48, 49, 50, 51, 52, 53, 54, 55, 56, 57, 45, 46, 95, 43, 126]
def letters : ByteArray := ⟨lettersL.toArray⟩
def isLetter (b : UInt8) : Bool := lettersL.contains b
theorem letters_ascii : ∀ b ∈ lettersL, b.toNat < 128 := by decide
theorem contains_index (l : List UInt8) (c : UInt8) : decide (0 ≤ Lib.indexByte l c) = l.contains c := by
  induction l with
  | nil => simp [Lib.indexByte]
  | cons b l ih =>
    have hge := Lib.indexByte_ge l c
    unfold Lib.indexByte
    by_cases h : b = c
    · subst h; simp
    · have h' : (b == c) = false := by simpa using h
      have h'' : (c == b) = false := by simpa using fun e : c = b => h e.symm
      rw [List.contains_cons, h'', Bool.false_or, ← ih, h']
      by_cases h1 : Lib.indexByte l c = -1
      · simp [h1]
      · have h2 : (Lib.indexByte l c == -1) = false := by simpa using h1
        have h3 : 0 ≤ Lib.indexByte l c := by omega
        simp [h2, h3]
        omega
set_option maxRecDepth 100000 in
theorem part1.calls (b : UInt8) (hb : isLetter b = true) (w : World) : Calls Tryd.prog 84 #[.int .i32 (b.toNat : Int)] w fun e w' => e = .returned (.bool false) ∧ w' = w := by
  have ha : b.toNat < 128 := letters_ascii b (by simpa [isLetter] using hb)
  have hc : ∀ w, Calls Tryd.prog 85 #[.string letters, .int .i32 (b.toNat : Int)] w fun e w' => e = .returned (.bool true) ∧ w = w' := by
    intro w
    refine (Tryd.strings_ContainsRune_ascii letters (b.toNat : Int) w (by omega) (by omega)).mono ?_
    rintro e w' ⟨rfl, rfl⟩
    refine ⟨?_, rfl⟩
    have e1 : ((b.toNat : Int).toNat).toUInt8 = b := by simp
    rw [e1, contains_index]
    have : letters.data.toList.contains b = true := hb
    rw [this]
  go_enter Tryd.func84, Tryd.ntmps84
  go_wp2_with (first | (go_at_call 85; refine (hc _).mono ?_; rintro e w' ⟨rfl, rfl⟩))
  go_ret
  exact ⟨rfl, rfl⟩
set_option maxRecDepth 100000 in
theorem indexFunc.calls (s : ByteArray) (hs : ∀ b ∈ s.data.toList, isLetter b = true) (w : World) : Calls Tryd.prog 109 #[.string s, .func (.func 84) #[] #[], .bool true] w fun e w' => e = .returned (.int .i64 (-1)) ∧ w' = w.iter s s.size := by
  go_enter Tryd.func109, Tryd.ntmps109
  go_wp2
  go_loopw [7, 8] (fun i r wr => ∃ pos : Nat, pos ≤ s.size ∧ wr = w.iter s pos) (fun _ _ wr => s.size - wr.iterPos w.heap.size)
  case atStart => exact ⟨0, Nat.zero_le _, rfl⟩
  case round =>
    obtain ⟨pos, hle, rfl⟩ := hrel
    by_cases hp : pos < s.size
    · have hb : isLetter s[pos] = true := hs _ (by rw [show s[pos] = s.data.toList[pos]'(by simpa using hp) from rfl]; exact List.getElem_mem _)
      have ha : (s[pos]'hp).toNat < 128 := letters_ascii _ (by simpa [isLetter] using hb)
      have hnx : ∀ ty, (Instr.next (.pointer (some ⟨w.heap.size, 0, none⟩)) true ty).run Tryd.prog (w.iter s pos) = _ := fun ty => run_next_ascii w s pos ty hp ha
      go_wp2_with (first | (go_at_call 84; refine (part1.calls s[pos] hb _).mono ?_; rintro e w' ⟨rfl, hw⟩; replace hw := hw.symm; subst hw))
      go_roundw
      case rel => exact ⟨pos + 1, by omega, rfl⟩
      case measure => simp; omega
    · have hnx : ∀ ty, (Instr.next (.pointer (some ⟨w.heap.size, 0, none⟩)) true ty).run Tryd.prog (w.iter s pos) = _ := fun ty => run_next_end w s pos ty hp
      go_wp2
      go_ret
      have : pos = s.size := by omega
      rw [this]
      exact ⟨rfl, rfl⟩
set_option maxRecDepth 100000 in
theorem IndexFunc.calls (s : ByteArray) (hs : ∀ b ∈ s.data.toList, isLetter b = true) (w : World) : Calls Tryd.prog 101 #[.string s, .func (.func 84) #[] #[]] w fun e w' => e = .returned (.int .i64 (-1)) ∧ w' = w.iter s s.size := by
  go_enter Tryd.func101, Tryd.ntmps101
  go_wp2_with (first | (go_at_call 109; refine (indexFunc.calls s hs _).mono ?_; rintro e w' ⟨rfl, rfl⟩))
  go_ret
  exact ⟨rfl, rfl⟩
set_option maxRecDepth 100000 in
theorem containsFunc.calls (s : ByteArray) (hs : ∀ b ∈ s.data.toList, isLetter b = true) (w : World) : Calls Tryd.prog 83 #[.string s, .func (.func 84) #[] #[]] w fun e w' => e = .returned (.bool false) ∧ w' = w.iter s s.size := by
  go_enter Tryd.func83, Tryd.ntmps83
  go_wp2_with (first | (go_at_call 101; refine (IndexFunc.calls s hs _).mono ?_; rintro e w' ⟨rfl, rfl⟩))
  go_ret
  exact ⟨rfl, rfl⟩
theorem trim_empty (l cs : List UInt8) : Lib.trimS l cs = [] ↔ l.all (cs.contains ·) = true := by
  unfold Lib.trimS Lib.trimLeftS Lib.trimRightS
  have hnil : ∀ (m : List UInt8), m.dropWhile (cs.contains ·) = [] ↔ ∀ x ∈ m, cs.contains x = true := by
    intro m
    induction m with
    | nil => simp
    | cons a m ih =>
      rw [List.dropWhile_cons]
      by_cases h : cs.contains a = true
      · rw [if_pos h, ih]
        constructor
        · intro h2 x hx
          rcases List.mem_cons.1 hx with rfl | hx
          · exact h
          · exact h2 x hx
        · intro h2 x hx
          exact h2 x (.tail _ hx)
      · rw [if_neg h]
        constructor
        · intro h2; cases h2
        · intro h2; exact absurd (h2 a (.head _)) h
  rw [hnil]
  simp only [List.mem_reverse, List.all_eq_true]
  constructor
  · intro h x hx
    by_cases hc : cs.contains x = true
    · exact hc
    · have hm : x ∈ l.reverse.dropWhile (cs.contains ·) := by
        have := List.takeWhile_append_dropWhile (p := (cs.contains ·)) (l := l.reverse)
        have hx2 : x ∈ l.reverse := List.mem_reverse.2 hx
        rw [← this] at hx2
        rcases List.mem_append.1 hx2 with h1 | h1
        · exact absurd (List.all_eq_true.1 List.all_takeWhile _ h1) hc
        · exact h1
      exact h x hm
  · intro h x hx
    have : x ∈ l.reverse := (List.dropWhile_sublist _).subset hx
    exact h x (List.mem_reverse.1 this)
def partB (s : ByteArray) : Bool := !(s.data.toList == []) && decide ((s.size : Int) ≤ 100) && !(s.data.toList == [46]) && !(s.data.toList == [46, 46]) && s.data.toList.all isLetter
theorem partB_eq (s : ByteArray) : partB s = (!(s.toList == []) && decide ((s.size : Int) ≤ 100) && !(s.toList == [46]) && !(s.toList == [46, 46]) && s.data.toList.all isLetter) := by rw [ByteArray.toList_eq]; rfl
theorem toList_nil (t : ByteArray) : (t = ⟨#[]⟩) ↔ (t.toList == []) = true := by
  rw [ByteArray.toList_eq, beq_iff_eq]
  constructor
  · rintro rfl; rfl
  · intro h
    cases t with
    | mk d => simp only [ByteArray.mk.injEq]; exact Array.toList_inj.1 h
def path_part.f (a0 : ByteArray) : Option Bool := some (partB a0)
theorem trim.calls (s : ByteArray) (hs : (s.size : Int) ≤ 100) (w : World) : Calls Tryd.prog 82 #[.string s, .string letters] w fun e w' => ∃ t : ByteArray, e = .returned (.string t) ∧ (t = ⟨#[]⟩ ↔ s.data.toList.all isLetter = true) ∧ Below w.heap.size w w' := by
  refine (Tryd.strings_Trim_ascii s letters w (by omega) (by decide) (fun j b hb => letters_ascii b (List.mem_of_getElem? hb))).mono ?_
  rintro e w' ⟨rfl, hb⟩
  refine ⟨_, rfl, ?_, hb⟩
  have ht := trim_empty s.data.toList lettersL
  show (⟨(Lib.trimS s.data.toList lettersL).toArray⟩ : ByteArray) = ⟨#[]⟩ ↔ s.data.toList.all (lettersL.contains ·) = true
  rw [← ht]
  constructor
  · intro h
    have := congrArg (fun b : ByteArray => b.data.toList) h
    simpa using this
  · intro h
    rw [h]
theorem below_iter {w w1 w2 : World} {s : ByteArray} {p : Nat} (h : Below w.heap.size w w1) (e : w2 = w1.iter s p) : Below w.heap.size w w2 := by
  subst e
  exact h.alloc h.size _
set_option maxRecDepth 100000 in
theorem path_part.calls (a0 : ByteArray) (r : Bool) (w : World) (h : path_part.f a0 = some r) : Calls Tryd.prog 72 #[.string a0] w fun e w' => e = .returned (.bool r) ∧ Below w.heap.size w w' := by
  unfold path_part.f at h
  obtain rfl := Option.some.inj h
  clear h
  have HB := Aside0.mk (Below.refl w.heap.size w)
  by_cases c1 : (a0.toList == []) = true
  · have hv : partB a0 = false := by rw [partB_eq, c1]; rfl
    rw [hv]
    clear hv
    go_enter Tryd.func72, Tryd.ntmps72
    go_wp2
    go_ret
    exact ⟨rfl, HB.out⟩
  replace c1 := Bool.eq_false_iff.2 c1
  by_cases c2 : (a0.size : Int) ≤ 100
  · have d2 : decide ((a0.size : Int) ≤ 100) = true := by simpa using c2
    by_cases c3 : (a0.toList == [46]) = true
    · have hv : partB a0 = false := by rw [partB_eq, c1, d2, c3]; rfl
      rw [hv]
      clear hv
      go_enter Tryd.func72, Tryd.ntmps72
      go_wp2
      go_ret
      exact ⟨rfl, HB.out⟩
    replace c3 := Bool.eq_false_iff.2 c3
    by_cases c4 : (a0.toList == [46, 46]) = true
    · have hv : partB a0 = false := by rw [partB_eq, c1, d2, c3, c4]; rfl
      rw [hv]
      clear hv
      go_enter Tryd.func72, Tryd.ntmps72
      go_wp2
      go_ret
      exact ⟨rfl, HB.out⟩
    replace c4 := Bool.eq_false_iff.2 c4
    have hv : partB a0 = a0.data.toList.all isLetter := by rw [partB_eq, c1, d2, c3, c4]; rfl
    rw [hv]
    clear hv
    have HT := Aside0.mk (trim.calls a0 c2)
    by_cases c5 : a0.data.toList.all isLetter = true
    · rw [c5]
      have HC := Aside0.mk (List.all_eq_true.1 c5)
      have H5 := Aside0.mk c5
      clear c5
      go_enter Tryd.func72, Tryd.ntmps72
      go_wp2_with (first | (go_at_call 82; refine (HT.out _).mono ?_; rintro e w' ⟨t, rfl, ht, hb⟩; replace ht := (toList_nil t).1 (ht.2 H5.out); replace HB := Aside0.mk hb; clear hb) | (go_at_call 83; refine (containsFunc.calls a0 HC.out _).mono ?_; rintro e w2 ⟨rfl, hw⟩; have HB2 := Aside0.mk (below_iter HB.out hw); clear hw))
      go_ret
      exact ⟨rfl, HB2.out⟩
    · replace c5 := Bool.eq_false_iff.2 c5
      rw [c5]
      have H5 := Aside0.mk c5
      clear c5
      go_enter Tryd.func72, Tryd.ntmps72
      go_wp2_with (first | (go_at_call 82; refine (HT.out _).mono ?_; rintro e w' ⟨t, rfl, ht, hb⟩; replace ht := Bool.eq_false_iff.2 (fun h => Bool.false_ne_true (H5.out.symm.trans (ht.1 ((toList_nil t).2 h)))); replace HB := Aside0.mk hb; clear hb))
      go_ret
      exact ⟨rfl, HB.out⟩
  · have d2 : decide ((a0.size : Int) ≤ 100) = false := by simpa using c2
    have hv : partB a0 = false := by rw [partB_eq, c1, d2]; rfl
    rw [hv]
    clear hv
    go_enter Tryd.func72, Tryd.ntmps72
    go_wp2
    go_ret
    exact ⟨rfl, HB.out⟩
end Go.Proofs.YtkcmkgkkddgicaaDoor.R

/- The iterator of strings.SplitSeq at a slash, whose captured text is written between two rounds. -/
set_option linter.unusedVariables false
set_option linter.unusedSimpArgs false
namespace Go.Proofs.YtkcmkgkkddgicaaDoor.R
open Go.RowKit Go.Proofs.YtkcmkgkkddgicaaDoorW.PrintWords Go.Proofs.YtkcmkgkkddgicaaDoorW.PrintLast Go.Proofs.YtkcmkgkkddgicaaDoorW.PrintMore
attribute [local go_sem] Oper.semAt_some
def splitP : Nat → ByteArray → List ByteArray
  | 0, s => [s]
  | k + 1, s => if Lib.indexByte s.data.toList 47 < 0 then [s] else s.extract 0 (Lib.indexByte s.data.toList 47).toNat :: splitP k (s.extract ((Lib.indexByte s.data.toList 47).toNat + 1) s.size)
def pieces (s : ByteArray) : List ByteArray := splitP s.size s
/-- the captured text's size, read off the world -/
def leftAt (b : Nat) (w : World) : Nat := match w.cell? ⟨b, 0, none⟩ with | some (.string r) => r.size | _ => 0
theorem leftAt_eq {b : Nat} {w : World} {r : ByteArray} (h : w.cell? ⟨b, 0, none⟩ = some (.string r)) : leftAt b w = r.size := by simp [leftAt, h]
theorem cellF {w : World} {g t : Nat} {v : Value} (h : w.heap[g]? = some (.cells #[v] t (0, 0))) : w.cell? ⟨g, 0, none⟩ = some v ∧ w.frozen? ⟨g, 0, none⟩ = false := by
  constructor <;> simp [World.cell?, World.frozen?, h]
theorem setCellSelf {w : World} {g t : Nat} {v : Value} (h : w.heap[g]? = some (.cells #[v] t (0, 0))) (u : Value) : (w.setCell ⟨g, 0, none⟩ u).heap[g]? = some (.cells #[u] t (0, 0)) := by
  have hlt : g < w.heap.size := (Array.getElem?_eq_some_iff.1 h).1
  have hv : w.heap[g] = .cells #[v] t (0, 0) := (Array.getElem?_eq_some_iff.1 h).2
  unfold World.setCell
  rw [Array.getElem?_eq_getElem (by simpa using hlt), Array.getElem_modify]
  simp [hv]
theorem indexByte_lt {l : List UInt8} {c : UInt8} {o : Nat} (h : Lib.indexByte l c = o) : o < l.length :=
  (List.getElem?_eq_some_iff.1 (Lib.indexByte_some h).1).1
set_option maxRecDepth 100000 in
set_option maxHeartbeats 4000000 in
theorem split_in (n : Nat) (hn : 1 ≤ n) (l pb sb vb : Nat) (s : ByteArray) (hsz : s.size ≤ 9223372036854775807) (J Jx : List ByteArray → World → Prop)
    (hY : ∀ pre x W, J pre W → YieldAt Fence.wide (n - 1) Tryd.prog l #[.string x] W fun e W' =>
      (e = .returned (.bool true) ∧ J (pre ++ [x]) W' ∧ W'.heap[sb]? = W.heap[sb]?) ∨ (e = .returned (.bool false) ∧ Jx (pre ++ [x]) W'))
    (hS : ∀ pre W v, J pre W → J pre (W.setCell ⟨sb, 0, none⟩ v))
    (hF : ∀ pre W, J pre W → W.heap[pb]? = some (.cells #[.string ⟨#[47]⟩] 9 (0, 0)) ∧ W.heap[vb]? = some (.cells #[.int .i64 0] 3 (0, 0)))
    (hne : pb ≠ sb ∧ vb ≠ sb) (W : World) (hs : W.heap[sb]? = some (.cells #[.string s] 9 (0, 0))) (h0 : J [] W) :
    CallsIn Fence.wide n Tryd.prog 105 #[.func (.yield l) #[] #[], .pointer (some ⟨pb, 0, none⟩), .pointer (some ⟨sb, 0, none⟩), .pointer (some ⟨vb, 0, none⟩)] W fun e W' => (∃ v, e = .returned v) ∧
      (J (pieces s) W' ∨ (∃ pre, pre <+: pieces s ∧ Jx pre W')) := by
  have hx : ∀ (r : ByteArray) (W : World), CallsIn Fence.wide (n - 1) Tryd.prog 52 #[.string r, .string ⟨#[47]⟩] W fun e w' => e = .returned (.int .i64 (Lib.indexByte r.data.toList 47)) ∧ W = w' :=
    fun r W => callsIn_wide.2 ((Tryd.strings_Index_one r 47 W).mono (fun e w' h => ⟨h.1, h.2.symm⟩))
  have hfi : Fence.wide.fn 52 := trivial
  refine callsIn_of_wp Tryd.func105 rfl trivial ?_ rfl
  simp only [Tryd.ntmps105, List.size_toArray, List.length_cons, List.length_nil, Nat.reduceAdd, Nat.reduceSub, Array.replicate_succ, Array.replicate_zero, List.push_toArray, List.append_toArray, List.nil_append, List.cons_append]
  obtain ⟨hp1, hp2⟩ := hF _ _ h0
  obtain ⟨hpc, hpf⟩ := cellF hp1
  gi_wp2
  gi_loopw [7, 8] (fun _ _ wr => ∃ (pre : List ByteArray) (r : ByteArray) (k : Nat), r.size ≤ k ∧ r.size ≤ 9223372036854775807 ∧ pieces s = pre ++ splitP k r ∧ wr.heap[sb]? = some (.cells #[.string r] 9 (0, 0)) ∧ J pre wr) (fun _ _ wr => leftAt sb wr)
  case atStart => exact ⟨[], s, s.size, Nat.le_refl _, hsz, rfl, hs, h0⟩
  case round =>
    obtain ⟨pre, r, k, hk, hrs, hp, hb, hj⟩ := hrel
    obtain ⟨hf1, hf2⟩ := hF _ _ hj
    obtain ⟨hpc1, hpf1⟩ := cellF hf1
    obtain ⟨hvc1, hvf1⟩ := cellF hf2
    obtain ⟨hsc1, hsf1⟩ := cellF hb
    by_cases hneg : Lib.indexByte r.data.toList 47 < 0
    · have e : pieces s = pre ++ [r] := by
        rw [hp]
        cases k with
        | zero => rfl
        | succ k => rw [splitP, if_pos hneg]
      have hxr := hx r
      generalize Lib.indexByte r.data.toList 47 = i at hneg hxr
      obtain ⟨fn, tmps, assign, body, hy, hR⟩ := hY pre r wr hj
      gi_wp2_with (gi_at_call 52; refine (hxr _).mono ?_; rintro e w' ⟨rfl, hw⟩; subst hw)
      refine hR.mono ?_
      rintro e W3 (⟨rfl, hJ3, hk3⟩ | ⟨rfl, hJx3⟩)
      · gi_wp2
        go_end0
        exact ⟨⟨_, rfl⟩, .inl (by rw [e]; exact hJ3)⟩
      · gi_wp2
        go_end0
        exact ⟨⟨_, rfl⟩, .inr ⟨_, by rw [e]; exact List.prefix_refl _, hJx3⟩⟩
    · obtain ⟨o, ho⟩ := Int.eq_ofNat_of_zero_le (Int.not_lt.1 hneg)
      have hlt := indexByte_lt ho
      rw [data_length] at hlt
      obtain ⟨k, rfl⟩ : ∃ k', k = k' + 1 := ⟨k - 1, by omega⟩
      have hp' : pieces s = (pre ++ [r.extract 0 o]) ++ splitP k (r.extract (o + 1) r.size) := by
        rw [hp, splitP, if_neg hneg, ho]
        simp
      have hxr := hx r
      rw [ho] at hxr
      clear hneg ho hp
      obtain ⟨fn, tmps, assign, body, hy, hR⟩ := hY pre (r.extract 0 o) wr hj
      gi_wp2_with (gi_at_call 52; refine (hxr _).mono ?_; rintro e w' ⟨rfl, hw⟩; subst hw)
      refine hR.mono ?_
      rintro e W3 (⟨rfl, hJ3, hk3⟩ | ⟨rfl, hJx3⟩)
      · obtain ⟨hg1, hg2⟩ := hF _ _ hJ3
        obtain ⟨hpc2, hpf2⟩ := cellF hg1
        obtain ⟨hvc2, hvf2⟩ := cellF hg2
        obtain ⟨hsc2, hsf2⟩ := cellF (hk3.trans hb)
        gi_wp2
        go_roundw
        case rel => exact ⟨pre ++ [r.extract 0 o], r.extract (o + 1) r.size, k, by rw [ByteArray.size_extract]; omega, by rw [ByteArray.size_extract]; omega, hp', setCellSelf (hk3.trans hb) _, hS _ _ _ hJ3⟩
        case measure =>
          rw [leftAt_eq (cellF (setCellSelf (hk3.trans hb) _)).1, leftAt_eq hsc1, ByteArray.size_extract]
          omega
      · gi_wp2
        refine bodyPost_ret (results_none rfl _ _ _) rfl ?_
        exact ⟨⟨_, rfl⟩, .inr ⟨_, by rw [hp']; exact ⟨_, rfl⟩, hJx3⟩⟩
set_option maxRecDepth 100000 in
theorem splitSeq.calls (s : ByteArray) (w : World) : Calls Tryd.prog 93 #[.string s, .string ⟨#[47]⟩, .int .i64 0] w fun e w' => e = .returned (.func (.func 105) #[] #[.pointer (some ⟨w.heap.size + 1, 0, none⟩), .pointer (some ⟨w.heap.size, 0, none⟩), .pointer (some ⟨w.heap.size + 2, 0, none⟩)]) ∧ w' = ((w.alloc (.cells #[.string s] 9)).alloc (.cells #[.string ⟨#[47]⟩] 9)).alloc (.cells #[.int .i64 0] 3) := by
  have hmf : ∀ (fn : Fn) (first cap : Array Value) (w : World), (Instr.makeFunc fn first cap).run Tryd.prog w = .ok (.func fn first cap) w := fun _ _ _ _ => rfl
  go_enter Tryd.func93, Tryd.ntmps93
  go_wp2
  go_ret
  exact ⟨rfl, rfl⟩
set_option maxRecDepth 100000 in
theorem SplitSeq.calls (s : ByteArray) (w : World) : Calls Tryd.prog 81 #[.string s, .string ⟨#[47]⟩] w fun e w' => e = .returned (.func (.func 105) #[] #[.pointer (some ⟨w.heap.size + 1, 0, none⟩), .pointer (some ⟨w.heap.size, 0, none⟩), .pointer (some ⟨w.heap.size + 2, 0, none⟩)]) ∧ w' = ((w.alloc (.cells #[.string s] 9)).alloc (.cells #[.string ⟨#[47]⟩] 9)).alloc (.cells #[.int .i64 0] 3) := by
  go_enter Tryd.func81, Tryd.ntmps81
  go_wp2_with (first | (go_at_call 93; refine (splitSeq.calls s _).mono ?_; rintro e w' ⟨rfl, rfl⟩))
  go_ret
  exact ⟨rfl, rfl⟩
set_option maxRecDepth 100000 in
theorem parts.calls (s : ByteArray) (w : World) : Calls Tryd.prog 71 #[.string s] w fun e w' => e = .returned (.func (.func 105) #[] #[.pointer (some ⟨w.heap.size + 1, 0, none⟩), .pointer (some ⟨w.heap.size, 0, none⟩), .pointer (some ⟨w.heap.size + 2, 0, none⟩)]) ∧ w' = ((w.alloc (.cells #[.string s] 9)).alloc (.cells #[.string ⟨#[47]⟩] 9)).alloc (.cells #[.int .i64 0] 3) := by
  go_enter Tryd.func71, Tryd.ntmps71
  go_wp2_with (first | (go_at_call 81; refine (SplitSeq.calls s _).mono ?_; rintro e w' ⟨rfl, rfl⟩))
  go_ret
  exact ⟨rfl, rfl⟩
end Go.Proofs.YtkcmkgkkddgicaaDoor.R

/- path.whole: what it answers: a range over the iterator of strings.SplitSeq. -/
set_option linter.unusedVariables false
set_option linter.unusedSimpArgs false
namespace Go.Proofs.YtkcmkgkkddgicaaDoor.R
open Go.RowKit Go.Proofs.YtkcmkgkkddgicaaDoorW.PrintWords Go.Proofs.YtkcmkgkkddgicaaDoorW.PrintLast Go.Proofs.YtkcmkgkkddgicaaDoorW.PrintMore
attribute [local go_sem] Oper.semAt_some
/-- how a round's body may be left -/
def bodyEnds (sb : Nat) (I Ix : List ByteArray → World → Prop) (xs : List ByteArray) (W : World) : Exit → Act → World → Prop
  | .normal, _, W' => KeepsOthers W W' ∧ W'.heap[sb]? = W.heap[sb]? ∧ I xs W'
  | .ret, _, W' => KeepsOthers W W' ∧ Ix xs W'
  | _, _, _ => False
/-- A range over an iterator that writes a captured variable (block sb) between two rounds; the body may return. -/
theorem range_box {P : Program} {n : Nat} {g : Operand} {ps : Array Tmp} {assign body : Code} {Q : Exit → Act → World → Prop} {a : Act} {w : World}
    (h1 : 1 ≤ n) {gf : Nat} {lb : Array Value} (hg : a.eval g = .func (.func gf) #[] lb) (eg : ∀ args w, (callFunc gf args).run P w = .ok (.enter gf args) w)
    (hps : ps.size = 1) {sb : Nat} (hsb : sb < w.heap.size) {full : List ByteArray} (I Ix : List ByteArray → World → Prop)
    (hI : ∀ pre W (l : Nat) (o o' : Obj), I pre W → w.heap.size ≤ l → W.heap[l]? = some o → o.isCells = false → I pre (W.putObj l o'))
    (hIx : ∀ pre W (l : Nat) (o o' : Obj), Ix pre W → w.heap.size ≤ l → W.heap[l]? = some o → o.isCells = false → Ix pre (W.putObj l o'))
    (hIa : ∀ pre W (o : Obj), I pre W → I pre (W.alloc o)) (hIs : ∀ pre W v, I pre W → I pre (W.setCell ⟨sb, 0, none⟩ v))
    (hseq : ∀ (l : Nat) (J Jx : List ByteArray → World → Prop) (W : World),
      (∀ pre x W1, J pre W1 → YieldAt Fence.wide (n - 1 - 1) P l #[.string x] W1 fun e W' => (e = .returned (.bool true) ∧ J (pre ++ [x]) W' ∧ W'.heap[sb]? = W1.heap[sb]?) ∨ (e = .returned (.bool false) ∧ Jx (pre ++ [x]) W')) →
      (∀ pre W1 v, J pre W1 → J pre (W1.setCell ⟨sb, 0, none⟩ v)) → (∀ pre W1, J pre W1 → I pre W1) → W.heap[sb]? = w.heap[sb]? → J [] W →
      CallsIn Fence.wide (n - 1) P gf (#[.func (.yield l) #[] #[]] ++ lb) W fun e W' => (∃ v, e = .returned v) ∧ (J full W' ∨ (∃ pre, pre <+: full ∧ Jx pre W')))
    (h0 : I [] w) (a₁ : ByteArray → Act)
    (hassign : ∀ (l : Nat) (x : ByteArray) (W : World) (K : Act → World → Prop), K (a₁ x) W →
      assign.wpIn (Fence.wide.inRound l) (n - 1 - 1) P (Exit.then K (fun _ _ _ => False)) { tmps := (ps.zip #[.string x]).foldl (fun t (p, v) => t.setIfInBounds p v) a.tmps, defers := [] } W)
    (hbody : ∀ (l : Nat) (pre : List ByteArray) (x : ByteArray) (W : World), I pre W → body.wpIn (Fence.wide.inRound l) (n - 1 - 1) P (bodyEnds sb I Ix (pre ++ [x]) W) (a₁ x) W)
    (hdone : ∀ (D : Nat) (W : World), w.heap.size ≤ D → I full W → W.heap[D]? = some (.deferred (some [])) → Q .normal { a with defers := { target := .collected D, args := #[] } :: a.defers } W)
    (hstop : ∀ (D : Nat) (pre : List ByteArray) (W : World), w.heap.size ≤ D → pre <+: full → Ix pre W → W.heap[D]? = some (.deferred (some [])) → Code.ret.wpIn Fence.wide n P Q { a with defers := { target := .collected D, args := #[] } :: a.defers } W) :
    (Code.rangeFunc g ps assign body).wpIn Fence.wide n P Q a w := by
  refine wpIn_rangeFunc (fun fn hfn => ?_)
  have hro : Fence.wide.round = none := rfl
  rw [hro]
  -- the loop's record, whatever its state
  let rec_ : LoopState → Option Code → Loop := fun st pe => { state := st, pending := pe, fn := fn, tmps := a.tmps, params := ps, assign := assign, body := body, defers := w.heap.size }
  obtain ⟨W1, hW1⟩ : ∃ W1, (w.alloc (.deferred (some []))).alloc (.loop (rec_ .ready none)) = W1 := ⟨_, rfl⟩
  have hloop : W1.heap[w.heap.size + 1]? = some (.loop (rec_ .ready none)) := by
    rw [← hW1]
    have := World.alloc_heap_new (w.alloc (.deferred (some []))) (.loop (rec_ .ready none))
    rwa [World.size_alloc] at this
  have hdef : W1.heap[w.heap.size]? = some (.deferred (some [])) := by
    rw [← hW1]
    exact (Below.heap_alloc _ _ _ (by simp)).trans (World.alloc_heap_new w _)
  have hold : W1.heap[sb]? = w.heap[sb]? := by
    rw [← hW1]
    exact (Below.heap_alloc _ _ _ (by simp; omega)).trans (Below.heap_alloc _ _ _ (by omega))
  have hfirst : I [] W1 := by rw [← hW1]; exact hIa _ _ _ (hIa _ _ _ h0)
  refine ⟨w.heap.size + 1, [{ target := .collected w.heap.size, args := #[] }], W1, { target := .fn (.func gf) lb, args := #[.func (.yield (w.heap.size + 1)) #[] #[]] }, W1, gf,
    #[.func (.yield (w.heap.size + 1)) #[] #[]] ++ lb, W1, ?_, ?_, fun _ _ => trivial, ?_, fun _ => h1, ?_⟩
  · rw [← hW1]
    exact run_enterLoop_outer _ _ _ _ _
  · simp only [resolve, hg]
    simp [go_sem]
  · simp [invoke, go_sem, eg]
  refine (hseq (w.heap.size + 1)
    (fun pre W => I pre W ∧ W.heap[w.heap.size + 1]? = some (.loop (rec_ .ready none)) ∧ W.heap[w.heap.size]? = some (.deferred (some [])))
    (fun pre W => Ix pre W ∧ W.heap[w.heap.size + 1]? = some (.loop (rec_ .done (some .ret))) ∧ W.heap[w.heap.size]? = some (.deferred (some [])))
    W1 ?_ ?_ (fun _ _ h => h.1) hold ⟨hfirst, hloop, hdef⟩).mono ?_
  · rintro pre x W ⟨hi, hl, hd⟩
    have hlt : w.heap.size + 1 < W.heap.size := (Array.getElem?_eq_some_iff.1 hl).1
    refine ⟨fn, _, assign, body, run_yield (P := P) (args := #[.string x]) hl hps.symm, roundIn_of_wpIn hfn (hassign _ x W _ ⟨_, run_beginRound hl rfl, ?_⟩)⟩
    obtain ⟨W2, hW2⟩ : ∃ W2, W.putObj (w.heap.size + 1) (.loop (rec_ .busy none)) = W2 := ⟨_, rfl⟩
    show body.wpIn _ _ P _ (a₁ x) (W.putObj (w.heap.size + 1) (.loop (rec_ .busy none)))
    have hl2 : W2.heap[w.heap.size + 1]? = some (.loop (rec_ .busy none)) := by rw [← hW2]; exact World.putObj_heap_same hlt
    have hd2 : W2.heap[w.heap.size]? = some (.deferred (some [])) := by rw [← hW2]; exact (World.putObj_heap_other (by omega)).trans hd
    have hs2 : W2.heap[sb]? = W.heap[sb]? := by rw [← hW2]; exact World.putObj_heap_other (by omega)
    have hi2 : I pre W2 := by rw [← hW2]; exact hI _ _ _ _ _ hi (by omega) hl rfl
    rw [hW2]
    refine wpIn_mono (hbody _ pre x W2 hi2) ?_
    rintro e a3 W3 hp
    cases e with
    | normal =>
      obtain ⟨hk, hs3, hi3⟩ := hp
      have hl3 := hk.same _ _ hl2 rfl
      have hlt3 : w.heap.size + 1 < W3.heap.size := (Array.getElem?_eq_some_iff.1 hl3).1
      exact ⟨_, _, run_endRound (P := P) none hl3, .inl ⟨rfl, ⟨hI _ _ _ _ _ hi3 (by omega) hl3 rfl, World.putObj_heap_same hlt3, (World.putObj_heap_other (by omega)).trans (hk.same _ _ hd2 rfl)⟩, (World.putObj_heap_other (by omega)).trans (hs3.trans hs2)⟩⟩
    | ret =>
      obtain ⟨hk, hi3⟩ := hp
      have hl3 := hk.same _ _ hl2 rfl
      have hlt3 : w.heap.size + 1 < W3.heap.size := (Array.getElem?_eq_some_iff.1 hl3).1
      exact ⟨_, _, run_endRound (P := P) (some .ret) hl3, .inr ⟨rfl, hIx _ _ _ _ _ hi3 (by omega) hl3 rfl, World.putObj_heap_same hlt3, (World.putObj_heap_other (by omega)).trans (hk.same _ _ hd2 rfl)⟩⟩
    | exit id => exact hp.elim
    | goto t => exact hp.elim
    | panic ch => exact hp.elim
    | outgrown => exact hp.elim
  · rintro pre W v ⟨hi, hl, hd⟩
    have e1 : ∀ k, k ≠ sb → (W.setCell ⟨sb, 0, none⟩ v).heap[k]? = W.heap[k]? := fun k hk => Below.heap_setCell _ _ _ _ hk
    exact ⟨hIs _ _ _ hi, (e1 _ (by omega)).trans hl, (e1 _ (by omega)).trans hd⟩
  · rintro e W2 ⟨⟨v, rfl⟩, (⟨hi, hl, hd⟩ | ⟨pre, hpre, hi, hl, hd⟩)⟩
    · exact ⟨none, _, run_endLoop (P := P) hl (by simp [rec_]), hdone _ _ (Nat.le_refl _) (hI _ _ _ _ _ hi (by omega) hl rfl) ((World.putObj_heap_other (by omega)).trans hd)⟩
    · exact ⟨some .ret, _, run_endLoop (P := P) hl (by simp [rec_]), hstop _ pre _ (Nat.le_refl _) hpre (hIx _ _ _ _ _ hi (by omega) hl rfl) ((World.putObj_heap_other (by omega)).trans hd)⟩
def wholeB (s : ByteArray) : Bool := (pieces s).all partB && decide ((s.size : Int) ≤ 254)
def path_whole.f (a0 : ByteArray) : Option Bool := if a0.size ≤ 9223372036854775807 then some (wholeB a0) else none
/-- between two rounds; behind the last -/
def WI (w : World) (pre : List ByteArray) (W : World) : Prop :=
  (∀ y ∈ pre, partB y = true) ∧ W.heap[w.heap.size]? = some (.cells #[.bool false] 4 (0, 0)) ∧ W.heap[w.heap.size + 2]? = some (.cells #[.string ⟨#[47]⟩] 9 (0, 0)) ∧ W.heap[w.heap.size + 3]? = some (.cells #[.int .i64 0] 3 (0, 0)) ∧ Below w.heap.size w W ∧ w.heap.size + 4 ≤ W.heap.size
def WX (w : World) (pre : List ByteArray) (W : World) : Prop :=
  (∃ y ∈ pre, partB y = false) ∧ W.heap[w.heap.size]? = some (.cells #[.bool false] 4 (0, 0)) ∧ Below w.heap.size w W ∧ w.heap.size + 4 ≤ W.heap.size
theorem below_put {w W : World} {l : Nat} {o : Obj} (o' : Obj) (h : Below w.heap.size w W) (hl : w.heap.size ≤ l) (ho : W.heap[l]? = some o) : Below w.heap.size w (W.putObj l o') :=
  h.trans ((Below.refl w.heap.size W).grown (grownBy_putObj' W l o') h.size (fun k e => by cases e; exact hl))
theorem size_putObj (W : World) (l : Nat) (o : Obj) : W.heap.size ≤ (W.putObj l o).heap.size := (grownBy_putObj' W l o).size
set_option maxRecDepth 100000 in
set_option maxHeartbeats 4000000 in
theorem whole_in (a0 : ByteArray) (hsz : a0.size ≤ 9223372036854775807) (w : World) : CallsIn Fence.wide 9 Tryd.prog 51 #[.string a0] w fun e w' => e = .returned (.bool (wholeB a0)) ∧ Below w.heap.size w w' := by
  have hfi : Fence.wide.fn 71 := trivial
  refine callsIn_of_wp_marks Tryd.func51 rfl trivial ?_ rfl
  simp only [Tryd.ntmps51, List.size_toArray, List.length_cons, List.length_nil, Nat.reduceAdd, Nat.reduceSub, Array.replicate_succ, Array.replicate_zero, List.push_toArray, List.append_toArray, List.nil_append, List.cons_append]
  gi_wp2_with (gi_at_call 71; refine (callsIn_wide.2 (parts.calls a0 _)).mono ?_; rintro e w' ⟨rfl, rfl⟩)
  have h4 : ∀ (o : Obj) (W : World) (k : Nat) (b : Obj), W.heap[k]? = some b → (W.alloc o).heap[k]? = some b := fun o W k b h => (Below.heap_alloc W o k (Array.getElem?_eq_some_iff.1 h).1).trans h
  obtain ⟨W4, hW4⟩ : ∃ W4, (((w.alloc (.cells #[.bool false] 4)).alloc (.cells #[.string a0] 9)).alloc (.cells #[.string ⟨#[47]⟩] 9)).alloc (.cells #[.int .i64 0] 3) = W4 := ⟨_, rfl⟩
  have n1 := World.alloc_heap_new w (.cells #[.bool false] 4)
  have n2 := World.alloc_heap_new (w.alloc (.cells #[.bool false] 4)) (.cells #[.string a0] 9)
  have n3 := World.alloc_heap_new ((w.alloc (.cells #[.bool false] 4)).alloc (.cells #[.string a0] 9)) (.cells #[.string ⟨#[47]⟩] 9)
  have n4 := World.alloc_heap_new (((w.alloc (.cells #[.bool false] 4)).alloc (.cells #[.string a0] 9)).alloc (.cells #[.string ⟨#[47]⟩] 9)) (.cells #[.int .i64 0] 3)
  simp only [World.size_alloc] at n2 n3 n4
  have hsize : W4.heap.size = w.heap.size + 4 := by rw [← hW4]; simp
  have k0 : W4.heap[w.heap.size]? = some (.cells #[.bool false] 4 (0, 0)) := by rw [← hW4]; exact h4 _ _ _ _ (h4 _ _ _ _ (h4 _ _ _ _ n1))
  have k1 : W4.heap[w.heap.size + 1]? = some (.cells #[.string a0] 9 (0, 0)) := by rw [← hW4]; exact h4 _ _ _ _ (h4 _ _ _ _ n2)
  have k2 : W4.heap[w.heap.size + 2]? = some (.cells #[.string ⟨#[47]⟩] 9 (0, 0)) := by rw [← hW4]; exact h4 _ _ _ _ n3
  have k3 : W4.heap[w.heap.size + 3]? = some (.cells #[.int .i64 0] 3 (0, 0)) := by rw [← hW4]; exact n4
  have hB : Below w.heap.size w W4 := by rw [← hW4]; exact ((((Below.refl _ w).alloc (Nat.le_refl _) _).alloc (by simp) _).alloc (by simp; omega) _).alloc (by simp; omega) _
  rw [hW4]
  clear n1 n2 n3 n4 hW4 h4
  refine range_box (n := 9) (by omega) (gf := 105) (lb := #[.pointer (some ⟨w.heap.size + 2, 0, none⟩), .pointer (some ⟨w.heap.size + 1, 0, none⟩), .pointer (some ⟨w.heap.size + 3, 0, none⟩)]) rfl (enters_of Tryd.func105 (by kernel_rfl) rfl)
    rfl (sb := w.heap.size + 1) (by omega) (full := pieces a0) (WI w) (WX w) ?hI ?hIx ?hIa ?hIs ?hseq ?h0
    (fun x => { tmps := #[.string a0, undef, .pointer (some ⟨w.heap.size, 0, none⟩), .string x, .string a0, .func (.func 105) #[] #[.pointer (some ⟨w.heap.size + 2, 0, none⟩), .pointer (some ⟨w.heap.size + 1, 0, none⟩), .pointer (some ⟨w.heap.size + 3, 0, none⟩)], .string x, undef, undef, undef, undef, undef, undef], defers := [] }) ?assign ?body ?done ?stop
  case hI =>
    rintro pre W l o o' ⟨h1, h2, h3, h5, h6, h7⟩ hl ho _
    rw [hsize] at hl
    exact ⟨h1, (World.putObj_heap_other (by omega)).trans h2, (World.putObj_heap_other (by omega)).trans h3, (World.putObj_heap_other (by omega)).trans h5, below_put o' h6 (by omega) ho, Nat.le_trans h7 (size_putObj _ _ _)⟩
  case hIx =>
    rintro pre W l o o' ⟨h1, h2, h6, h7⟩ hl ho _
    rw [hsize] at hl
    exact ⟨h1, (World.putObj_heap_other (by omega)).trans h2, below_put o' h6 (by omega) ho, Nat.le_trans h7 (size_putObj _ _ _)⟩
  case hIa =>
    rintro pre W o ⟨h1, h2, h3, h5, h6, h7⟩
    exact ⟨h1, (Below.heap_alloc _ _ _ (by omega)).trans h2, (Below.heap_alloc _ _ _ (by omega)).trans h3, (Below.heap_alloc _ _ _ (by omega)).trans h5, h6.alloc (by omega) _, by simp; omega⟩
  case hIs =>
    rintro pre W v ⟨h1, h2, h3, h5, h6, h7⟩
    exact ⟨h1, (Below.heap_setCell _ _ _ _ (by simp)).trans h2, (Below.heap_setCell _ _ _ _ (by simp)).trans h3, (Below.heap_setCell _ _ _ _ (by simp)).trans h5, h6.setCell (p := ⟨w.heap.size + 1, 0, none⟩) (by simp) _, by simpa [World.setCell] using h7⟩
  case hseq =>
    intro l J Jx W hY hS hF hs h0
    exact split_in 8 (by omega) l (w.heap.size + 2) (w.heap.size + 1) (w.heap.size + 3) a0 hsz J Jx hY hS (fun pre W hj => ⟨(hF pre W hj).2.2.1, (hF pre W hj).2.2.2.1⟩) ⟨by omega, by omega⟩ W (hs.trans k1) h0
  case h0 => exact ⟨by simp, k0, k2, k3, hB, by omega⟩
  case assign =>
    intro l x W K hK
    gi_wp2
    exact hK
  case body =>
    rintro l pre x W ⟨h1, h2, h3, h5, h6, h7⟩
    have hn : 1 ≤ 9 - 1 - 1 := by omega
    have hpc := (callsIn_wide (n := 9 - 1 - 1 - 1)).2 (path_part.calls x (partB x) W rfl)
    obtain ⟨hc, hf⟩ := cellF h2
    generalize hb : partB x = b at hpc
    have HX := Aside0.mk hb
    clear hb
    have hkeep : ∀ {w' : World}, Below W.heap.size W w' → KeepsOthers W w' := fun hb => ⟨hb.size, fun r o h _ => (hb.block r (Array.getElem?_eq_some_iff.1 h).1).trans h⟩
    cases b with
    | true =>
      gi_wp2_with (refine ⟨trivial, ?_⟩; gi_at_call 72; refine (CallsIn.inRound l hpc).mono ?_; rintro e w' ⟨rfl, hb⟩; have HB := Aside0.mk hb; clear hb)
      have hb := HB.out
      refine ⟨hkeep hb, hb.block _ (by omega), fun y hy => ?_, (hb.block _ (by omega)).trans h2, (hb.block _ (by omega)).trans h3, (hb.block _ (by omega)).trans h5, below_then h6 h6.size hb, Nat.le_trans h7 hb.size⟩
      rcases List.mem_append.1 hy with hy | hy
      · exact h1 y hy
      · rw [List.mem_singleton.1 hy]; exact HX.out
    | false =>
      gi_wp2_with (refine ⟨trivial, ?_⟩; gi_at_call 72; refine (CallsIn.inRound l hpc).mono ?_; rintro e w' ⟨rfl, hb⟩; obtain ⟨hc2, hf2⟩ := cellF ((hb.block _ (by omega)).trans h2); have HB := Aside0.mk hb; clear hb)
      have hb := HB.out
      exact ⟨(hkeep hb).trans (KeepsOthers.setCell _ _ _), ⟨x, by simp, HX.out⟩, setCellSelf ((hb.block _ (by omega)).trans h2) _, (below_then h6 h6.size hb).setCell (p := ⟨w.heap.size, 0, none⟩) (Nat.le_refl _) _, by have := hb.size; simp [World.setCell]; omega⟩
  case done =>
    rintro D W hD ⟨h1, h2, h3, h5, h6, h7⟩ hK
    obtain ⟨hc, hf⟩ := cellF h2
    gi_wp2
    have hK' := (KeepsOthers.setCell W ⟨w.heap.size, 0, none⟩ (.bool (decide ((a0.size : Int) ≤ 254)))).same D _ hK rfl
    have hD' : w.heap.size ≤ D := by omega
    refine ⟨by simp, .inl ⟨_, _, rfl, run_takeDeferred hK', ?_⟩⟩
    have hc5 := (cellF ((World.putObj_heap_other (o := .deferred none) (r := D) (by omega)).trans (setCellSelf h2 (.bool (decide ((a0.size : Int) ≤ 254)))))).1
    have ev : wholeB a0 = decide ((a0.size : Int) ≤ 254) := by
      unfold wholeB
      rw [List.all_eq_true.2 h1, Bool.true_and]
    refine ⟨.bool (decide ((a0.size : Int) ≤ 254)), ?_, by rw [ev], below_put _ (h6.setCell (p := ⟨w.heap.size, 0, none⟩) (Nat.le_refl _) _) hD' hK'⟩
    simp [results, Tryd.f51, go_sem, hc5]
  case stop =>
    rintro D pre W hD hpre ⟨h1, h2, h6, h7⟩ hK
    gi_wp2
    have hD' : w.heap.size ≤ D := by omega
    refine ⟨by simp, .inl ⟨_, _, rfl, run_takeDeferred hK, ?_⟩⟩
    have hc5 := (cellF ((World.putObj_heap_other (o := .deferred none) (r := D) (by omega)).trans h2)).1
    obtain ⟨y, hy, hyb⟩ := h1
    have ev : wholeB a0 = false := by
      unfold wholeB
      rw [Bool.and_eq_false_iff]
      left
      rw [List.all_eq_false]
      exact ⟨y, hpre.subset hy, by rw [hyb]; exact Bool.false_ne_true⟩
    refine ⟨.bool false, ?_, by rw [ev], below_put _ h6 hD' hK⟩
    simp [results, Tryd.f51, go_sem, hc5]
theorem path_whole.calls (a0 : ByteArray) (r : Bool) (w : World) (h : path_whole.f a0 = some r) : Calls Tryd.prog 51 #[.string a0] w fun e w' => e = .returned (.bool r) ∧ Below w.heap.size w w' := by
  unfold path_whole.f at h
  split at h
  · rename_i hs
    obtain rfl := Option.some.inj h
    exact callsIn_wide.1 (whole_in a0 hs w)
  · cases h
end Go.Proofs.YtkcmkgkkddgicaaDoor.R
