/- Texts of this claim joined in one. -/
import Derived.Test.YtkcmkgkkddgicaaDoorQBase
import Derived.MapKept
import Derived.Laws.IdiomRangeMap
import Derived.ChangeMaps
import Derived.Laws.Cover3
import Derived.Test.YtkcmkgkkddgicaaDoorQHead
import Derived.Test.YtkcmkgkkddgicaaDoorQHGet
import Derived.WalkMore
import Derived.ScopeJumps
namespace Go.Proofs.YtkcmkgkkddgicaaDoor.R
open Go.RowKit Go.Proofs.YtkcmkgkkddgicaaDoorW.PrintWords Go.Proofs.YtkcmkgkkddgicaaDoorW.PrintLast Go.Proofs.YtkcmkgkkddgicaaDoorW.PrintMore
attribute [local go_sem] max2_int min2_int max_two min_two max_three min_three max_four min_four   -- for this text's walks alone
set_option linter.unusedVariables false
set_option linter.unusedSimpArgs false

/-! ### header_Round: function 22 -/
def header_Round.f (a0 : Int) : Option (Int) := some (wrap64 ((wrap64 (Int.tdiv (wrap64 ((wrap64 ((mx a0 0) + 512)) - 1)) 512)) * 512))
set_option maxHeartbeats 8000000 in
set_option maxRecDepth 100000 in
theorem header_Round.calls (a0 : Int) (r : Int) (w : World) (h : header_Round.f a0 = some r) :
    Calls Tryd.prog 22 #[.int .i64 a0] w fun e w' => e = .returned (.int .i64 r) ∧ Below w.heap.size w w' := by
  have HB := Aside0.mk (Below.refl w.heap.size w)
  have H : (some (wrap64 ((wrap64 (Int.tdiv (wrap64 ((wrap64 ((mx a0 0) + 512)) - 1)) 512)) * 512))) = some r := h
  clear h
  obtain ⟨ji2, hji2⟩ : ∃ j_ : Int, (mx a0 0) = j_ := ⟨_, rfl⟩
  replace H : (some (wrap64 ((wrap64 (Int.tdiv (wrap64 ((wrap64 ((ji2) + 512)) - 1)) 512)) * 512))) = some r := by first | (rw [hji2] at H; exact H) | (simp only [hji2] at H ⊢; exact H)
  (try (have hji2l : 0 ≤ ji2 := by (rw [← hji2]; unfold mx; (repeat' split) <;> omega)))
  (try (have hji2m : 0 ≤ ji2 := by omega))
  have hji2_ : (if a0 < 0 then 0 else a0) = ji2 := hji2
  obtain rfl := Option.some.inj H
  go_enter Tryd.func22, Tryd.ntmps22
  go_wp2
  go_ret
  exact ⟨by first | rfl | (simp [errW_none, errW_some] <;> rfl) | (simp only [← hji2]; first | rfl | (simp [errW_none, errW_some] <;> rfl)) | (simp [*, errW_none, errW_some] <;> rfl), by repeat (first | (with_reducible first | exact HB.out | apply below_alloc | apply pw_below_drewN | apply below_drew1) | exact HB.out)⟩

/-! ### bindleref07_Round: function 23 -/
def bindleref07_Round.l0 : Nat → Int → Int → Option (Int)
  | 0, _, _ => none
  | k + 1, x0, x3 => if x3 < x0 then (bindleref07_Round.l0 k x0 (wrap64 (x3 + 512))) else (some x3)
def bindleref07_Round.f (k : Nat) (a0 : Int) : Option (Int) := bindleref07_Round.l0 k a0 0
theorem bindleref07_Round.mono_l : ∀ k, (∀ y0 y1, LeO (bindleref07_Round.l0 k y0 y1) (bindleref07_Round.l0 (k + 1) y0 y1))
  | 0 => fun _ _ r h => by simp [bindleref07_Round.l0] at h
  | k + 1 => by
    have ih0 := bindleref07_Round.mono_l k
    · intro y0 y1
      unfold bindleref07_Round.l0
      repeat' first
      | (with_reducible exact ih0 _ _)
      | (with_reducible exact LeO.refl _)
      | (with_reducible exact LeO.none _)
      | (with_reducible refine LeO.ite ?_ ?_)
      | (with_reducible refine LeO.bind ?_ (fun _ => ?_))
      | exact ih0 _ _
      | exact LeO.none _
      | refine LeO.ite ?_ ?_
      | refine LeO.bind ?_ (fun _ => ?_)
theorem bindleref07_Round.mono : ∀ a0 k, LeO (bindleref07_Round.f k a0) (bindleref07_Round.f (k + 1) a0) := by
  intro a0 k
  have ih0 := bindleref07_Round.mono_l k
  unfold bindleref07_Round.f
  repeat' first
      | (with_reducible exact ih0 _ _)
      | (with_reducible exact LeO.refl _)
      | (with_reducible exact LeO.none _)
      | (with_reducible refine LeO.ite ?_ ?_)
      | (with_reducible refine LeO.bind ?_ (fun _ => ?_))
      | exact ih0 _ _
      | exact LeO.none _
      | refine LeO.ite ?_ ?_
      | refine LeO.bind ?_ (fun _ => ?_)
set_option maxHeartbeats 8000000 in
set_option maxRecDepth 100000 in
theorem bindleref07_Round.calls (k : Nat) (a0 : Int) (r : Int) (w : World) (h : bindleref07_Round.f k a0 = some r) :
    Calls Tryd.prog 23 #[.int .i64 a0] w fun e w' => e = .returned (.int .i64 r) ∧ Drawn0 w w' := by
  have H : (bindleref07_Round.l0 k a0 0) = some r := h
  clear h
  have H' := Aside0.mk H
  clear H
  go_enter Tryd.func23, Tryd.ntmps23
  go_wp2
  go_loopg [3] k (fun kq v3 w' => ∃ (x3_1 : Int), v3 = .int .i64 x3_1 ∧ Aside0 (bindleref07_Round.l0 kq a0 x3_1 = some r) ∧ Aside0 (kq ≤ k) ∧ Drawn0 w w')
  case atStart => exact ⟨(0), (by first | rfl | (simp; done) | (simp [*]; done)), H', ⟨Nat.le_refl _⟩, by repeat (first | exact Drawn0.refl _ | apply Drawn0.step)⟩
  case round =>
    clear H'
    obtain ⟨x3_1, rfl, HA, HK1, ⟨m1, rfl⟩⟩ := hrel
    cases gk with
    | zero => exact absurd HA.out (by simp [bindleref07_Round.l0])
    | succ k1 =>
      have H := HA.out
      clear HA
      simp only [bindleref07_Round.l0] at H
      by_cases c2 : x3_1 < a0
      · rw [if_pos c2] at H
        have c2b0 : decide (x3_1 < a0) = true := decide_eq_true c2
        clear c2
        have H' := Aside0.mk H
        clear H
        go_wp2
        go_roundg k1
        case measure => have := HK1.out; omega
        case rel => exact ⟨(wrap64 (x3_1 + 512)), (by first | rfl | (simp; done) | (simp [*]; done)), H', ⟨by have := HK1.out; omega⟩, by repeat (first | exact Drawn0.refl _ | apply Drawn0.step)⟩
      · rw [if_neg c2] at H
        have c2b0 : decide (x3_1 < a0) = false := decide_eq_false c2
        clear c2
        obtain rfl := Option.some.inj H
        go_wp2
        go_ret
        exact ⟨by first | rfl | (simp; done) | (simp [*]; done), by repeat (first | exact Drawn0.refl _ | apply Drawn0.step)⟩

-- BY HAND: function 24 (header_Blank)

end Go.Proofs.YtkcmkgkkddgicaaDoor.R

/- A map that counts names: what it says of them. -/
set_option linter.unusedVariables false
set_option linter.unusedSimpArgs false
namespace Go.Proofs.YtkcmkgkkddgicaaDoor.R
open Go.RowKit Go.Proofs.YtkcmkgkkddgicaaDoorW.PrintWords Go.Proofs.YtkcmkgkkddgicaaDoorW.PrintLast Go.Proofs.YtkcmkgkkddgicaaDoorW.PrintMore Go.MapKept
/-- w, but for block b -/
def setBlk (w : World) (b : Nat) (o : Obj) : World := { w with heap := w.heap.setIfInBounds b o }
/-- block b is a map whose keys are these names, each once; what it counts is some number -/
def Seen (w : World) (b : Nat) (ks : List ByteArray) : Prop :=
  ∃ es clock, w.heap[b]? = some (.map es clock) ∧ Stamped es clock ∧ es.toList.map (·.key) = ks.map Value.string ∧ ks.Nodup ∧ ∀ e ∈ es.toList, ∃ n : Int, e.val = .int .i64 n
section
variable {w : World} {b : Nat} {ks : List ByteArray}
theorem setBlk_other {o : Obj} {k : Nat} (h : k ≠ b) : (setBlk w b o).heap[k]? = w.heap[k]? := by simp [setBlk, Ne.symm h]
theorem setBlk_same {o o' : Obj} (h : w.heap[b]? = some o') : (setBlk w b o).heap[b]? = some o := by
  have hlt : b < w.heap.size := (Array.getElem?_eq_some_iff.1 h).1
  simp [setBlk, hlt]
theorem setBlk_size (o : Obj) : (setBlk w b o).heap.size = w.heap.size := by simp [setBlk]
theorem Seen.keep {w' : World} (h : Seen w b ks) (hb : w'.heap[b]? = w.heap[b]?) : Seen w' b ks := by
  obtain ⟨es, clock, h1, h2⟩ := h
  exact ⟨es, clock, hb.trans h1, h2⟩
theorem Seen.lt (h : Seen w b ks) : b < w.heap.size := by
  obtain ⟨es, clock, h1, _⟩ := h
  exact (Array.getElem?_eq_some_iff.1 h1).1
theorem Seen.made (w : World) : Seen (w.alloc (.map #[] 0)) w.heap.size [] :=
  ⟨#[], 0, (MapKept.heap_alloc w _).1, stamped_empty 0, rfl, List.nodup_nil, by simp⟩
theorem run_made (w : World) : (Instr.makeMap 84 none).run Tryd.prog w = .ok (.map (some w.heap.size)) (w.alloc (.map #[] 0)) := rfl
theorem seen_keys {es : Array MapEntry} (h : es.toList.map (·.key) = ks.map Value.string) : ∀ x ∈ es.toList, IsKey .string x.key := by
  intro x hx
  have : x.key ∈ es.toList.map (·.key) := List.mem_map.2 ⟨x, hx, rfl⟩
  rw [h] at this
  obtain ⟨f, _, e⟩ := List.mem_map.1 this
  rw [← e]
  trivial
theorem zero_int (w : World) : (zeroValue 3).run Tryd.prog w = .ok (.int .i64 0) w := by kernel_rfl
theorem Seen.look (h : Seen w b ks) (k : ByteArray) : ∃ n : Int, (Instr.lookup 84 (.map (some b)) (.string k) false).run Tryd.prog w = .ok (.int .i64 n) w := by
  obtain ⟨es, clock, hb, hs, hk, hn, hv⟩ := h
  have hm := Tryd.underlying84
  have hd := Tryd.underlying9
  rcases findNow_spec (d := .string) (k := .string k) trivial es.toList 0 (seen_keys hk) with ⟨h1, h2⟩ | ⟨j, e, h1, h2, h3⟩
  · exact ⟨0, by simp [Instr.lookup, run_underlying hm, MapKept.run_getObj_map hb, MapKept.run_checkKey hd (show IsKey .string (.string k) from trivial), MapKept.run_findKey hd h1, zero_int, Result.andThen]⟩
  · obtain ⟨n, en⟩ := hv e (List.mem_of_getElem? h2)
    exact ⟨n, by simp [Instr.lookup, run_underlying hm, MapKept.run_getObj_map hb, MapKept.run_checkKey hd (show IsKey .string (.string k) from trivial), MapKept.run_findKey hd h1, en, Result.andThen]⟩
/-- the names, and one more -/
def addName (ks : List ByteArray) (k : ByteArray) : List ByteArray := if ks.any (fun x => decide (x = k)) = true then ks else ks ++ [k]
theorem any_mem {ks : List ByteArray} {k : ByteArray} : ks.any (fun x => decide (x = k)) = true ↔ k ∈ ks := by
  rw [List.any_eq_true]
  constructor
  · rintro ⟨x, hx, e⟩
    rw [← of_decide_eq_true e]
    exact hx
  · intro h
    exact ⟨k, h, by simp⟩
theorem Seen.put (h : Seen w b ks) (k : ByteArray) (n : Int) : ∃ o, (Instr.mapUpdate 84 (.map (some b)) (.string k) (.int .i64 n)).run Tryd.prog w = .ok () (setBlk w b o) ∧ Seen (setBlk w b o) b (addName ks k) := by
  obtain ⟨es, clock, hb, hs, hk, hn, hv⟩ := h
  have hm := Tryd.underlying84
  have hdd := Tryd.underlying9
  rcases findNow_spec (d := .string) (k := .string k) trivial es.toList 0 (seen_keys hk) with ⟨h1, h2⟩ | ⟨j, e, h1, h2, h3⟩
  · have hne : k ∉ ks := by
      intro hin
      have : Value.string k ∈ es.toList.map (·.key) := by rw [hk]; exact List.mem_map.2 ⟨k, hin, rfl⟩
      obtain ⟨x, hx, e⟩ := List.mem_map.1 this
      exact h2 x hx e
    refine ⟨.map (es.push { key := .string k, val := .int .i64 n, born := clock }) (clock + 1), ?_, ?_⟩
    · simp [Instr.mapUpdate, run_underlying hm, MapKept.run_getObj_map hb, MapKept.run_checkKey hdd (show IsKey .string (.string k) from trivial), MapKept.run_findKey hdd h1, MapKept.run_setObj_map _ hb, Result.andThen, setBlk]
    · unfold addName
      rw [if_neg (fun h => hne (any_mem.1 h))]
      refine ⟨_, _, setBlk_same hb, stamped_push hs h2, by simp [hk], ?_, ?_⟩
      · rw [List.nodup_append]
        refine ⟨hn, by simp, ?_⟩
        intro a ha c hc e
        rw [List.mem_singleton.1 hc] at e
        exact hne (e ▸ ha)
      · intro e he
        rw [Array.toList_push] at he
        rcases List.mem_append.1 he with he | he
        · exact hv e he
        · rw [List.mem_singleton.1 he]; exact ⟨n, rfl⟩
  · have hj : es[j]? = some e := by simpa using h2
    have hin : k ∈ ks := by
      have : Value.string k ∈ ks.map Value.string := by rw [← hk]; exact List.mem_map.2 ⟨e, List.mem_of_getElem? h2, h3⟩
      obtain ⟨x, hx, e⟩ := List.mem_map.1 this
      injection e with e
      exact e ▸ hx
    refine ⟨.map (es.modify j fun e => { e with key := .string k, val := .int .i64 n }) clock, ?_, ?_⟩
    · simp [Instr.mapUpdate, run_underlying hm, MapKept.run_getObj_map hb, MapKept.run_checkKey hdd (show IsKey .string (.string k) from trivial), MapKept.run_findKey hdd h1, hj, h3, MapKept.run_keyThatStays (show IsKey .string (.string k) from trivial), MapKept.run_setObj_map _ hb, Result.andThen, setBlk]
    · have hkey : ∀ e', es[j]? = some e' → ({ e' with key := .string k, val := .int .i64 n } : MapEntry).key = e'.key := fun e' he' => by rw [hj] at he'; cases he'; exact h3.symm
      unfold addName
      rw [if_pos (any_mem.2 hin)]
      have e1 : (es.modify j fun e => { e with key := .string k, val := .int .i64 n }).toList = es.toList.set j { e with key := .string k, val := .int .i64 n } := by
        apply List.ext_getElem?
        intro i
        rw [Array.getElem?_toList, Array.getElem?_modify, List.getElem?_set]
        by_cases hij : j = i
        · subst hij
          have hlt : j < es.size := (Array.getElem?_eq_some_iff.1 hj).1
          simp [hj]
          omega
        · simp [hij]
      refine ⟨_, _, setBlk_same hb, stamped_modify hs _ _ (fun _ _ => rfl) (fun e' _ he' => hkey e' he'), ?_, hn, ?_⟩
      · rw [e1, List.map_set, hk]
        apply List.ext_getElem?
        intro i
        rw [List.getElem?_set]
        by_cases hij : j = i
        · subst hij
          have hlt : j < (ks.map Value.string).length := by rw [← hk, List.length_map, Array.length_toList]; exact (Array.getElem?_eq_some_iff.1 hj).1
          rw [if_pos rfl, if_pos hlt, ← hk, List.getElem?_map, h2, ← h3]
          rfl
        · rw [if_neg hij]
      · intro x hx
        rw [e1] at hx
        rcases List.mem_or_eq_of_mem_set hx with hx | rfl
        · exact hv x hx
        · exact ⟨n, rfl⟩
theorem Seen.size (h : Seen w b ks) (ty : TypeId) : (Builtin.len_ #[84] ty #[.map (some b)]).run Tryd.prog w = .ok (.int .i64 (ks.length : Int)) w := by
  obtain ⟨es, clock, hb, hs, hk, hn, hv⟩ := h
  have e : es.size = ks.length := by
    have := congrArg List.length hk
    simpa using this
  simp [Builtin.len_, run_underlying Tryd.underlying84, MapKept.run_getObj_map hb, e, goInt, Result.andThen]
end
end Go.Proofs.YtkcmkgkkddgicaaDoor.R

/- slices.Clone, slices.Grow of nothing, slices.Concat, at rows of bytes. -/
set_option linter.unusedVariables false
set_option linter.unusedSimpArgs false
namespace Go.Proofs.YtkcmkgkkddgicaaDoor.R
open Go.RowKit Go.Proofs.YtkcmkgkkddgicaaDoorW.PrintWords Go.Proofs.YtkcmkgkkddgicaaDoorW.PrintLast Go.Proofs.YtkcmkgkkddgicaaDoorW.PrintMore
abbrev Rb (w : World) (base : Nat) (v : Value) (xs : List Int) : Prop := Kd.R (Kd.int .u8) 5 w base (fun _ => True) v xs
theorem Rb_none {w : World} {base n cap : Nat} {A : Option Addr} {xs : List Int} (h : Rb w base (.slice A n cap) xs) : Rb w base (.slice A 0 cap) [] := by
  refine Kd.R_of_own ?_ (fun _ _ => trivial)
  rcases (Kd.own_of_R h).2 with ⟨hv, hx0⟩ | ⟨g, cap', cur, hv, hb, hh, hnc, hcm, hcs, htake⟩
  · injection hv with h1 h2 h3
    subst h1 h3
    exact ⟨rfl, .inl ⟨rfl, rfl⟩⟩
  · injection hv with h1 h2 h3
    subst h1 h3
    exact ⟨rfl, .inr ⟨g, cap, cur, rfl, hb, hh, Nat.zero_le _, hcm, hcs, by simp [encs]⟩⟩
set_option maxRecDepth 100000 in
set_option maxHeartbeats 2000000 in
theorem grow.calls (n : Int) (w : World) (h0 : 0 ≤ n) (h1 : n ≤ 100000000) : Calls Tryd.prog 70 #[.slice none 0 0, .int .i64 n] w fun e w' => ∃ v, e = .returned v ∧ Rb w' w.heap.size v [] ∧ Below w.heap.size w w' := by
  have HB := Aside0.mk (Below.refl w.heap.size w)
  by_cases hp : 0 < n
  · obtain ⟨Z, hZ⟩ : ∃ Z, List.replicate n.toNat (0 : Int) = Z := ⟨_, rfl⟩
    have HZ := Aside0.mk hZ
    go_enter Tryd.func70, Tryd.ntmps70
    go_wp2_with (first | (at_builtin; refine Kd.R_append_zeros (Kd.int .u8) (w0 := w) w.heap.size rfl (.tmp 20) (.tmp 21) 22 3 5 (.int .u8 0) 1 rfl Tryd.underlying22 Tryd.underlying3 info5 rfl (by decide) (by omega) _ [] 0 n (fun _ => True) rfl rfl rfl (fun _ _ => trivial) (Kd.R_nil _ _ _ _ _) h0 HB.out (Nat.le_refl _) (by simp; omega) ?_; intro v1 w1 ho hb hg hat; obtain ⟨A1, c1, e1⟩ := Kd.R_slice ho; subst e1; have HO := Aside0.mk (Rb_none ho); have HB1 := Aside0.mk hb; clear ho hb hg hat))
    go_ret
    exact ⟨_, rfl, HO.out, HB1.out⟩
  · obtain rfl : n = 0 := by omega
    go_enter Tryd.func70, Tryd.ntmps70
    go_wp2
    go_ret
    exact ⟨_, rfl, Kd.R_nil _ _ _ _ _, HB.out⟩
set_option maxRecDepth 100000 in
set_option maxHeartbeats 2000000 in
theorem clone.calls (A : Option Addr) (c : Nat) (xs : List Int) (w : World) (hC : Kd.C (Kd.int .u8) w A xs.length xs) (hl : xs.length ≤ 100000000) : Calls Tryd.prog 49 #[.slice A xs.length c] w fun e w' => ∃ v, e = .returned v ∧ Rb w' w.heap.size v xs ∧ Below w.heap.size w w' := by
  have HB := Aside0.mk (Below.refl w.heap.size w)
  have HC := Aside0.mk hC
  have hq : ∀ (B : Option Addr) (n c : Nat) (w : World), (binOp .eql 22 (.slice B n c) (.slice none 0 0)).run Tryd.prog w = .ok (.bool B.isNone) w := fun B n c w => by
    simp only [binOp]
    simp [run_equal_slice_nil w 22 5 B n c Tryd.underlying22]
  cases A with
  | none =>
    obtain rfl : xs = [] := by
      rcases Nat.eq_zero_or_pos xs.length with h | h
      · exact List.eq_nil_of_length_eq_zero h
      · obtain ⟨ad, h, _⟩ := hC.2.2 h
        cases h
    clear hC
    go_enter Tryd.func49, Tryd.ntmps49
    go_wp2
    go_ret
    exact ⟨_, rfl, Kd.R_nil _ _ _ _ _, HB.out⟩
  | some ad =>
    clear hC
    go_enter Tryd.func49, Tryd.ntmps49
    go_wp2_with (first | (refine Kd.R_lit (Kd.int .u8) (w0 := w) (W := w) w.heap.size 5 rfl (N := 5) rfl (xs := []) (inner := []) (ok := fun _ => True) (okp := fun _ => True) (by go_simp) (Reps.none _ _) (fun _ hk => hk) trivial HB.out (Nat.le_refl _) (by simp) ?_; intro v1 w1 ho hb hg hat; have HO := Aside0.mk ho; have HB1 := Aside0.mk hb; have HC1 := Aside0.mk (Kd.C_below HC.out hb); clear ho hb hg hat) | (at_builtin; refine Kd.R_append_row (Value.int .u8) 0 (w0 := w) w.heap.size rfl (.tmp 5) (.tmp 6) 22 5 (.int .u8 0) 1 rfl Tryd.underlying22 info5 rfl (by decide) v1 [] xs (some ad) _ c _ rfl rfl (fun _ _ => trivial) HO.out HC1.out HB1.out HB1.out.size (by simp; omega) ?_; intro v2 w2 ho hb hg hat; replace HO := Aside0.mk ho; replace HB1 := Aside0.mk hb; clear ho hb hg hat))
    go_ret
    exact ⟨_, rfl, HO.out, HB1.out⟩
/-- a row of rows: address, length, room, what lies there -/
structure Row where
  A : Option Addr
  c : Nat
  xs : List Int
def tot (l : List Row) : Nat := (l.map (fun r => r.xs.length)).sum
def cat (l : List Row) : List Int := (l.map (fun r => r.xs)).flatten
theorem cat_length (l : List Row) : (cat l).length = tot l := by
  induction l with
  | nil => rfl
  | cons a l ih => simp only [cat, tot, List.map_cons, List.flatten_cons, List.length_append, List.sum_cons] at ih ⊢; omega
theorem tot_take_le (l : List Row) (k : Nat) : tot (l.take k) ≤ tot l := by
  have := congrArg tot (List.take_append_drop k l)
  unfold tot at this ⊢
  rw [List.map_append, List.sum_append] at this
  omega
theorem tot_snoc (l : List Row) (k : Nat) (r : Row) (h : l[k]? = some r) : tot (l.take (k + 1)) = tot (l.take k) + r.xs.length := by
  obtain ⟨hk, e⟩ := List.getElem?_eq_some_iff.1 h
  rw [List.take_succ_eq_append_getElem hk, e]
  simp [tot]
theorem cat_snoc (l : List Row) (k : Nat) (r : Row) (h : l[k]? = some r) : cat (l.take (k + 1)) = cat (l.take k) ++ r.xs := by
  obtain ⟨hk, e⟩ := List.getElem?_eq_some_iff.1 h
  rw [List.take_succ_eq_append_getElem hk, e]
  simp [cat]
set_option maxRecDepth 100000 in
set_option maxHeartbeats 4000000 in
theorem concat.calls (cb cap : Nat) (rows : List Row) (w : World) (hb : cb < w.heap.size) (hcell : ∀ i r, rows[i]? = some r → w.cell? ⟨cb, i, none⟩ = some (.slice r.A r.xs.length r.c)) (hC : ∀ r ∈ rows, Kd.C (Kd.int .u8) w r.A r.xs.length r.xs)
    (ht : tot rows ≤ 100000000) (hn : rows.length ≤ 1000) :
    Calls Tryd.prog 50 #[.slice (some ⟨cb, 0, none⟩) rows.length cap] w fun e w' => ∃ v, e = .returned v ∧ Rb w' w.heap.size v (cat rows) ∧ Below w.heap.size w w' := by
  have HCell := Aside0.mk hcell
  have HC := Aside0.mk hC
  clear hcell hC
  go_enter Tryd.func50, Tryd.ntmps50
  go_wp2
  go_loop [3, 5, 11] (fun s _ i => ∃ k : Nat, k ≤ rows.length ∧ s = .int .i64 (tot (rows.take k) : Int) ∧ i = .int .i64 (k : Int)) (fun _ _ i => rows.length - (intOf i).toNat)
  case atStart => exact ⟨0, Nat.zero_le _, rfl, rfl⟩
  case round =>
    obtain ⟨k, hk, rfl, rfl⟩ := hrel
    have hle := tot_take_le rows k
    by_cases hlt : k < rows.length
    · obtain ⟨r, hr⟩ : ∃ r, rows[k]? = some r := ⟨_, List.getElem?_eq_getElem hlt⟩
      have hc := HCell.out k r hr
      have hs := tot_snoc rows k r hr
      have hle2 := tot_take_le rows (k + 1)
      generalize hT : tot (rows.take k) = T at *
      generalize hL : r.xs.length = L at *
      go_wp2
      go_round
      case rel => exact ⟨k + 1, by omega, by rw [hs]; go_num, by go_num⟩
      case measure => simp [intOf]; omega
    · have hk2 : k = rows.length := by omega
      have htk : rows.take k = rows := by rw [hk2, List.take_length]
      rw [htk]
      have hgrow := fun w => grow.calls (tot rows : Int) w (by omega) (by omega)
      generalize hT : tot rows = T at *
      go_wp2_with (first | (go_at_call 70; refine (hgrow _).mono ?_; rintro e w1 ⟨v1, rfl, ho, hb1⟩; have HO := Aside0.mk ho; have HB := Aside0.mk hb1; clear ho hb1))
      go_loopw [6, 8, 27] (fun v _ i wr => ∃ k : Nat, k ≤ rows.length ∧ Aside0 (Rb wr w.heap.size v (cat (rows.take k))) ∧ Aside0 (Below w.heap.size w wr) ∧ i = .int .i64 (k : Int)) (fun _ _ i _ => rows.length - (intOf i).toNat)
      case atStart => exact ⟨0, Nat.zero_le _, HO, HB, rfl⟩
      case round =>
        clear HO HB
        obtain ⟨k, hk, HO, HB, rfl⟩ := hrel
        by_cases hlt : k < rows.length
        · obtain ⟨r, hr⟩ : ∃ r, rows[k]? = some r := ⟨_, List.getElem?_eq_getElem hlt⟩
          have hc := ((HB.out.cell (p := ⟨cb, k, none⟩) hb).trans (HCell.out k r hr))
          have HCr := Aside0.mk (Kd.C_below (HC.out r (List.mem_of_getElem? hr)) HB.out)
          have HS := Aside0.mk (cat_snoc rows k r hr)
          have hl : (cat (rows.take k)).length + r.xs.length ≤ 100000000 := by
            rw [cat_length, ← tot_snoc rows k r hr]
            have := tot_take_le rows (k + 1)
            omega
          generalize hX : cat (rows.take k) = X at *
          obtain ⟨A1, c1, e1⟩ := Kd.R_slice HO.out
          subst e1
          go_wp2_with (first | (at_builtin; refine Kd.R_append_row (Value.int .u8) 0 (w0 := w) w.heap.size rfl (.tmp 31) (.tmp 32) 22 5 (.int .u8 0) 1 rfl Tryd.underlying22 info5 rfl (by decide) _ X r.xs r.A _ r.c _ rfl rfl (fun _ _ => trivial) HO.out HCr.out HB.out HB.out.size (by omega) ?_; intro v2 w2 ho hb2 hg hat; replace HO := Aside0.mk ho; replace HB := Aside0.mk hb2; clear ho hb2 hg hat HCr))
          go_roundw
          case rel => exact ⟨k + 1, by omega, ⟨by rw [HS.out]; exact HO.out⟩, HB, by go_num⟩
          case measure => simp [intOf]; omega
        · have hk2 : k = rows.length := by omega
          have htk : rows.take k = rows := by rw [hk2, List.take_length]
          rw [htk] at HO
          obtain ⟨A1, c1, e1⟩ := Kd.R_slice HO.out
          subst e1
          go_wp2
          go_ret
          exact ⟨_, rfl, HO.out, HB.out⟩
end Go.Proofs.YtkcmkgkkddgicaaDoor.R

/- ustar.Put: what it answers. -/
set_option linter.unusedVariables false
set_option linter.unusedSimpArgs false
namespace Go.Proofs.YtkcmkgkkddgicaaDoor.R
open Go.RowKit Go.Proofs.YtkcmkgkkddgicaaDoorW.PrintWords Go.Proofs.YtkcmkgkkddgicaaDoorW.PrintLast Go.Proofs.YtkcmkgkkddgicaaDoorW.PrintMore
def sizes (l : List S58) : Nat := (l.map (fun f => f.f1.length)).sum
theorem sizes_take_le (l : List S58) (k : Nat) : sizes (l.take k) ≤ sizes l := by
  have := congrArg sizes (List.take_append_drop k l)
  unfold sizes at this ⊢
  rw [List.map_append, List.sum_append] at this
  omega
theorem sizes_snoc (l : List S58) (k : Nat) (r : S58) (h : l[k]? = some r) : sizes (l.take (k + 1)) = sizes (l.take k) + r.f1.length := by
  obtain ⟨hk, e⟩ := List.getElem?_eq_some_iff.1 h
  rw [List.take_succ_eq_append_getElem hk, e]
  simp [sizes]
/-- a file of a row of files -/
theorem file_at {w : World} {A : Option Addr} {n : Nat} {xs : List S58} (h : Kd.C k58 w A n xs) (k : Nat) (f : S58) (hf : xs[k]? = some f) (hk : k < n) : ∃ ad A1 c1, A = some ad ∧ w.cell? (ad.add (k * 2)) = some (.string f.f0) ∧ w.cell? (ad.add (k * 2 + 1)) = some (.slice A1 f.f1.length c1) ∧ f.f1.length ≤ c1 ∧ (Kd.int .u8).C w A1 f.f1.length f.f1 := by
  obtain ⟨ad, A1, c1, e, h1, h2, h3, h4⟩ := at_T58 h (k : Int) (by omega) (by omega)
  have er : rd_T58 xs (k : Int) = f := by
    unfold rd_T58
    rw [List.getD_eq_getElem?_getD, Int.toNat_natCast, hf]
    rfl
  rw [er] at h1 h2 h3 h4
  rw [Int.toNat_natCast] at h1 h2
  exact ⟨ad, A1, c1, e, h1, by rw [← h2]; exact congrArg _ (add_field _ _ 1 (by omega)), h3, h4⟩
def rnd (n : Nat) : Nat := (n + 511) / 512 * 512
theorem rnd_ge (n : Nat) : n ≤ rnd n := by unfold rnd; omega
theorem rnd_le (n : Nat) : rnd n ≤ n + 511 := by unfold rnd; omega
theorem w64 {n : Int} (h1 : -9223372036854775808 ≤ n) (h2 : n ≤ 9223372036854775807) : wrap64 n = n := by unfold wrap64; omega
theorem round_rnd (n : Nat) (h : n ≤ 100000000) : header_Round.f (n : Int) = some ((rnd n : Nat) : Int) := by
  have e1 : ((n : Int) + 511).tdiv 512 = (((n + 511) / 512 : Nat) : Int) := by
    rw [Int.tdiv_eq_ediv_of_nonneg (by omega)]
    omega
  have e2 : (n + 511) / 512 ≤ n + 511 := Nat.div_le_self _ _
  have e3 : mx (n : Int) 0 = n := by unfold mx; split <;> omega
  have w1 : wrap64 ((n : Int) + 512) = n + 512 := w64 (by omega) (by omega)
  have w2 : wrap64 ((n : Int) + 512 - 1) = n + 511 := by rw [w64 (by omega) (by omega)]; omega
  unfold header_Round.f
  have w3 : wrap64 (((n + 511) / 512 : Nat) : Int) = (((n + 511) / 512 : Nat) : Int) := w64 (by omega) (by omega)
  have w4 : wrap64 ((((n + 511) / 512 : Nat) : Int) * 512) = (((n + 511) / 512 : Nat) : Int) * 512 := w64 (by omega) (by omega)
  rw [e3, w1, w2, e1, w3, w4]
  unfold rnd
  congr 1
/-- files laid one behind the other -/
def putLoop : List S58 → List Int → List ByteArray → Option (List Int × List ByteArray × Int)
  | [], b, ks => some (b, ks, 0)
  | f :: r, b, ks => (header_Put.f f.f0 (f.f1.length : Int)).bind fun h => if h.2 = 0 then
      (if b.length + h.1.length + f.f1.length + 511 ≤ 90000000 then putLoop r (b ++ (h.1 ++ (f.f1 ++ List.replicate (rnd f.f1.length - f.f1.length) 0))) (addName ks f.f0) else none) else some ([], ks, h.2)
def ustar_Put.f (l0 : List S58) : Option (List Int × Int) :=
  if l0.length ≤ 100000 ∧ sizes l0 ≤ 100000000 then (if 400 < l0.length ∨ 4194304 < sizes l0 then some ([], 5) else
    (putLoop l0 [] []).bind fun t => if t.2.2 = 0 then (if t.2.1.length < l0.length then some ([], 7) else some (t.1 ++ Z1024, 0)) else some ([], t.2.2)) else none
theorem seen_setBlk_row {w : World} {b base : Nat} {ks : List ByteArray} {v : Value} {xs : List Int} {o : Obj} (hs : Seen w b ks) (h : Rb w base v xs) : Rb (setBlk w b o) base v xs := by
  have hne : ∀ k, v.ownBlock = some k → k ≠ b := by
    rintro k hk rfl
    obtain ⟨cells, hc⟩ := own_typed (Kd.own_of_R h) k hk
    obtain ⟨es, clock, h1, _⟩ := hs
    rw [h1] at hc
    cases hc
  exact Kd.R_mono (Kd.R_move (ok := fun k => k ≠ b) (Kd.R_of_own (Kd.own_of_R h) hne) (fun k hk => setBlk_other hk)) (fun _ _ => trivial)
theorem below_setBlk {base : Nat} {w W : World} {b : Nat} (o : Obj) (h : Below base w W) (hb : base ≤ b) : Below base w (setBlk W b o) :=
  h.trans ⟨rfl, rfl, rfl, by rw [setBlk_size]; exact Nat.le_refl _, fun k hk => setBlk_other (by omega)⟩
theorem two_cells {W w1 : World} {a b : Value} {t : Nat} (hb : Below (W.alloc (.cells #[a, b] t)).heap.size (W.alloc (.cells #[a, b] t)) w1) : w1.cell? ⟨W.heap.size, 0, none⟩ = some a ∧ w1.cell? ⟨W.heap.size, 1, none⟩ = some b := by
  have h := (hb.block W.heap.size (by simp)).trans (World.alloc_heap_new W (.cells #[a, b] t))
  constructor <;> (unfold World.cell?; rw [h]; rfl)
theorem four_cells (W : World) (t : Nat) (r0 r1 r2 r3 : Row) {n3 : Nat} (h3 : r3.xs.length = n3) : ∀ (i : Nat) (r : Row), [r0, r1, r2, r3][i]? = some r →
    (W.alloc (.cells #[.slice r0.A r0.xs.length r0.c, .slice r1.A r1.xs.length r1.c, .slice r2.A r2.xs.length r2.c, .slice r3.A n3 r3.c] t)).cell? ⟨W.heap.size, i, none⟩ = some (.slice r.A r.xs.length r.c) := by
  subst h3
  have h := World.alloc_heap_new W (.cells #[.slice r0.A r0.xs.length r0.c, .slice r1.A r1.xs.length r1.c, .slice r2.A r2.xs.length r2.c, .slice r3.A r3.xs.length r3.c] t)
  intro i r hi
  match i, hi with
  | 0, hi => obtain rfl := Option.some.inj hi; unfold World.cell?; rw [h]; rfl
  | 1, hi => obtain rfl := Option.some.inj hi; unfold World.cell?; rw [h]; rfl
  | 2, hi => obtain rfl := Option.some.inj hi; unfold World.cell?; rw [h]; rfl
  | 3, hi => obtain rfl := Option.some.inj hi; unfold World.cell?; rw [h]; rfl
  | n + 4, hi => simp at hi
set_option maxRecDepth 100000 in
set_option maxHeartbeats 8000000 in
theorem ustar_Put.calls (A0 : Option Addr) (c0 : Nat) (l0 : List S58) (r1 : List Int) (r2 : Int) (w : World) (hr0 : Kd.C k58 w A0 l0.length l0) (hc0 : l0.length ≤ c0) (h : ustar_Put.f l0 = some (r1, r2)) :
    Calls Tryd.prog 30 #[.slice A0 l0.length c0] w fun e w' => ∃ v0_ : Value, e = .returned (.tuple #[v0_, .int .i64 r2]) ∧ Kd.R (Kd.int .u8) 5 w' w.heap.size (fun _ => True) v0_ r1 ∧ Below w.heap.size w w' := by
  have HC := Aside0.mk hr0
  clear hr0
  have HB := Aside0.mk (Below.refl w.heap.size w)
  unfold ustar_Put.f at h
  split at h
  case isFalse => cases h
  rename_i hbig
  obtain ⟨hn, ht⟩ := hbig
  have H := Aside0.mk h
  clear h
  go_enter Tryd.func30, Tryd.ntmps30
  go_wp2
  go_loopw [4, 6, 16] (fun s _ i wr => ∃ k : Nat, k ≤ l0.length ∧ s = .int .i64 (sizes (l0.take k) : Int) ∧ i = .int .i64 (k : Int) ∧ Aside0 (Below w.heap.size w wr)) (fun _ _ i _ => l0.length - (intOf i).toNat)
  case atStart => exact ⟨0, Nat.zero_le _, rfl, rfl, HB⟩
  case round =>
    clear HB
    obtain ⟨k, hk, rfl, rfl, HB⟩ := hrel
    have hle := sizes_take_le l0 k
    by_cases hlt : k < l0.length
    · obtain ⟨f, hf⟩ : ∃ f, l0[k]? = some f := ⟨_, List.getElem?_eq_getElem hlt⟩
      obtain ⟨ad, A1, c1, rfl, hx0, hx1, hl1, hi1⟩ := file_at HC.out k f hf hlt
      replace hx0 := (HB.out.cell (World.block_lt_of_cell? w _ hx0)).trans hx0
      replace hx1 := (HB.out.cell (World.block_lt_of_cell? w _ hx1)).trans hx1
      have hx2 : wr.cell? ⟨(ad.add (k * 2)).block, (ad.add (k * 2)).off + 1, none⟩ = some (.slice A1 f.f1.length c1) := by rw [← add_field _ _ 1 (by omega)]; exact hx1
      have hs := sizes_snoc l0 k f hf
      have hle2 := sizes_take_le l0 (k + 1)
      generalize hT : sizes (l0.take k) = T at *
      go_wp2
      go_roundw
      case rel => exact ⟨k + 1, by omega, by rw [hs]; go_num, by go_num, ⟨HB.out.alloc HB.out.size _⟩⟩
      case measure => simp [intOf]; omega
    have hk2 : k = l0.length := by omega
    subst hk2
    rw [List.take_length]
    clear hk hlt hle
    by_cases hfull : 400 < l0.length ∨ 4194304 < sizes l0
    · have H1 := H.out
      rw [if_pos hfull] at H1
      obtain H1 := Option.some.inj H1
      injection H1 with e1 e2
      subst e1 e2
      generalize hT : sizes l0 = T at *
      by_cases hl : 400 < l0.length
      · go_wp2
        go_ret2
        exact ⟨_, rfl, Kd.R_nil _ _ _ _ _, HB.out⟩
      · have hT2 : 4194304 < T := by omega
        go_wp2
        go_ret2
        exact ⟨_, rfl, Kd.R_nil _ _ _ _ _, HB.out⟩
    have hl : l0.length ≤ 400 := by omega
    have hT2 : sizes l0 ≤ 4194304 := by omega
    have H1 := H.out
    rw [if_neg hfull] at H1
    obtain ⟨⟨b, ks, er⟩, h2, h3⟩ := Option.bind_eq_some_iff.1 H1
    replace H := Aside0.mk h2
    have H3 := Aside0.mk h3
    clear H1 h2 h3 hfull
    generalize hT : sizes l0 = T at *
    have hmk := fun W : World => run_made W
    have hlk : ¬ 400 < (l0.length : Int) := by omega
    have hTk : ¬ 4194304 < (T : Int) := by omega
    go_wp2
    have HS := Aside0.mk (Seen.made wr)
    have HM := Aside0.mk HB.out.size
    replace HB := Aside0.mk (HB.out.alloc HB.out.size (.map #[] 0))
    generalize hmb : wr.heap.size = mb at *
    have HK := Aside0.mk (show putLoop (l0.drop 0) [] [] = some (b, ks, er) from H.out)
    clear H
    have HS0 := HS
    go_loopw [7, 10, 11, 12, 13, 36] (fun v7 _ _ _ _ i wq => ∃ (k : Nat) (X : List Int) (kk : List ByteArray), k ≤ l0.length ∧ i = .int .i64 (k : Int) ∧ Aside0 (putLoop (l0.drop k) X kk = some (b, ks, er)) ∧ Aside0 (Rb wq w.heap.size v7 X) ∧ Aside0 (Seen wq mb kk) ∧ Aside0 (Below w.heap.size w wq) ∧ Aside0 (X.length ≤ 90000000)) (fun _ _ _ _ _ i _ => l0.length - (intOf i).toNat)
    case atStart => exact ⟨0, [], [], Nat.zero_le _, rfl, HK, ⟨Kd.R_nil _ _ _ _ _⟩, HS, HB, ⟨by simp⟩⟩
    case round =>
      clear HS HS0 HB HK
      obtain ⟨k, X, kk, hk, rfl, HK, HO, HS, HB, HX⟩ := hrel
      by_cases hlt : k < l0.length
      · obtain ⟨f, hf⟩ : ∃ f, l0[k]? = some f := ⟨_, List.getElem?_eq_getElem hlt⟩
        obtain ⟨ad, A1, c1, rfl, hx0, hx1, hl1, hi1⟩ := file_at HC.out k f hf hlt
        have HF := Aside0.mk hi1
        clear hi1
        replace hx0 := (HB.out.cell (World.block_lt_of_cell? w _ hx0)).trans hx0
        replace hx1 := (HB.out.cell (World.block_lt_of_cell? w _ hx1)).trans hx1
        have hx2 : wr.cell? ⟨(ad.add (k * 2)).block, (ad.add (k * 2)).off + 1, none⟩ = some (.slice A1 f.f1.length c1) := by rw [← add_field _ _ 1 (by omega)]; exact hx1
        have hd : l0.drop k = f :: l0.drop (k + 1) := by
          rw [List.drop_eq_getElem_cons hlt]
          congr 1
          exact Option.some.inj ((List.getElem?_eq_getElem hlt).symm.trans hf)
        have hK0 := HK.out
        rw [hd, putLoop] at hK0
        obtain ⟨⟨h1, he⟩, hh, hK1⟩ := Option.bind_eq_some_iff.1 hK0
        have HH := Aside0.mk hh
        clear HK hK0 hd hh
        have hsz := sizes_take_le l0 (k + 1)
        have hsn := sizes_snoc l0 k f hf
        rw [hT] at hsz
        have hfl : f.f1.length ≤ 4194304 := by omega
        clear hsz hsn
        by_cases hz : he = 0
        · subst hz
          rw [if_pos rfl] at hK1
          split at hK1
          case isFalse => cases hK1
          rename_i hroom
          have HK := Aside0.mk hK1
          have HRm := Aside0.mk hroom
          clear hK1 hroom
          go_wp2_with (first
            | (go_at_call 17; refine (header_Put.calls _ _ h1 0 _ HH.out).mono ?_; rintro e w1 ⟨vh, rfl, ho, hb⟩; obtain ⟨q0, q1⟩ := two_cells hb; have HN := Aside0.mk (Kd.R_lower ho (below_size (HB.out.alloc HB.out.size (.cells #[.string f.f0, .slice A1 f.f1.length c1] 58)))); replace HO := Aside0.mk (Kd.R_below (Kd.R_alloc HO.out (.cells #[.string f.f0, .slice A1 f.f1.length c1] 58)) hb); replace HS := Aside0.mk (HS.out.keep ((hb.block mb (by have := HS.out.lt; simp; omega)).trans (Below.heap_alloc wr (.cells #[.string f.f0, .slice A1 f.f1.length c1] 58) mb HS.out.lt))); replace HB := Aside0.mk (below_step (HB.out.alloc HB.out.size (.cells #[.string f.f0, .slice A1 f.f1.length c1] 58)) hb); clear ho hb))
          generalize hfb : wr.heap.size = fb at *
          have hwr : wrap64 (((rnd f.f1.length : Nat) : Int) - (f.f1.length : Int)) = ((rnd f.f1.length - f.f1.length : Nat) : Int) := by
            have h1 := rnd_ge f.f1.length
            have h2 := rnd_le f.f1.length
            rw [w64 (by omega) (by omega)]
            omega
          have HWR := Aside0.mk hwr
          clear hwr
          refine start_ (n := 10) (S := fun w' => w'.cell? ⟨fb, 1, none⟩ = some (.slice A1 f.f1.length c1)) (ds := []) #[false, false, false, false, false, false, false, false, false, false] (by kernel_rfl) rfl rfl q1 (fun hHeld => ?_)
          replace HO := Aside0.mk (Kd.R_drew HO.out)
          replace HN := Aside0.mk (Kd.R_drew HN.out)
          replace HS := Aside0.mk (HS.out.keep (w' := w1.drew) rfl)
          replace HB := Aside0.mk (below_drew1 HB.out)
          replace q0 : w1.drew.cell? ⟨fb, 0, none⟩ = some (.string f.f0) := q0
          clear q1
          generalize w1.drew = w2 at HO HN HS HB q0 hHeld ⊢
          refine pure_ (i := 0) (N := some 52) (v := ?_) (a' := ?_) #[true, false, false, false, false, false, false, false, false, false] rfl rfl (by kernel_rfl) (fun _ _ _ h => h) (Or.inl ⟨by rfl, ?_⟩) ?_ ?_
          rotate_left
          · intro w'
            go_simp
            with_reducible rfl
          rotate_left
          · simp only [Act.put, List.setIfInBounds_toArray, List.set_cons_zero, List.set_cons_succ, i64_w, i32_w]
            rfl
          refine pure_ (i := 4) (N := some 56) (v := ?_) (a' := ?_) #[true, false, false, false, true, false, false, false, false, false] rfl rfl (by kernel_rfl) (fun _ _ _ h => h) (Or.inl ⟨by rfl, ?_⟩) ?_ ?_
          rotate_left
          · intro w'
            go_simp
            with_reducible rfl
          rotate_left
          · simp only [Act.put, List.setIfInBounds_toArray, List.set_cons_zero, List.set_cons_succ, i64_w, i32_w]
            rfl
          refine take_ (i := 1) (N := some 53) (v := ?_) (a' := ?_) #[true, true, false, false, true, false, false, false, false, false] rfl rfl (by kernel_rfl) (fun _ _ _ h => h) (Or.inl ⟨by rfl, ?_⟩) hHeld ?_ ?_
          rotate_left
          · intro w' s0
            go_simp
            with_reducible rfl
          rotate_left
          · simp only [Act.put, List.setIfInBounds_toArray, List.set_cons_zero, List.set_cons_succ, i64_w, i32_w]
            rfl
          refine take_ (i := 5) (N := some 57) (v := ?_) (a' := ?_) #[true, true, false, false, true, true, false, false, false, false] rfl rfl (by kernel_rfl) (fun _ _ _ h => h) (Or.inl ⟨by rfl, ?_⟩) hHeld ?_ ?_
          rotate_left
          · intro w' s0
            go_simp
            with_reducible rfl
          rotate_left
          · simp only [Act.put, List.setIfInBounds_toArray, List.set_cons_zero, List.set_cons_succ, i64_w, i32_w]
            rfl
          refine pure_ (i := 2) (N := some 54) (v := ?_) (a' := ?_) #[true, true, true, false, true, true, false, false, false, false] rfl rfl (by kernel_rfl) (fun _ _ _ h => h) (Or.inl ⟨by rfl, ?_⟩) ?_ ?_
          rotate_left
          · intro w'
            go_simp
            with_reducible rfl
          rotate_left
          · simp only [Act.put, List.setIfInBounds_toArray, List.set_cons_zero, List.set_cons_succ, i64_w, i32_w]
            rfl
          refine pure_ (i := 6) (N := some 58) (v := ?_) (a' := ?_) #[true, true, true, false, true, true, true, false, false, false] rfl rfl (by kernel_rfl) (fun _ _ _ h => h) (Or.inl ⟨by rfl, ?_⟩) ?_ ?_
          rotate_left
          · intro w'
            go_simp
            with_reducible rfl
          rotate_left
          · simp only [Act.put, List.setIfInBounds_toArray, List.set_cons_zero, List.set_cons_succ, i64_w, i32_w]
            rfl
          refine one_ (i := 3) (N := some 55) #[true, true, true, true, true, true, true, false, false, false] rfl rfl (by kernel_rfl) (by decide) (fun K hK => ?_)
          refine goes_ Tryd.func22 (by kernel_rfl) rfl #[.int .i64 (f.f1.length : Int)] (by rfl) rfl rfl (by (try simp only [List.map_toArray, List.map_cons, List.map_nil]); rfl) ?_
          refine (header_Round.calls _ _ w2 (round_rnd f.f1.length (by omega))).mono ?_
          rintro e w3 ⟨rfl, hd⟩
          refine ⟨_, rfl, ?_⟩
          replace HO := Aside0.mk (Kd.R_below HO.out hd)
          replace HN := Aside0.mk (Kd.R_below HN.out hd)
          replace HS := Aside0.mk (HS.out.keep (hd.block mb HS.out.lt))
          replace HB := Aside0.mk (below_step HB.out hd)
          replace q0 := (hd.cell (World.block_lt_of_cell? w2 _ q0)).trans q0
          replace hHeld := (hd.cell (World.block_lt_of_cell? w2 _ hHeld)).trans hHeld
          clear hd
          refine hK.out _ _ hHeld (fun hHeld => ?_)
          clear hK K
          refine norm_ (a' := ?_) ?_ ?_
          rotate_left
          · show Act.put _ (some 55) _ = _
            simp only [Act.put, List.setIfInBounds_toArray, List.set_cons_zero, List.set_cons_succ, i64_w, i32_w]
            rfl
          refine pure_ (i := 7) (N := some 59) (v := ?_) (a' := ?_) #[true, true, true, true, true, true, true, true, false, false] rfl rfl (by kernel_rfl) (fun _ _ _ h => h) (Or.inl ⟨by rfl, ?_⟩) ?_ ?_
          rotate_left
          · intro w'
            go_simp
            with_reducible rfl
          rotate_left
          · simp only [Act.put, List.setIfInBounds_toArray, List.set_cons_zero, List.set_cons_succ, i64_w, i32_w]
            rfl
          refine one_ (i := 8) (N := some 60) #[true, true, true, true, true, true, true, true, true, false] rfl rfl (by kernel_rfl) (by decide) (fun K hK => ?_)
          refine Kd.R_make_step (Kd.int .u8) (w0 := w) w.heap.size 5 (by rfl) (N := 60) rfl 22 _ _ rfl (wrap64 (((rnd f.f1.length : Nat) : Int) - (f.f1.length : Int))) rfl rfl Tryd.underlying22 (.int .u8 0) 1 info5 rfl (by decide) (by omega) 0 (ok := fun _ => True) (okp := fun _ => True) rfl (fun _ hk => hk) trivial (by rw [HWR.out]; omega) (by rw [HWR.out]; have := rnd_le f.f1.length; omega) HB.out HB.out.size ?_
          intro vz w4 ho hb hg _
          rw [HWR.out, Int.toNat_natCast] at ho
          have HZ := Aside0.mk ho
          have hb4 : Below w3.heap.size w3 w4 := (Below.refl _ _).grown hg (Nat.le_refl _) (fun k hk => by cases hk)
          clear ho hg
          replace HO := Aside0.mk (Kd.R_below HO.out hb4)
          replace HN := Aside0.mk (Kd.R_below HN.out hb4)
          replace HS := Aside0.mk (HS.out.keep (hb4.block mb HS.out.lt))
          replace HB := Aside0.mk hb
          replace q0 := (hb4.cell (World.block_lt_of_cell? w3 _ q0)).trans q0
          replace hHeld := (hb4.cell (World.block_lt_of_cell? w3 _ hHeld)).trans hHeld
          clear hb hb4
          refine hK.out _ _ hHeld (fun q1 => ?_)
          clear hK K
          refine norm_ (a' := ?_) ?_ ?_
          rotate_left
          · show Act.put _ (some 60) _ = _
            simp only [Act.put, List.setIfInBounds_toArray, List.set_cons_zero, List.set_cons_succ, i64_w, i32_w]
            rfl
          refine pure_ (i := 9) (N := some 13) (v := ?_) (a' := ?_) #[true, true, true, true, true, true, true, true, true, true] rfl rfl (by kernel_rfl) (fun _ _ _ h => h) (Or.inl ⟨by rfl, ?_⟩) ?_ ?_
          rotate_left
          · intro w'
            go_simp
            with_reducible rfl
          rotate_left
          · simp only [Act.put, List.setIfInBounds_toArray, List.set_cons_zero, List.set_cons_succ, i64_w, i32_w]
            rfl
          refine done_ (by kernel_rfl) ?_
          obtain ⟨A7, c7, e7⟩ := Kd.R_slice HO.out
          subst e7
          obtain ⟨Ah, ch, eh⟩ := Kd.R_slice HN.out
          subst eh
          obtain ⟨Az, cz, ez⟩ := Kd.R_slice HZ.out
          subst ez
          rw [List.length_replicate]
          have hB4 : Below w4.heap.size w4 (w4.alloc (.cells #[.slice A7 X.length c7, .slice Ah h1.length ch, .slice A1 f.f1.length c1, .slice Az (rnd f.f1.length - f.f1.length) cz] 22)) := (Below.refl _ _).alloc (Nat.le_refl _) _
          have HCC := Aside0.mk (concat.calls w4.heap.size 4 [⟨A7, c7, X⟩, ⟨Ah, ch, h1⟩, ⟨A1, c1, f.f1⟩, ⟨Az, cz, List.replicate (rnd f.f1.length - f.f1.length) 0⟩] (w4.alloc (.cells #[.slice A7 X.length c7, .slice Ah h1.length ch, .slice A1 f.f1.length c1, .slice Az (rnd f.f1.length - f.f1.length) cz] 22)) (by simp)
            (four_cells w4 22 _ _ _ _ (by simp)) (by
              intro r hr
              simp only [List.mem_cons, List.not_mem_nil, or_false] at hr
              rcases hr with rfl | rfl | rfl | rfl
              · exact Kd.C_below (Kd.R_reads' HO.out).2.2 hB4
              · exact Kd.C_below (Kd.R_reads' HN.out).2.2 hB4
              · exact Kd.C_below (Kd.C_below HF.out HB.out) hB4
              · exact Kd.C_below (Kd.R_reads' HZ.out).2.2 hB4) (by
              have h1 := HRm.out
              have h2 := rnd_le f.f1.length
              simp only [tot, List.map_cons, List.map_nil, List.sum_cons, List.sum_nil, List.length_replicate]
              omega) (by simp))
          have HB4 := Aside0.mk hB4
          clear hB4 HO HN HZ
          go_wp2_with (first
            | (go_at_call 50; refine (HCC.out).mono ?_; rintro e w6 ⟨v6, rfl, ho, hb⟩; replace HO := Aside0.mk (Kd.R_lower ho (below_size (HB.out.alloc HB.out.size _))); replace HS := Aside0.mk (HS.out.keep ((hb.block mb (by have := HS.out.lt; simp; omega)).trans (HB4.out.block mb HS.out.lt))); replace q0 := (hb.cell (p := ⟨fb, 0, none⟩) (by have := World.block_lt_of_cell? w4 _ q0; simp at this ⊢; omega)).trans ((HB4.out.cell (World.block_lt_of_cell? w4 _ q0)).trans q0); replace HB := Aside0.mk (below_step (below_step HB.out HB4.out) hb); obtain ⟨nn, hlook⟩ := HS.out.look f.f0; obtain ⟨oo, hput, hs6⟩ := HS.out.put f.f0 (wrap64 (nn + 1)); have HS6 := Aside0.mk hs6; clear ho hb hs6 HCC))
          go_roundw
          case rel =>
            have e : cat [⟨A7, c7, X⟩, ⟨Ah, ch, h1⟩, ⟨A1, c1, f.f1⟩, ⟨Az, cz, List.replicate (rnd f.f1.length - f.f1.length) 0⟩] = X ++ (h1 ++ (f.f1 ++ List.replicate (rnd f.f1.length - f.f1.length) 0)) := by simp [cat]
            refine ⟨k + 1, X ++ (h1 ++ (f.f1 ++ List.replicate (rnd f.f1.length - f.f1.length) 0)), addName kk f.f0, by omega, by go_num, HK, ⟨?_⟩, HS6, ⟨below_setBlk oo HB.out HM.out⟩, ⟨?_⟩⟩
            · rw [← e]
              exact seen_setBlk_row HS.out HO.out
            · have h1 := HRm.out
              have h2 := rnd_le f.f1.length
              simp only [List.length_append, List.length_replicate]
              omega
          case measure => simp [intOf]; omega
        · have hzb : (he == 0) = false := by simpa using hz
          simp only [hz, if_false] at hK1
          obtain hK1 := Option.some.inj hK1
          injection hK1 with e1 e2
          injection e2 with e2 e3
          subst e1 e2 e3
          have h3 := H3.out
          simp only [hz, if_false] at h3
          obtain h3 := Option.some.inj h3
          injection h3 with e1 e2
          subst e1 e2
          go_wp2_with (first
            | (go_at_call 17; refine (header_Put.calls _ _ h1 he _ HH.out).mono ?_; rintro e w1 ⟨vh, rfl, ho, hb⟩; replace HB := Aside0.mk (below_step (HB.out.alloc HB.out.size (.cells #[.string f.f0, .slice A1 f.f1.length c1] 58)) hb); clear ho hb))
          go_ret2
          exact ⟨_, rfl, Kd.R_nil _ _ _ _ _, HB.out⟩
      · have hk2 : k = l0.length := by omega
        subst hk2
        have hK0 := HK.out
        rw [List.drop_length, putLoop] at hK0
        obtain hK0 := Option.some.inj hK0
        injection hK0 with e1 e2
        injection e2 with e2 e3
        subst e1 e2 e3
        have h3 := H3.out
        simp only [if_true] at h3
        have hsl := fun ty => HS.out.size ty
        clear hk hlt HK
        by_cases hfew : kk.length < l0.length
        · rw [if_pos hfew] at h3
          obtain h3 := Option.some.inj h3
          injection h3 with e1 e2
          subst e1 e2
          go_wp2
          go_ret2
          exact ⟨_, rfl, Kd.R_nil _ _ _ _ _, HB.out⟩
        · rw [if_neg hfew] at h3
          obtain h3 := Option.some.inj h3
          injection h3 with e1 e2
          subst e1 e2
          obtain ⟨A7, c7, e7⟩ := Kd.R_slice HO.out
          subst e7
          go_wp2_with (first
            | (at_builtin; refine R_append_zeros' (hZ := Z1024_eq) Z1024 (Kd.int .u8) (w0 := w) w.heap.size rfl (.tmp 79) (.const (.int .i64 1024)) 22 3 5 (.int .u8 0) 1 rfl Tryd.underlying22 Tryd.underlying3 info5 rfl (by decide) (by omega) _ X 0 1024 (fun _ => True) rfl rfl rfl (fun _ _ => trivial) HO.out (by decide) HB.out HB.out.size (by have := HX.out; simp; omega) ?_; intro v9 w9 ho hb hg hat; replace HO := Aside0.mk ho; replace HB := Aside0.mk hb; clear ho hb hg hat))
          go_ret2
          exact ⟨_, rfl, HO.out, HB.out⟩
end Go.Proofs.YtkcmkgkkddgicaaDoor.R

/- ustar.Get: what it answers. -/
set_option linter.unusedVariables false
set_option linter.unusedSimpArgs false
namespace Go.Proofs.YtkcmkgkkddgicaaDoor.R
open Go.RowKit Go.Proofs.YtkcmkgkkddgicaaDoorW.PrintWords Go.Proofs.YtkcmkgkkddgicaaDoorW.PrintLast Go.Proofs.YtkcmkgkkddgicaaDoorW.PrintMore
/-- As Q; by a goto to label l: J; by one to label m: B. -/
def Exit2 (l : Nat) (J : Act → World → Prop) (m : Nat) (B : Act → World → Prop) (Q : Exit → Act → World → Prop) : Exit → Act → World → Prop
  | .goto l', a, w => (l' = l ∧ J a w) ∨ (l' = m ∧ B a w)
  | e, a, w => Q e a w
theorem Exit2_ret {l m : Nat} {J B : Act → World → Prop} {Q : Exit → Act → World → Prop} {a : Act} {w : World} : Exit2 l J m B Q .ret a w = Q .ret a w := rfl
/-- A scope with two labels: one that is jumped back to, with a measure, and one whose code jumps no more. -/
theorem scope_two {P : Program} {a : Act} {w : World} {Q : Exit → Act → World → Prop} {c rest out : Code} (l m : Nat) (J B : Act → World → Prop) (μ : Act → World → Nat) (hf : findLabel c l = some (Code.skip.seq rest)) (hm : findLabel c m = some out)
    (pass : ∀ a w, J a w → rest.wp P (Exit2 l (fun a' w' => J a' w' ∧ μ a' w' < μ a w) m B Q) a w)
    (bad : ∀ a w, B a w → out.wp P (Exit.noGoto Q) a w)
    (first : (∀ a w, J a w → rest.wp P (Exit2 l J m B Q) a w) → c.wp P (Exit2 l J m B Q) a w) : (Code.scope c).wp P Q a w := by
  replace first := first (fun a w hJ => wp_mono (pass a w hJ) (fun e a' w' h => by
    cases e with
    | goto l' => exact h.elim (fun h => .inl ⟨h.1, h.2.1⟩) .inr
    | normal => exact h
    | exit id => exact h
    | ret => exact h
    | panic ch => exact h
    | outgrown => exact h))
  intro b k cs
  have hg : gotoIn l (.inScope c :: k) = some (.code (Code.skip.seq rest) :: .inScope c :: k) := by simp [gotoIn, hf]
  have hgm : gotoIn m (.inScope c :: k) = some (.code out :: .inScope c :: k) := by simp [gotoIn, hm]
  have leave : ∀ a w, B a w → ∃ e a' w', Q e a' w' ∧ Arrives P (lone (b.at a (.code out :: .inScope c :: k)) cs w) b k cs e a' w' := by
    intro a w hB
    obtain ⟨e, a₁, w₁, hq, harr⟩ := bad a w hB b (.inScope c :: k) cs
    cases e with
    | normal => exact ⟨.normal, a₁, w₁, hq, Steps.trans harr (.one step_inScope)⟩
    | exit id => exact ⟨.exit id, a₁, w₁, hq, fun k' hk => harr k' (by simp [exitTo, hk])⟩
    | goto l' => exact hq.elim
    | ret => exact ⟨_, a₁, w₁, hq, harr⟩
    | panic ch => exact ⟨_, a₁, w₁, hq, harr⟩
    | outgrown => exact ⟨_, a₁, w₁, hq, harr⟩
  have again : ∀ n a w, μ a w = n → J a w → ∃ e a' w', Q e a' w' ∧ Arrives P (lone (b.at a (.code (Code.skip.seq rest) :: .inScope c :: k)) cs w) b k cs e a' w' := by
    intro n
    induction n using Nat.strongRecOn with
    | _ n ih =>
      intro a w hn hJ
      obtain ⟨e, a₁, w₁, hq, harr⟩ := wp_seq (wp_skip (pass a w hJ)) b (.inScope c :: k) cs
      cases e with
      | normal => exact ⟨.normal, a₁, w₁, hq, Steps.trans harr (.one step_inScope)⟩
      | exit id => exact ⟨.exit id, a₁, w₁, hq, fun k' hk => harr k' (by simp [exitTo, hk])⟩
      | goto l' =>
        rcases hq with ⟨rfl, hJ', hlt⟩ | ⟨rfl, hB⟩
        · obtain ⟨e₂, a₂, w₂, hq₂, harr₂⟩ := ih _ (by omega) a₁ w₁ rfl hJ'
          exact ⟨e₂, a₂, w₂, hq₂, .of_steps (harr _ hg) harr₂⟩
        · obtain ⟨e₂, a₂, w₂, hq₂, harr₂⟩ := leave a₁ w₁ hB
          exact ⟨e₂, a₂, w₂, hq₂, .of_steps (harr _ hgm) harr₂⟩
      | ret => exact ⟨_, a₁, w₁, hq, harr⟩
      | panic ch => exact ⟨_, a₁, w₁, hq, harr⟩
      | outgrown => exact ⟨_, a₁, w₁, hq, harr⟩
  obtain ⟨e, a₁, w₁, hq, harr⟩ := first b (.inScope c :: k) cs
  cases e with
  | normal => exact ⟨.normal, a₁, w₁, hq, .head step_scope (Steps.trans harr (.one step_inScope))⟩
  | exit id => exact ⟨.exit id, a₁, w₁, hq, fun k' hk => .head step_scope (harr k' (by simp [exitTo, hk]))⟩
  | goto l' =>
    rcases hq with ⟨rfl, hJ'⟩ | ⟨rfl, hB⟩
    · obtain ⟨e₂, a₂, w₂, hq₂, harr₂⟩ := again _ a₁ w₁ rfl hJ'
      exact ⟨e₂, a₂, w₂, hq₂, .of_steps (.head step_scope (harr _ hg)) harr₂⟩
    · obtain ⟨e₂, a₂, w₂, hq₂, harr₂⟩ := leave a₁ w₁ hB
      exact ⟨e₂, a₂, w₂, hq₂, .of_steps (.head step_scope (harr _ hgm)) harr₂⟩
  | ret => exact ⟨_, a₁, w₁, hq, .of_steps (.one step_scope) harr⟩
  | panic ch => exact ⟨_, a₁, w₁, hq, .of_steps (.one step_scope) harr⟩
  | outgrown => exact ⟨_, a₁, w₁, hq, .of_steps (.one step_scope) harr⟩
/-- an archive's files, one behind the other -/
def getLoop : Nat → List Int → List S58 → List ByteArray → Int → Option (List S58 × Int)
  | 0, _, _, _, _ => none
  | k + 1, b, l, ks, all =>
    if b.length < 1024 ∨ ¬ b.length % 512 = 0 then some ([], 2) else
    if b.length = 1024 then (header_Blank.f b).bind fun z => if z = false ∨ 4194304 < all ∨ 400 < l.length ∨ ks.length < l.length then some ([], 2) else some (l, 0) else
    (header_Get.f 1000 (b.take 512)).bind fun t => (header_Round.f t.2.1).bind fun wh =>
      if ¬ t.2.2 = 0 ∨ ((b.drop 512).length : Int) < wh then some ([], 2) else
      if 0 ≤ t.2.1 ∧ t.2.1 ≤ wh ∧ l.length ≤ 1000000 ∧ b.length ≤ 100000000 then
        (header_Blank.f (((b.drop 512).take wh.toNat).drop t.2.1.toNat)).bind fun z => if z = false then some ([], 2) else
          getLoop k ((b.drop 512).drop wh.toNat) (l ++ [⟨t.1, (b.drop 512).take t.2.1.toNat⟩]) (addName ks t.1) (wrap64 (all + t.2.1))
      else none
def ustar_Get.f (l0 : List Int) : Option (List S58 × Int) := getLoop (l0.length + 1) l0 [] [] 0
theorem take_b (A : Option Addr) (c : Nat) (xs ys : List Int) (j : Int) (h0 : 0 ≤ j) (hm : j ≤ xs.length) (hc : xs.length ≤ c) (hy : xs.take j.toNat = ys) :
    (∀ W : World, (Instr.slice 22 (.slice A xs.length c) none (some (.int .i64 j)) none).run Tryd.prog W = .ok (.slice A ys.length c) W) ∧ (∀ w, Kd.C (Kd.int .u8) w A xs.length xs → Kd.C (Kd.int .u8) w A ys.length ys) ∧ ys.length ≤ c := by
  subst hy
  obtain ⟨i0, hi, _, hsz, _⟩ := info_parts info5
  obtain ⟨h1, h2, h3⟩ := print_take_of (P := Tryd.prog) (Value.int .u8) 0 22 5 .i64 Tryd.underlying22 hi hsz A c xs j h0 hm hc
  exact ⟨h1, fun w h => Kd.C_of_reads (h1 := fun _ => rfl) (h2 _ (Kd.reads_of_C h)), h3⟩
theorem drop_b (A : Option Addr) (c : Nat) (xs ys : List Int) (j : Int) (h0 : 0 ≤ j) (hm : j ≤ xs.length) (hc : xs.length ≤ c) (hy : xs.drop j.toNat = ys) :
    ∃ A' c', (∀ W : World, (Instr.slice 22 (.slice A xs.length c) (some (.int .i64 j)) none none).run Tryd.prog W = .ok (.slice A' ys.length c') W) ∧ (∀ w, Kd.C (Kd.int .u8) w A xs.length xs → Kd.C (Kd.int .u8) w A' ys.length ys) ∧ ys.length ≤ c' := by
  subst hy
  obtain ⟨i0, hi, _, hsz, _⟩ := info_parts info5
  obtain ⟨A', h1, h2, h3⟩ := print_drop_of (P := Tryd.prog) (Value.int .u8) 0 22 5 .i64 Tryd.underlying22 hi hsz A c xs j h0 hm hc
  exact ⟨A', _, h1, fun w h => Kd.C_of_reads (h1 := fun _ => rfl) (h2 _ (Kd.reads_of_C h)), h3⟩
theorem mid_b (A : Option Addr) (c : Nat) (xs ys : List Int) (i j : Int) (h0 : 0 ≤ i) (hij : i ≤ j) (hm : j ≤ xs.length) (hc : xs.length ≤ c) (hy : (xs.take j.toNat).drop i.toNat = ys) :
    ∃ A' c', (∀ W : World, (Instr.slice 22 (.slice A xs.length c) (some (.int .i64 i)) (some (.int .i64 j)) none).run Tryd.prog W = .ok (.slice A' ys.length c') W) ∧ (∀ w, Kd.C (Kd.int .u8) w A xs.length xs → Kd.C (Kd.int .u8) w A' ys.length ys) ∧ ys.length ≤ c' := by
  subst hy
  obtain ⟨i0, hi, _, hsz, _⟩ := info_parts info5
  obtain ⟨A', h1, h2, h3⟩ := print_mid_of (P := Tryd.prog) (Value.int .u8) 0 22 5 .i64 .i64 Tryd.underlying22 hi hsz A c xs i j h0 hij hm hc
  exact ⟨A', _, h1, fun w h => Kd.C_of_reads (h1 := fun _ => rfl) (h2 _ (Kd.reads_of_C h)), h3⟩
theorem two_at {w : World} {g t : Nat} {a b : Value} (h : w.heap[g]? = some (.cells #[a, b] t (0, 0))) : w.cell? ⟨g, 0, none⟩ = some a ∧ w.cell? ⟨g, 1, none⟩ = some b ∧ w.frozen? ⟨g, 0, none⟩ = false ∧ w.frozen? ⟨g, 1, none⟩ = false := by
  refine ⟨?_, ?_, blk_frozen h _, blk_frozen h _⟩ <;> (unfold World.cell?; rw [h]; rfl)
theorem two_set0 {w : World} {g t : Nat} {a b : Value} (h : w.heap[g]? = some (.cells #[a, b] t (0, 0))) (u : Value) : (w.setCell ⟨g, 0, none⟩ u).heap[g]? = some (.cells #[u, b] t (0, 0)) := by
  have hlt : g < w.heap.size := (Array.getElem?_eq_some_iff.1 h).1
  have hv : w.heap[g] = .cells #[a, b] t (0, 0) := (Array.getElem?_eq_some_iff.1 h).2
  unfold World.setCell
  rw [Array.getElem?_eq_getElem (by simpa using hlt), Array.getElem_modify]
  simp [hv]
theorem two_set1 {w : World} {g t : Nat} {a b : Value} (h : w.heap[g]? = some (.cells #[a, b] t (0, 0))) (u : Value) : (w.setCell ⟨g, 1, none⟩ u).heap[g]? = some (.cells #[a, u] t (0, 0)) := by
  have hlt : g < w.heap.size := (Array.getElem?_eq_some_iff.1 h).1
  have hv : w.heap[g] = .cells #[a, b] t (0, 0) := (Array.getElem?_eq_some_iff.1 h).2
  unfold World.setCell
  rw [Array.getElem?_eq_getElem (by simpa using hlt), Array.getElem_modify]
  simp [hv]
def len0 (a : Act) : Nat := match a.tmps.getD 0 undef with | .slice _ n _ => n | _ => 0
/-- the frame at the label -/
def GA (A : Option Addr) (c fb mb : Nat) (bs : List Int) (all : Int) (v4 : Value) (u : Nat → Value) : Act := { tmps := #[.slice A bs.length c, undef, .slice none 0 0, .int .i64 0, v4, .pointer (some ⟨fb, 0, none⟩), u 6, u 7, .int .i64 all, u 9, .map (some mb), u 11, u 12, u 13, u 14, u 15, u 16, u 17, u 18, u 19, u 20, u 21, u 22, u 23, u 24, u 25, u 26, u 27, u 28, u 29, u 30, u 31, u 32, u 33, u 34, u 35, u 36, u 37, u 38, u 39, u 40, u 41, u 42, u 43, u 44, u 45, u 46, u 47, u 48, u 49, u 50, u 51, u 52, u 53, u 54, u 55, u 56, u 57, u 58, u 59, u 60, u 61, u 62, u 63, u 64, u 65, u 66, u 67, u 68, u 69, u 70, u 71, u 72, u 73, u 74, u 75, u 76, u 77, u 78, u 79, u 80, u 81, u 82, u 83, u 84, u 85, u 86, u 87, u 88, u 89, u 90, u 91], defers := [] }
def GZ (u : Nat → Value) : Act := { tmps := #[u 0, u 1, u 2, u 3, u 4, u 5, u 6, u 7, u 8, u 9, u 10, u 11, u 12, u 13, u 14, u 15, u 16, u 17, u 18, u 19, u 20, u 21, u 22, u 23, u 24, u 25, u 26, u 27, u 28, u 29, u 30, u 31, u 32, u 33, u 34, u 35, u 36, u 37, u 38, u 39, u 40, u 41, u 42, u 43, u 44, u 45, u 46, u 47, u 48, u 49, u 50, u 51, u 52, u 53, u 54, u 55, u 56, u 57, u 58, u 59, u 60, u 61, u 62, u 63, u 64, u 65, u 66, u 67, u 68, u 69, u 70, u 71, u 72, u 73, u 74, u 75, u 76, u 77, u 78, u 79, u 80, u 81, u 82, u 83, u 84, u 85, u 86, u 87, u 88, u 89, u 90, u 91], defers := [] }
/-- what stands at the label -/
def GJ (r1 : List S58) (r2 : Int) (w : World) (fb mb : Nat) (a : Act) (W : World) : Prop :=
  ∃ (A : Option Addr) (c : Nat) (bs : List Int) (l : List S58) (ks : List ByteArray) (all : Int) (kf : Nat) (v4 x y : Value) (u : Nat → Value),
    a = GA A c fb mb bs all v4 u ∧ Aside0 (getLoop kf bs l ks all = some (r1, r2)) ∧ Aside0 (Kd.C (Kd.int .u8) w A bs.length bs) ∧ Aside0 (bs.length ≤ c) ∧ Aside0 (Kd.S k58 58 W w.heap.size (fun k => k ≠ fb) v4 l) ∧ Aside0 (Seen W mb ks) ∧ Aside0 (Below w.heap.size w W) ∧ Aside0 (W.heap[fb]? = some (.cells #[x, y] 58 (0, 0)))
def GB (r1 : List S58) (r2 : Int) (w : World) (a : Act) (W : World) : Prop := (r1 = [] ∧ r2 = 2) ∧ Below w.heap.size w W ∧ ∃ u : Nat → Value, a = GZ u
theorem GJ.mk {r1 : List S58} {r2 : Int} {w : World} {fb mb : Nat} {a : Act} {W : World} (A : Option Addr) (c : Nat) (bs : List Int) (l : List S58) (ks : List ByteArray) (all : Int) (kf : Nat) (v4 x y : Value) (ha : a = GA A c fb mb bs all v4 (fun i => a.tmps.getD i undef))
    (h1 : getLoop kf bs l ks all = some (r1, r2)) (h2 : Kd.C (Kd.int .u8) w A bs.length bs) (h3 : bs.length ≤ c) (h4 : Kd.S k58 58 W w.heap.size (fun k => k ≠ fb) v4 l) (h5 : Seen W mb ks) (h6 : Below w.heap.size w W) (h7 : W.heap[fb]? = some (.cells #[x, y] 58 (0, 0))) : GJ r1 r2 w fb mb a W :=
  ⟨A, c, bs, l, ks, all, kf, v4, x, y, _, ha, ⟨h1⟩, ⟨h2⟩, ⟨h3⟩, ⟨h4⟩, ⟨h5⟩, ⟨h6⟩, ⟨h7⟩⟩
theorem seen_setBlk_S {w : World} {b base : Nat} {ks : List ByteArray} {v : Value} {xs : List S58} {o : Obj} {ok : Nat → Prop} (hs : Seen w b ks) (h : Kd.S k58 58 w base ok v xs) : Kd.S k58 58 (setBlk w b o) base ok v xs := by
  refine Kd.S_mono (Kd.S_move (Kd.S_bound h) (fun k hk => setBlk_other ?_)) (fun _ hk => hk.1)
  rintro rfl
  obtain ⟨q, _, cells, hc⟩ := hk.2.2.2
  obtain ⟨es, clock, h1, _⟩ := hs
  rw [h1] at hc
  cases hc
theorem GB.mk {w : World} {a : Act} {W : World} (ha : a = GZ (fun i => a.tmps.getD i undef)) (h : Below w.heap.size w W) : GB [] 2 w a W := ⟨⟨rfl, rfl⟩, h, _, ha⟩
theorem seen_ne {w : World} {b base : Nat} {ks : List ByteArray} {v : Value} {xs : List S58} {ok : Nat → Prop} (hs : Seen w b ks) (h : Kd.S k58 58 w base ok v xs) : some b ≠ v.ownBlock := by
  intro e
  obtain ⟨cells, hc⟩ := Kd.S_typed h _ e.symm
  obtain ⟨es, clock, h1, _⟩ := hs
  rw [h1] at hc
  cases hc
/-- a file's bytes, cloned behind the files that there are -/
theorem data_row {w3 w4 : World} {base fb : Nat} {v v1 : Value} {l : List S58} {ys : List Int} (h1 : Rb w4 w3.heap.size v1 ys) (hb : Below w3.heap.size w3 w4) (hfb : fb < w3.heap.size) (h : Kd.S k58 58 w3 base (fun k => k ≠ fb) v l) :
    ∃ N, (N ≤ w4.heap.size ∧ fb < N ∧ Kd.R (Kd.int .u8) 5 w4 N (fun k => N ≤ k) v1 ys) ∧ Kd.S k58 58 w4 base (fun k => k ≠ fb ∧ ¬ N ≤ k) v l :=
  ⟨w3.heap.size, ⟨hb.size, hfb, Kd.R_mono (ok' := fun k => w3.heap.size ≤ k) (Kd.R_bound h1) (fun _ hk => hk.2.1)⟩, Kd.S_below (Kd.S_mono (ok' := fun k => k ≠ fb ∧ ¬ w3.heap.size ≤ k) (Kd.S_bound h) (fun k hk => ⟨hk.1, by have := hk.2.2.1; omega⟩)) hb⟩
set_option maxRecDepth 100000 in
set_option maxHeartbeats 8000000 in
theorem ustar_Get.calls (A0 : Option Addr) (c0 : Nat) (l0 : List Int) (r1 : List S58) (r2 : Int) (w : World) (hr0 : Kd.C (Kd.int .u8) w A0 l0.length l0) (hc0 : l0.length ≤ c0) (h : ustar_Get.f l0 = some (r1, r2)) :
    Calls Tryd.prog 26 #[.slice A0 l0.length c0] w fun e w' => ∃ v0_ : Value, e = .returned (.tuple #[v0_, .int .i64 r2]) ∧ Kd.S k58 58 w' w.heap.size (fun _ => True) v0_ r1 ∧ Below w.heap.size w w' := by
  have HC := Aside0.mk hr0
  have HL := Aside0.mk hc0
  have H := Aside0.mk h
  clear hr0 hc0 h
  have HB := Aside0.mk (Below.refl w.heap.size w)
  have hmk := fun W : World => run_made W
  go_enter Tryd.func26, Tryd.ntmps26
  go_wp2
  refine scope_two 1 0 (GJ r1 r2 w w.heap.size (w.heap.size + 1)) (GB r1 r2 w) (fun a _ => len0 a) (by rfl) (by rfl) ?pass ?bad ?first
  case first =>
    intro hpass
    go_wp2
    go_step3
    rename_i K hK
    refine hK _ _ (hpass _ _ ⟨A0, c0, l0, [], [], 0, l0.length + 1, .slice none 0 0, .string ⟨#[]⟩, .slice none 0 0, fun i => if i < 10 then .int .i64 0 else if i = 11 then .map (some (w.heap.size + 1)) else undef, rfl, H, HC, HL, ⟨Kd.S_nil _ _ _ _ _⟩, ?_, ?_, ?_⟩)
    · have := Seen.made (w.alloc (.cells #[.string ⟨#[]⟩, .slice none 0 0] 58))
      simp only [World.size_alloc] at this
      exact ⟨this⟩
    · exact ⟨((Below.refl w.heap.size w).alloc (Nat.le_refl _) _).alloc (by simp) _⟩
    · exact ⟨(Below.heap_alloc _ _ _ (by simp)).trans (World.alloc_heap_new w _)⟩
  case bad =>
    rintro a W ⟨⟨rfl, rfl⟩, hb, u, rfl⟩
    have HBW := Aside0.mk hb
    clear hb
    unfold GZ
    go_wp2
    rw [Exit.noGoto_ret]
    go_ret2
    exact ⟨_, rfl, Kd.S_nil _ _ _ _ _, HBW.out⟩
  case pass =>
    rintro a W ⟨A, c, bs, l, ks, all, kf, v4, x, y, u, rfl, HK, HC, HL, HO, HS, HB, HF⟩
    have hk0 := HK.out
    obtain ⟨kf, rfl⟩ : ∃ k', kf = k' + 1 := by
      cases kf with
      | zero => cases hk0
      | succ k => exact ⟨k, rfl⟩
    rw [getLoop] at hk0
    clear HK H
    unfold GA
    by_cases c1 : bs.length < 1024 ∨ ¬ bs.length % 512 = 0
    · rw [if_pos c1] at hk0
      obtain hk0 := Option.some.inj hk0
      injection hk0 with e1 e2
      subst e1 e2
      by_cases c2 : bs.length < 1024
      · have c3 : (bs.length : Int) < 1024 := by omega
        go_wp2
        go_step3
        exact .inr ⟨rfl, GB.mk (by rfl) HB.out⟩
      · have c3 : ¬ (bs.length : Int) < 1024 := by omega
        have c4 : ¬ (bs.length : Int) % 512 = 0 := by omega
        go_wp2
        go_step3
        exact .inr ⟨rfl, GB.mk (by rfl) HB.out⟩
    rw [if_neg c1] at hk0
    have c3 : ¬ (bs.length : Int) < 1024 := by omega
    have c4 : (bs.length : Int) % 512 = 0 := by omega
    clear c1
    obtain ⟨Al, cl, el⟩ := Kd.S_slice HO.out
    subst el
    by_cases c5 : bs.length = 1024
    · rw [if_pos c5] at hk0
      obtain ⟨z, hz, hk1⟩ := Option.bind_eq_some_iff.1 hk0
      have c6 : (bs.length : Int) = 1024 := by omega
      have HZ := Aside0.mk hz
      clear hk0 hz c5
      by_cases c7 : z = false
      · rw [if_pos (.inl c7)] at hk1
        obtain hk1 := Option.some.inj hk1
        injection hk1 with e1 e2
        subst e1 e2 c7
        go_wp2_with (first | (go_at_call 24; refine (header_Blank.calls _ c bs _ _ (Kd.C_below HC.out HB.out) HL.out HZ.out).mono ?_; rintro e w1 ⟨rfl, hd⟩; replace HB := Aside0.mk (below_step HB.out hd); replace HO := Aside0.mk (Kd.S_below HO.out hd); have hsl := fun ty => (HS.out.keep (hd.block _ HS.out.lt)).size ty; clear hd))
        go_step3
        exact .inr ⟨rfl, GB.mk (by rfl) HB.out⟩
      have c7' : z = true := by simpa using c7
      subst c7'
      by_cases c8 : 4194304 < all
      · rw [if_pos (.inr (.inl c8))] at hk1
        obtain hk1 := Option.some.inj hk1
        injection hk1 with e1 e2
        subst e1 e2
        go_wp2_with (first | (go_at_call 24; refine (header_Blank.calls _ c bs _ _ (Kd.C_below HC.out HB.out) HL.out HZ.out).mono ?_; rintro e w1 ⟨rfl, hd⟩; replace HB := Aside0.mk (below_step HB.out hd); replace HO := Aside0.mk (Kd.S_below HO.out hd); have hsl := fun ty => (HS.out.keep (hd.block _ HS.out.lt)).size ty; clear hd))
        go_step3
        exact .inr ⟨rfl, GB.mk (by rfl) HB.out⟩
      by_cases c9 : 400 < l.length
      · rw [if_pos (.inr (.inr (.inl c9)))] at hk1
        obtain hk1 := Option.some.inj hk1
        injection hk1 with e1 e2
        subst e1 e2
        have c9' : 400 < (l.length : Int) := by omega
        go_wp2_with (first | (go_at_call 24; refine (header_Blank.calls _ c bs _ _ (Kd.C_below HC.out HB.out) HL.out HZ.out).mono ?_; rintro e w1 ⟨rfl, hd⟩; replace HB := Aside0.mk (below_step HB.out hd); replace HO := Aside0.mk (Kd.S_below HO.out hd); have hsl := fun ty => (HS.out.keep (hd.block _ HS.out.lt)).size ty; clear hd))
        go_step3
        exact .inr ⟨rfl, GB.mk (by rfl) HB.out⟩
      have c9' : ¬ 400 < (l.length : Int) := by omega
      by_cases c10 : ks.length < l.length
      · rw [if_pos (.inr (.inr (.inr c10)))] at hk1
        obtain hk1 := Option.some.inj hk1
        injection hk1 with e1 e2
        subst e1 e2
        have c10' : (ks.length : Int) < (l.length : Int) := by omega
        go_wp2_with (first | (go_at_call 24; refine (header_Blank.calls _ c bs _ _ (Kd.C_below HC.out HB.out) HL.out HZ.out).mono ?_; rintro e w1 ⟨rfl, hd⟩; replace HB := Aside0.mk (below_step HB.out hd); replace HO := Aside0.mk (Kd.S_below HO.out hd); have hsl := fun ty => (HS.out.keep (hd.block _ HS.out.lt)).size ty; clear hd))
        go_step3
        exact .inr ⟨rfl, GB.mk (by rfl) HB.out⟩
      have c10' : ¬ (ks.length : Int) < (l.length : Int) := by omega
      rw [if_neg (by rintro (h | h | h | h) <;> first | exact c7 h | exact c8 h | exact c9 h | exact c10 h)] at hk1
      obtain hk1 := Option.some.inj hk1
      injection hk1 with e1 e2
      subst e1 e2
      go_wp2_with (first | (go_at_call 24; refine (header_Blank.calls _ c bs _ _ (Kd.C_below HC.out HB.out) HL.out HZ.out).mono ?_; rintro e w1 ⟨rfl, hd⟩; replace HB := Aside0.mk (below_step HB.out hd); replace HO := Aside0.mk (Kd.S_below HO.out hd); have hsl := fun ty => (HS.out.keep (hd.block _ HS.out.lt)).size ty; clear hd))
      rw [Exit2_ret]
      go_ret2
      exact ⟨_, rfl, Kd.S_mono HO.out (fun _ _ => trivial), HB.out⟩
    rw [if_neg c5] at hk0
    have c6 : ¬ (bs.length : Int) = 1024 := by omega
    obtain ⟨⟨s, nn, he⟩, hg, hk1⟩ := Option.bind_eq_some_iff.1 hk0
    obtain ⟨wh, hr, hk2⟩ := Option.bind_eq_some_iff.1 hk1
    simp only at hk2 hr
    have HG := Aside0.mk hg
    have HR := Aside0.mk hr
    clear hk0 hk1 hg hr
    generalize hhd : bs.take 512 = hd at *
    generalize hb1 : bs.drop 512 = b1 at *
    obtain ⟨t1, t2, t3⟩ := take_b A c bs hd 512 (by decide) (by omega) HL.out hhd
    obtain ⟨A1, ca, d1, d2, d3⟩ := drop_b A c bs b1 512 (by decide) (by omega) HL.out hb1
    have HH := Aside0.mk (And.intro (t2 w HC.out) t3)
    have HD := Aside0.mk (And.intro (d2 w HC.out) d3)
    have hfb : w.heap.size < w.heap.size + 1 := Nat.lt_succ_self _
    have hbl : b1.length < bs.length := by rw [← hb1, List.length_drop]; omega
    have HBL := Aside0.mk hbl
    clear t2 t3 d2 d3 hhd hb1 hbl
    obtain ⟨f0, f1, f2, f3⟩ := two_at HF.out
    by_cases c7 : ¬ he = 0 ∨ (b1.length : Int) < wh
    · rw [if_pos c7] at hk2
      obtain hk2 := Option.some.inj hk2
      injection hk2 with e1 e2
      subst e1 e2
      by_cases c8 : he = 0
      · subst c8
        have c9 : (b1.length : Int) < wh := by rcases c7 with h | h; exact absurd rfl h; exact h
        clear c7
        go_wp2_with (first
          | (go_at_call 19; refine (header_Get.calls 1000 _ c hd _ _ _ _ (Kd.C_below HH.out.1 HB.out) HH.out.2 HG.out).mono ?_; rintro e w1 ⟨rfl, hb⟩; replace HF := Aside0.mk ((hb.block _ (Array.getElem?_eq_some_iff.1 HF.out).1).trans HF.out); obtain ⟨f0, f1, f2, f3⟩ := two_at HF.out; replace HB := Aside0.mk (below_step HB.out hb); clear hb)
          | (go_at_call 22; refine (header_Round.calls _ wh _ HR.out).mono ?_; rintro e w2 ⟨rfl, hb⟩; replace HB := Aside0.mk (below_step (HB.out.setCell (p := ⟨w.heap.size, 0, none⟩) (Nat.le_refl _) (.string s)) hb); clear hb))
        go_step3
        exact .inr ⟨rfl, GB.mk (by rfl) HB.out⟩
      · have c8' : (he == 0) = false := by simpa using c8
        clear c7
        go_wp2_with (first
          | (go_at_call 19; refine (header_Get.calls 1000 _ c hd _ _ _ _ (Kd.C_below HH.out.1 HB.out) HH.out.2 HG.out).mono ?_; rintro e w1 ⟨rfl, hb⟩; replace HF := Aside0.mk ((hb.block _ (Array.getElem?_eq_some_iff.1 HF.out).1).trans HF.out); obtain ⟨f0, f1, f2, f3⟩ := two_at HF.out; replace HB := Aside0.mk (below_step HB.out hb); clear hb)
          | (go_at_call 22; refine (header_Round.calls _ wh _ HR.out).mono ?_; rintro e w2 ⟨rfl, hb⟩; replace HB := Aside0.mk (below_step (HB.out.setCell (p := ⟨w.heap.size, 0, none⟩) (Nat.le_refl _) (.string s)) hb); clear hb))
        go_step3
        exact .inr ⟨rfl, GB.mk (by rfl) HB.out⟩
    rw [if_neg c7] at hk2
    obtain rfl : he = 0 := by
      rcases Classical.em (he = 0) with h | h
      · exact h
      · exact absurd (.inl h) c7
    have c9 : ¬ (b1.length : Int) < wh := fun h => c7 (.inr h)
    clear c7
    split at hk2
    case isFalse => cases hk2
    rename_i c10
    obtain ⟨n0, nw, hll, hbb⟩ := c10
    obtain ⟨z, hz, hk3⟩ := Option.bind_eq_some_iff.1 hk2
    have HZ := Aside0.mk hz
    have HW := Aside0.mk hll
    have HX := Aside0.mk hbb
    clear hk2 hz hll hbb
    generalize hmd : (b1.take wh.toNat).drop nn.toNat = md at *
    generalize htn : b1.take nn.toNat = dn at *
    generalize hb2 : b1.drop wh.toNat = b2 at *
    obtain ⟨Am, cm, m1, m2, m3⟩ := mid_b A1 ca b1 md nn wh n0 nw (by omega) HD.out.2 hmd
    obtain ⟨n1, n2, n3⟩ := take_b A1 ca b1 dn nn n0 (by omega) HD.out.2 htn
    obtain ⟨A2, cb, e1, e2, e3⟩ := drop_b A1 ca b1 b2 wh (by omega) (by omega) HD.out.2 hb2
    have HM := Aside0.mk (And.intro (m2 w HD.out.1) m3)
    have HN := Aside0.mk (And.intro (n2 w HD.out.1) n3)
    have HE := Aside0.mk (And.intro (e2 w HD.out.1) e3)
    have hdl : dn.length ≤ b1.length := by rw [← htn, List.length_take]; omega
    have h2l : b2.length ≤ b1.length := by rw [← hb2, List.length_drop]; omega
    have HDL := Aside0.mk (And.intro hdl h2l)
    clear m2 m3 n2 n3 e2 e3 hmd htn hb2 hdl h2l
    by_cases hzz : z = false
    · subst hzz
      rw [if_pos rfl] at hk3
      obtain hk3 := Option.some.inj hk3
      injection hk3 with e1 e2
      subst e1 e2
      go_wp2_with (first
        | (go_at_call 19; refine (header_Get.calls 1000 _ c hd _ _ _ _ (Kd.C_below HH.out.1 HB.out) HH.out.2 HG.out).mono ?_; rintro e w1 ⟨rfl, hb⟩; replace HF := Aside0.mk ((hb.block _ (Array.getElem?_eq_some_iff.1 HF.out).1).trans HF.out); obtain ⟨f0, f1, f2, f3⟩ := two_at HF.out; replace HS := Aside0.mk (HS.out.keep (hb.block _ HS.out.lt)); replace HO := Aside0.mk (Kd.S_below HO.out hb); replace HB := Aside0.mk (below_step HB.out hb); clear hb)
        | (go_at_call 22; replace HF := Aside0.mk (two_set0 HF.out (.string s)); replace HS := Aside0.mk (HS.out.keep (Below.heap_setCell _ ⟨w.heap.size, 0, none⟩ (.string s) _ (by simp))); replace HO := Aside0.mk (Kd.S_far HO.out (p := ⟨w.heap.size, 0, none⟩) (fun _ hk => hk) (.string s)); replace HB := Aside0.mk (HB.out.setCell (p := ⟨w.heap.size, 0, none⟩) (Nat.le_refl _) (.string s)); refine (header_Round.calls _ wh _ HR.out).mono ?_; rintro e w2 ⟨rfl, hb⟩; replace HF := Aside0.mk ((hb.block _ (Array.getElem?_eq_some_iff.1 HF.out).1).trans HF.out); obtain ⟨f0, f1, f2, f3⟩ := two_at HF.out; replace HS := Aside0.mk (HS.out.keep (hb.block _ HS.out.lt)); replace HO := Aside0.mk (Kd.S_below HO.out hb); replace HB := Aside0.mk (below_step HB.out hb); clear hb)
        | (go_at_call 24; refine (header_Blank.calls _ cm md _ _ (Kd.C_below HM.out.1 HB.out) HM.out.2 HZ.out).mono ?_; rintro e w3 ⟨rfl, hb⟩; replace HB := Aside0.mk (below_step HB.out hb); clear hb))
      go_step3
      exact .inr ⟨rfl, GB.mk (by rfl) HB.out⟩
    obtain rfl : z = true := by simpa using hzz
    rw [if_neg (by decide)] at hk3
    have HK := Aside0.mk hk3
    clear hk3 hzz
    go_wp2_with (first
        | (go_at_call 19; refine (header_Get.calls 1000 _ c hd _ _ _ _ (Kd.C_below HH.out.1 HB.out) HH.out.2 HG.out).mono ?_; rintro e w1 ⟨rfl, hb⟩; replace HF := Aside0.mk ((hb.block _ (Array.getElem?_eq_some_iff.1 HF.out).1).trans HF.out); obtain ⟨f0, f1, f2, f3⟩ := two_at HF.out; replace HS := Aside0.mk (HS.out.keep (hb.block _ HS.out.lt)); replace HO := Aside0.mk (Kd.S_below HO.out hb); replace HB := Aside0.mk (below_step HB.out hb); clear hb)
        | (go_at_call 22; replace HF := Aside0.mk (two_set0 HF.out (.string s)); replace HS := Aside0.mk (HS.out.keep (Below.heap_setCell _ ⟨w.heap.size, 0, none⟩ (.string s) _ (by simp))); replace HO := Aside0.mk (Kd.S_far HO.out (p := ⟨w.heap.size, 0, none⟩) (fun _ hk => hk) (.string s)); replace HB := Aside0.mk (HB.out.setCell (p := ⟨w.heap.size, 0, none⟩) (Nat.le_refl _) (.string s)); refine (header_Round.calls _ wh _ HR.out).mono ?_; rintro e w2 ⟨rfl, hb⟩; replace HF := Aside0.mk ((hb.block _ (Array.getElem?_eq_some_iff.1 HF.out).1).trans HF.out); obtain ⟨f0, f1, f2, f3⟩ := two_at HF.out; replace HS := Aside0.mk (HS.out.keep (hb.block _ HS.out.lt)); replace HO := Aside0.mk (Kd.S_below HO.out hb); replace HB := Aside0.mk (below_step HB.out hb); clear hb)
        | (go_at_call 24; refine (header_Blank.calls _ cm md _ _ (Kd.C_below HM.out.1 HB.out) HM.out.2 HZ.out).mono ?_; rintro e w3 ⟨rfl, hb⟩; replace HF := Aside0.mk ((hb.block _ (Array.getElem?_eq_some_iff.1 HF.out).1).trans HF.out); obtain ⟨f0, f1, f2, f3⟩ := two_at HF.out; replace HS := Aside0.mk (HS.out.keep (hb.block _ HS.out.lt)); replace HO := Aside0.mk (Kd.S_below HO.out hb); replace HB := Aside0.mk (below_step HB.out hb); clear hb)
        | (go_at_call 49; refine (clone.calls A1 ca dn _ (Kd.C_below HN.out.1 HB.out) (by have := HX.out; have := HDL.out.1; have := HBL.out; omega)).mono ?_; rintro e w4 ⟨vd, rfl, ho, hb⟩; obtain ⟨Av, cv, ev⟩ := Kd.R_slice ho; subst ev; obtain ⟨N3, HV, HO3⟩ := data_row ho hb (Array.getElem?_eq_some_iff.1 HF.out).1 HO.out; replace HF := Aside0.mk ((hb.block _ (Array.getElem?_eq_some_iff.1 HF.out).1).trans HF.out); obtain ⟨f0, f1, f2, f3⟩ := two_at HF.out; replace HS := Aside0.mk (HS.out.keep (hb.block _ HS.out.lt)); replace HB := Aside0.mk (below_step HB.out hb); replace HS := Aside0.mk (HS.out.keep (Below.heap_setCell w4 ⟨w.heap.size, 1, none⟩ (.slice Av dn.length cv) _ (by simp))); replace HO := Aside0.mk (Kd.S_far HO3 (p := ⟨w.heap.size, 1, none⟩) (fun _ hk => hk.1) (.slice Av dn.length cv)); replace HB := Aside0.mk (HB.out.setCell (p := ⟨w.heap.size, 1, none⟩) (Nat.le_refl _) (.slice Av dn.length cv)); have HV5 := Aside0.mk (Kd.R_lower (Kd.R_far HV.2.2 (p := ⟨w.heap.size, 1, none⟩) (fun k hk => by have := HV.2.1; show k ≠ w.heap.size; omega) (.slice Av dn.length cv)) (Nat.le_of_lt HV.2.1)); have HNf := Aside0.mk (And.intro HV.2.1 (show N3 ≤ (w4.setCell ⟨w.heap.size, 1, none⟩ (.slice Av dn.length cv)).heap.size by have := HV.1; simpa [World.setCell] using this)); replace HF := Aside0.mk (two_set1 HF.out (.slice Av dn.length cv)); obtain ⟨h50, h51, h52, h53⟩ := two_at HF.out; clear hb ho HV HO3)
        | ((with_reducible refine gate_dst (N := 79) rfl ?_); clear h50 h51 h52 h53; generalize w4.setCell ⟨w.heap.size, 1, none⟩ (.slice Av dn.length cv) = w5 at HS HO HB HV5 HNf HF ⊢; refine Kd.event_run rfl (v := .slice (some ⟨w5.heap.size, 0, none⟩) 1 1) (w1 := w5.alloc (.cells #[.string s, .slice Av dn.length cv] 58)) (by go_simp) ?_)
        | ((with_reducible refine gate_dst (N := 80) rfl ?_); at_builtin; refine Kd.S_append k58 (w0 := w) w.heap.size rfl (.tmp 77) (.tmp 79) 45 58 (.agg #[(.string ⟨#[]⟩), (.slice none 0 0)]) 40 rfl Tryd.underlying45 info58 rfl (by decide) (by omega) (.slice Al l.length cl) l ⟨s, dn⟩ [.string s, .slice Av dn.length cv] (fun k => k ≠ w.heap.size) (fun k => N3 ≤ k) rfl rfl (k58_mkM _ _ _ ⟨s, dn⟩ HV5.out) (fun k hk => ⟨by have := HNf.out.1; omega, fun e => ((Kd.S_R HO.out).1 _ e.symm).2 hk⟩) (fun k hk => by have := HNf.out; omega) HO.out HB.out HB.out.size (by have := HW.out; omega) ?_; intro v6 w6 ho hb hg hat; replace HF := Aside0.mk ((hg.block _ (Array.getElem?_eq_some_iff.1 HF.out).1 (fun e => ((Kd.S_R HO.out).1 _ e.symm).1 rfl)).trans HF.out); replace HS := Aside0.mk (HS.out.keep (hg.block _ HS.out.lt (seen_ne HS.out HO.out))); replace HO := Aside0.mk ho; replace HB := Aside0.mk hb; obtain ⟨Al6, cl6, e6⟩ := Kd.S_slice ho; subst e6; obtain ⟨g0, g1, g2, g3⟩ := two_at HF.out; obtain ⟨n7, hlook⟩ := HS.out.look s; obtain ⟨oo, hput, hs6⟩ := HS.out.put s (wrap64 (n7 + 1)); have HS6 := Aside0.mk hs6; clear ho hb hg hat hs6))
    go_step3
    refine .inl ⟨rfl, GJ.mk A2 cb b2 (l ++ [⟨s, dn⟩]) (addName ks s) (wrap64 (all + nn)) kf (.slice Al6 (l.length + 1) cl6) (.string s) (.slice Av dn.length cv) (by rfl) HK.out HE.out.1 HE.out.2 ?_ HS6.out ?_ ?_, ?_⟩
    · have h := seen_setBlk_S (o := oo) HS.out HO.out
      rw [List.length_append] at h
      exact h
    · exact below_setBlk oo HB.out (Nat.le_succ _)
    · exact (setBlk_other (by omega)).trans HF.out
    · show b2.length < bs.length
      have h1 := HDL.out.2
      have h2 := HBL.out
      omega
end Go.Proofs.YtkcmkgkkddgicaaDoor.R
