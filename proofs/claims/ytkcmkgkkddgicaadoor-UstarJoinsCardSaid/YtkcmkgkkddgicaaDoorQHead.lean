/- Texts of this claim joined in one. -/
import Derived.Test.YtkcmkgkkddgicaaDoorQSplit
import Derived.Test.YtkcmkgkkddgicaaDoorQRefA
import Derived.Test.YtkcmkgkkddgicaaDoorQOct
import Derived.Test.YtkcmkgkkddgicaaDoorQShelf
import Derived.Lib.BufferWrite
import Derived.Laws.EntriesVeiled
/- header's rows that fields are laid into: octal.Text, and the closures of header.laid. -/
set_option linter.unusedVariables false
set_option linter.unusedSimpArgs false
namespace Go.Proofs.YtkcmkgkkddgicaaDoor.R
open Go.RowKit Go.Proofs.YtkcmkgkkddgicaaDoorW.PrintWords Go.Proofs.YtkcmkgkkddgicaaDoorW.PrintLast Go.Proofs.YtkcmkgkkddgicaaDoorW.PrintMore
section
variable {P : Program} {ops : Array Oper} {Q : Exit → Act → World → Prop}
/-- The same as a step of a region that draws. -/
theorem goesVs_ {oi : Oper} {N : Option Tmp} {a : Act} {w : World} {K : Act → World → Prop} {f : FuncId} {fn : Func} {x : Operand} {as' : Array Operand} {ts : Array TypeId} (hf : P.funcs[f]? = some fn) (hname : (fn.name == "runtime.NumGoroutine") = false) (hb : fn.body.isSome = true) (args cap : Array Value)
    (hw : Region.wanted oi (yielded ops a.tmps) = true) (hN : oi.dst = N) (hop : oi.op = .call { callee := .value x, args := as', argTypes := ts }) (hx : a.eval x = .func (.func f) #[] cap) (hargs : as'.map a.eval = args)
    (h : Calls P f (args ++ cap) w fun e w' => ∃ v, e = .returned v ∧ K (a.put N v) w') : if Region.wanted oi (yielded ops a.tmps) = true then Oper.wp P oi a w K Q else K (a.put N undef) w := by
  refine call_ f (args ++ cap) hw hN ?_ h
  have he := enters_ hf hname hb (args ++ cap) w
  unfold execOp
  simp [hop, resolve, Deferred.ofValue, invoke, hx, hargs, he]
end

/-- where a text has a zero byte -/
theorem lib_bytesOf (s : ByteArray) : Lib.bytesOf (bytesOf s) = s.data.toList := by
  unfold Lib.bytesOf bytesOf
  rw [List.map_map]
  conv => rhs; rw [← List.map_id s.data.toList]
  apply List.map_congr_left
  intro b _
  simp
theorem str_zero (s : ByteArray) : (0 ≤ Lib.indexByte s.data.toList 0) ↔ (0 : Int) ∈ bytesOf s := by
  rw [← lib_bytesOf]
  refine indexByte_zero (bytesOf s) (fun x hx => ?_)
  simp only [bytesOf, List.mem_map] at hx
  obtain ⟨b, _, rfl⟩ := hx
  have := b.toNat_lt
  omega

section
variable {P : Program} {ops : Array Oper} {rest : List Oper} {o : Oper} {a : Act} {Q : Exit → Act → World → Prop}
/-- copy(v, s), s a text that fits. -/
theorem R_copy_text {w0 W : World} (base : Nat) (hgd : o.guard = none) (s x : Operand) (t t' e : TypeId)
    (ho : o.op = .call { callee := .builtin .copy, args := #[s, x], argTypes := #[t, t'] }) (ht : P.underlying t = some (.slice e)) (hinfo : (P.info? e).map (·.size) = some 1)
    (v : Value) (xs : List Int) (y : ByteArray) (ok : Nat → Prop) (hs : a.eval s = v) (hx : a.eval x = .string y) (hle : y.size ≤ xs.length)
    (HO : (Kd.int .u8).R e W base ok v xs) (HB : Below base w0 W) (hbase : base ≤ W.heap.size)
    (h : ∀ w1, (Kd.int .u8).R e w1 base ok v (bytesOf y ++ xs.drop y.size) → Below base w0 w1 → W.grownBy w1 v.ownBlock → wpList P ops Q rest (a.put o.dst (.int .i64 (y.size : Int))) w1) :
    wpList P ops Q (o :: rest) a W := by
  have hown := Kd.own_of_R HO
  have fin : ∀ w1, (Builtin.copy_ #[t, t'] o.type #[v, .string y]).run P W = .ok (goInt (y.size : Int)) w1 → (Kd.int .u8).R e w1 base ok v (bytesOf y ++ xs.drop y.size) → W.grownBy w1 v.ownBlock → wpList P ops Q (o :: rest) a W := by
    intro w1 hr hrow hg
    refine wpList_plain hgd fun K hK => ?_
    unfold Oper.wp execOp
    simp only [ho, resolve, invoke, builtin, Sem.run_bind, Sem.run_pure, Result.andThen_ok, List.map_toArray, List.map_cons, List.map_nil, hs, hx, hr]
    exact hK _ _ (h w1 hrow (HB.grown hg hbase (own_base hown)) hg)
  rcases Nat.eq_zero_or_pos y.size with h0 | hp
  · obtain ⟨A', c', hv⟩ := own_slice hown
    have hb0 : bytesOf y = [] := List.eq_nil_of_length_eq_zero (by rw [bytesOf_length, h0])
    refine fin W ?_ (by rw [h0, hb0, List.drop_zero, List.nil_append]; exact HO) (World.grownBy.refl W _)
    rw [hv, h0]
    exact Lib.run_copy_empty_string W t t' o.type e A' xs.length c' y ht (by rw [hinfo]; rfl) h0
  · rcases hown.2 with ⟨_, hx0⟩ | ⟨g, cap, cur, hv, hb, hh, hnc, hcm, hcs, htake⟩
    · omega
    have hcs1 : cur.size = cap := by omega
    have hr := Lib.run_copy_row_string (P := P) W t t' o.type e g 0 xs.length cap y cur e ht hinfo hh hle (by omega)
    have hlen : (Lib.byteCells y.data.toList).length = y.size := by rw [Lib.byteCells_length, ← Lib.size_eq]
    have hbc : encs (fun n : Int => Value.int .u8 n) (bytesOf y) = Lib.byteCells y.data.toList := by
      simp [encs, bytesOf, Lib.byteCells, Function.comp_def]
    have hh' := setRow_heap W g cur (cur.toList.take 0 ++ Lib.byteCells y.data.toList ++ cur.toList.drop (0 + y.size)).toArray e (0, 0) hh
    refine fin (W.setRow g (cur.toList.take 0 ++ Lib.byteCells y.data.toList ++ cur.toList.drop (0 + y.size)).toArray) (by rw [hv, hr]) (Kd.R_of_own ?_ HO.1) ⟨rfl, rfl, rfl, by simp [World.setRow], fun k _ hk => setRow_other W g k _ (fun he => hk (by rw [hv, he]; simp [Value.ownBlock]))⟩
    have hln : (bytesOf y ++ xs.drop y.size).length = xs.length := by
      rw [List.length_append, List.length_drop, bytesOf_length]
      omega
    rw [hln]
    refine ⟨by rw [encs_length, hln, Nat.mul_one], .inr ⟨g, cap, _, hv, hb, hh', hnc, hcm, ?_, ?_⟩⟩
    · simp only [List.size_toArray, List.length_append, List.length_take, List.length_drop, Array.length_toList, hlen]
      omega
    · have htk : cur.toList.take xs.length = encs (fun n : Int => Value.int .u8 n) xs := by rw [← htake, Nat.mul_one]
      rw [Nat.mul_one, Nat.zero_add, List.take_zero, List.nil_append]
      show List.take xs.length (Lib.byteCells y.data.toList ++ List.drop y.size cur.toList) = encs (fun n : Int => Value.int .u8 n) (bytesOf y ++ xs.drop y.size)
      rw [encs_append, hbc, List.take_append, hlen, List.take_of_length_le (by rw [hlen]; exact hle)]
      congr 1
      have hd : encs (fun n : Int => Value.int .u8 n) (xs.drop y.size) = (encs (fun n : Int => Value.int .u8 n) xs).drop y.size := by simp [encs, List.map_drop]
      rw [hd, ← htk, List.drop_take]
end
set_option maxRecDepth 100000 in
set_option maxHeartbeats 2000000 in
theorem octal_Text.calls (s : ByteArray) (n : Int) (w : World) :
    Calls Tryd.prog 56 #[.string s, .int .i64 n] w fun e w' => ∃ v0_ : Value, e = .returned (.tuple #[v0_, .int .i64 (textR s n).2]) ∧ Kd.R (Kd.int .u8) 5 w' w.heap.size (fun _ => True) v0_ (textR s n).1 ∧ Below w.heap.size w w' := by
  have HB := Aside0.mk (Below.refl w.heap.size w)
  by_cases c1 : n < 1 ∨ 255 < n
  · have e : textR s n = ([], 1) := by unfold textR; rw [if_pos c1]
    rw [e]
    by_cases c2 : n < 1
    · go_enter Tryd.func56, Tryd.ntmps56
      go_wp2
      go_ret2
      exact ⟨_, rfl, Kd.R_nil _ _ _ _ _, Below.refl _ _⟩
    · have c3 : 255 < n := by omega
      go_enter Tryd.func56, Tryd.ntmps56
      go_wp2
      go_ret2
      exact ⟨_, rfl, Kd.R_nil _ _ _ _ _, Below.refl _ _⟩
  · have c2 : ¬ n < 1 := by omega
    have c3 : ¬ 255 < n := by omega
    have hx := fun w => Tryd.strings_IndexByte s 0 w
    by_cases c4 : (0 : Int) ∈ bytesOf s
    · have e : textR s n = ([], 2) := by unfold textR; rw [if_neg c1, if_pos c4]
      rw [e]
      have hi : 0 ≤ Lib.indexByte s.data.toList (0 : Int).toNat.toUInt8 := (str_zero s).2 c4
      clear e c4 c1
      generalize Lib.indexByte s.data.toList (0 : Int).toNat.toUInt8 = i at hi hx
      go_enter Tryd.func56, Tryd.ntmps56
      go_wp2_with (first | (go_at_call 74; refine (hx _).mono ?_; rintro e w' ⟨rfl, hw⟩; replace hw := hw.symm; subst hw))
      go_ret2
      exact ⟨_, rfl, Kd.R_nil _ _ _ _ _, Below.refl _ _⟩
    · have hi : ¬ 0 ≤ Lib.indexByte s.data.toList (0 : Int).toNat.toUInt8 := fun h => c4 ((str_zero s).1 h)
      by_cases c5 : n < (s.size : Int)
      · have e : textR s n = ([], 8) := by unfold textR; rw [if_neg c1, if_neg c4, if_pos c5]
        rw [e]
        clear e c4 c1
        generalize Lib.indexByte s.data.toList (0 : Int).toNat.toUInt8 = i at hi hx
        go_enter Tryd.func56, Tryd.ntmps56
        go_wp2_with (first | (go_at_call 74; refine (hx _).mono ?_; rintro e w' ⟨rfl, hw⟩; replace hw := hw.symm; subst hw))
        go_ret2
        exact ⟨_, rfl, Kd.R_nil _ _ _ _ _, Below.refl _ _⟩
      · have e : textR s n = (bytesOf s ++ (List.replicate n.toNat (0 : Int)).drop s.size, 0) := by
          unfold textR
          rw [if_neg c1, if_neg c4, if_neg c5, List.drop_replicate]
        rw [e]
        clear e c4 c1
        generalize Lib.indexByte s.data.toList (0 : Int).toNat.toUInt8 = i at hi hx
        have hn0 : 0 ≤ n := by omega
        have hle : s.size ≤ (List.replicate n.toNat (0 : Int)).length := by rw [List.length_replicate]; omega
        have HLE := Aside0.mk hle
        clear hle
        obtain ⟨Z, hZ⟩ : ∃ Z, List.replicate n.toNat (0 : Int) = Z := ⟨_, rfl⟩
        rw [hZ] at HLE ⊢
        have HZ := Aside0.mk hZ
        clear hZ
        go_enter Tryd.func56, Tryd.ntmps56
        go_wp2_with (first | (go_at_call 74; refine (hx _).mono ?_; rintro e w' ⟨rfl, hw⟩; replace hw := hw.symm; subst hw) | (refine Kd.R_make (Kd.int .u8) w.heap.size 5 rfl (N := 24) rfl 22 _ _ rfl n rfl rfl Tryd.underlying22 (.int .u8 0) 1 info5 rfl (by decide) (by omega) 0 (ok := fun _ => True) (okp := fun _ => True) rfl (fun _ hk => hk) trivial hn0 (by omega) (Below.refl _ _) (Nat.le_refl _) ?_; intro v1 w1 ho hb hg hnew; rw [HZ.out] at ho; clear hg hnew; have HO := Aside0.mk ho; have HB := Aside0.mk hb; have HG := Aside0.mk hb.size; clear ho hb) | (refine R_copy_text w.heap.size rfl (.tmp 25) (.tmp 26) 22 9 5 rfl Tryd.underlying22 (by kernel_rfl) _ _ _ _ rfl rfl HLE.out HO.out HB.out HG.out ?_; intro w2 ho hb hg; clear hg; replace HO := Aside0.mk ho; replace HB := Aside0.mk hb; clear ho hb))
        go_ret2
        exact ⟨_, rfl, HO.out, HB.out⟩
end Go.Proofs.YtkcmkgkkddgicaaDoor.R

/- header.Put: what it answers. -/
set_option linter.unusedVariables false
set_option linter.unusedSimpArgs false
namespace Go.Proofs.YtkcmkgkkddgicaaDoor.R
open Go.RowKit Go.Proofs.YtkcmkgkkddgicaaDoorW.PrintWords Go.Proofs.YtkcmkgkkddgicaaDoorW.PrintLast Go.Proofs.YtkcmkgkkddgicaaDoorW.PrintMore

def addF (xs : List Int) (p : List Int × Int) : List Int := if p.2 = 0 then xs ++ p.1 else xs
/-- the row that fields are laid into, and the function that adds to it -/
def St (base : Nat) (w : World) (bb ab : Nat) (xs : List Int) : Prop :=
  ∃ v, w.heap[bb]? = some (.cells #[v] 22 (0, 0)) ∧ w.heap[ab]? = some (.cells #[.func (.func 53) #[] #[.pointer (some ⟨bb, 0, none⟩)]] 89 (0, 0)) ∧ base ≤ bb ∧ base ≤ ab ∧ bb ≠ ab ∧ bb < w.heap.size ∧ ab < w.heap.size ∧ Kd.R (Kd.int .u8) 5 w base (fun _ => True) v xs
theorem cell_one {w : World} {g t : Nat} {v : Value} (h : w.heap[g]? = some (.cells #[v] t (0, 0))) : w.cell? ⟨g, 0, none⟩ = some v ∧ w.frozen? ⟨g, 0, none⟩ = false := by
  refine ⟨?_, blk_frozen h _⟩
  unfold World.cell?
  rw [h]
  rfl
theorem setCell_heap_self {w : World} {g t : Nat} {v : Value} (h : w.heap[g]? = some (.cells #[v] t (0, 0))) (u : Value) : (w.setCell ⟨g, 0, none⟩ u).heap[g]? = some (.cells #[u] t (0, 0)) := by
  have hlt : g < w.heap.size := (Array.getElem?_eq_some_iff.1 h).1
  have hv : w.heap[g] = .cells #[v] t (0, 0) := (Array.getElem?_eq_some_iff.1 h).2
  unfold World.setCell
  rw [Array.getElem?_eq_getElem (by simpa using hlt), Array.getElem_modify]
  simp [hv]
theorem st_keep {base bb ab : Nat} {w w1 : World} {v : Value} {xs : List Int} {u : Value}
    (h : w.heap[bb]? = some (.cells #[v] 22 (0, 0)) ∧ w.heap[ab]? = some (.cells #[u] 89 (0, 0)) ∧ base ≤ bb ∧ base ≤ ab ∧ bb ≠ ab ∧ bb < w.heap.size ∧ ab < w.heap.size ∧ Kd.R (Kd.int .u8) 5 w base (fun _ => True) v xs)
    (hg : w.grownBy w1 v.ownBlock) : w1.heap[bb]? = some (.cells #[v] 22 (0, 0)) ∧ w1.heap[ab]? = some (.cells #[u] 89 (0, 0)) := by
  obtain ⟨h1, h2, h3, h4, h5, h6, h7, h8⟩ := h
  have n1 := own_ne (Kd.own_of_R h8) h1 (by decide)
  have n2 := own_ne (Kd.own_of_R h8) h2 (by decide)
  exact ⟨(hg.block bb h6 n1).trans h1, (hg.block ab h7 n2).trans h2⟩
theorem St_add {base bb ab : Nat} {w w1 : World} {v v1 : Value} {xs ys : List Int}
    (h : w.heap[bb]? = some (.cells #[v] 22 (0, 0)) ∧ w.heap[ab]? = some (.cells #[.func (.func 53) #[] #[.pointer (some ⟨bb, 0, none⟩)]] 89 (0, 0)) ∧ base ≤ bb ∧ base ≤ ab ∧ bb ≠ ab ∧ bb < w.heap.size ∧ ab < w.heap.size ∧ Kd.R (Kd.int .u8) 5 w base (fun _ => True) v xs)
    (ho : Kd.R (Kd.int .u8) 5 w1 base (fun _ => True) v1 (xs ++ ys)) (hg : w.grownBy w1 v.ownBlock) : St base (w1.setCell ⟨bb, 0, none⟩ v1) bb ab (xs ++ ys) := by
  obtain ⟨k1, k2⟩ := st_keep h hg
  obtain ⟨h1, h2, h3, h4, h5, h6, h7, h8⟩ := h
  have hsz := hg.size
  have n1 := own_ne (Kd.own_of_R ho) k1 (by decide)
  refine ⟨v1, ?_, (Below.heap_setCell _ _ _ _ (Ne.symm h5)).trans k2, h3, h4, h5, by simp; omega, by simp; omega, ?_⟩
  · exact (setCell_heap_self k1 v1).trans (by rfl)
  · refine Kd.R_mono (Kd.R_far (ok := fun k => k ≠ bb) (p := ⟨bb, 0, none⟩) (Kd.R_of_own (Kd.own_of_R ho) (fun k hk => ?_)) (fun k hk => hk) v1) (fun _ _ => trivial)
    rintro rfl
    exact n1 hk.symm
set_option maxRecDepth 100000 in
set_option maxHeartbeats 2000000 in
theorem add.calls (base bb ab : Nat) (xs ys : List Int) (e : Int) (A : Option Addr) (c : Nat) (w : World) (hs : St base w bb ab xs) (hy : Kd.C (Kd.int .u8) w A ys.length ys) (hl : xs.length + ys.length ≤ 100000) (hbase : base ≤ w.heap.size) :
    Calls Tryd.prog 53 #[.slice A ys.length c, .int .i64 e, .pointer (some ⟨bb, 0, none⟩)] w fun ex w' => ex = .returned (.tuple #[]) ∧ St base w' bb ab (addF xs (ys, e)) ∧ Below base w w' := by
  obtain ⟨v, h1, h2, h3, h4, h5, h6, h7, HO⟩ := hs
  have HS := Aside0.mk (And.intro h1 (And.intro h2 (And.intro h3 (And.intro h4 (And.intro h5 (And.intro h6 (And.intro h7 HO)))))))
  obtain ⟨hc, hf⟩ := cell_one h1
  have HY := Aside0.mk hy
  have HB := Aside0.mk (Below.refl base w)
  clear h1 h2 hy HO
  by_cases he : e = 0
  · subst he
    go_enter Tryd.func53, Tryd.ntmps53
    go_wp2_with (first | (at_builtin; refine Kd.R_append_row (Value.int .u8) 0 (w0 := w) base rfl (.tmp 7) (.tmp 8) 22 5 (.int .u8 0) 1 rfl Tryd.underlying22 info5 rfl (by decide) v xs ys A _ c _ rfl rfl (fun _ _ => trivial) HS.out.2.2.2.2.2.2.2 HY.out HB.out hbase (by omega) ?_; intro v1 w1 ho hb hg hat; obtain ⟨A1, c1, e1⟩ := Kd.R_slice ho; subst e1; obtain ⟨hc1, hf1⟩ := cell_one (st_keep HS.out hg).1; have HT := Aside0.mk (St_add HS.out ho hg); have HB1 := Aside0.mk hb; clear ho hb hg hat hc hf))
    go_end0
    rw [List.length_append] at HT
    refine ⟨rfl, ?_, HB1.out.setCell (p := ⟨bb, 0, none⟩) h3 _⟩
    unfold addF
    rw [if_pos rfl]
    exact HT.out
  · have hz : (e == 0) = false := by simpa using he
    go_enter Tryd.func53, Tryd.ntmps53
    go_wp2
    go_end0
    refine ⟨rfl, ⟨v, ?_⟩, HB.out⟩
    unfold addF
    rw [if_neg he]
    exact HS.out
theorem cell_of_St {base bb ab : Nat} {xs : List Int} {w' : World} (h : St base w' bb ab xs) : w'.cell? ⟨ab, 0, none⟩ = some (.func (.func 53) #[] #[.pointer (some ⟨bb, 0, none⟩)]) := by
  obtain ⟨v, h1, h2, _⟩ := h
  exact (cell_one h2).1
theorem St_below {base bb ab : Nat} {xs : List Int} {w w1 : World} (h : St base w bb ab xs) (hb : Below w.heap.size w w1) : St base w1 bb ab xs := by
  obtain ⟨v, h1, h2, h3, h4, h5, h6, h7, h8⟩ := h
  have := hb.size
  exact ⟨v, (hb.block _ h6).trans h1, (hb.block _ h7).trans h2, h3, h4, h5, by omega, by omega, Kd.R_below h8 hb⟩
theorem St_drew {base bb ab : Nat} {xs : List Int} {w : World} (h : St base w bb ab xs) : St base w.drew bb ab xs := by
  obtain ⟨v, h1, h2, h3, h4, h5, h6, h7, h8⟩ := h
  exact ⟨v, h1, h2, h3, h4, h5, h6, h7, Kd.R_drew h8⟩
set_option maxRecDepth 100000 in
set_option maxHeartbeats 2000000 in
theorem number.calls (base bb ab : Nat) (xs : List Int) (n wd : Int) (k : Nat) (r1 : List Int) (r2 : Int) (hp : octal_Put.f k n wd = some (r1, r2)) (w : World) (hs : St base w bb ab xs) (hl : xs.length + r1.length ≤ 100000) (hbase : base ≤ w.heap.size) :
    Calls Tryd.prog 54 (#[.int .i64 n, .int .i64 wd] ++ #[.pointer (some ⟨ab, 0, none⟩)]) w fun ex w' => ex = .returned (.tuple #[]) ∧ St base w' bb ab (addF xs (r1, r2)) ∧ Below base w w' := by
  have HS := Aside0.mk hs
  have HP := Aside0.mk hp
  have HX := Aside0.mk hbase
  have hcell : ∀ w', St base w' bb ab xs → w'.cell? ⟨ab, 0, none⟩ = some (.func (.func 53) #[] #[.pointer (some ⟨bb, 0, none⟩)]) := by
    rintro w' ⟨v, h1, h2, _⟩
    exact (cell_one h2).1
  clear hs hp hbase
  go_enter Tryd.func54, Tryd.ntmps54
  refine start_ (n := 7) (S := fun w' => w'.cell? ⟨ab, 0, none⟩ = some (.func (.func 53) #[] #[.pointer (some ⟨bb, 0, none⟩)])) (ds := []) #[false, false, false, false, false, false, false] (by kernel_rfl) rfl rfl (hcell _ (St_drew HS.out)) (fun hHeld => ?_)
  have n0_ := Aside0.mk (St_drew HS.out)
  have n1_ := Aside0.mk (below_drew1 (Below.refl base w))
  have n2_ := Aside0.mk (show base ≤ w.drew.heap.size from HX.out)
  clear HS HX
  generalize w.drew = w0 at n0_ n1_ n2_ hHeld ⊢
  refine take_ (i := 0) (N := some 5) (v := ?_) (a' := ?_) #[true, false, false, false, false, false, false] rfl rfl (by kernel_rfl) (fun _ _ _ h => h) (Or.inl ⟨by rfl, ?_⟩) hHeld ?_ ?_
  rotate_left
  · intro w' s0
    go_simp
    with_reducible rfl
  rotate_left
  · simp only [Act.put, List.setIfInBounds_toArray, List.set_cons_zero, List.set_cons_succ, i64_w, i32_w]
    rfl
  refine pure_ (i := 1) (N := some 6) (v := ?_) (a' := ?_) #[true, true, false, false, false, false, false] rfl rfl (by kernel_rfl) (fun _ _ _ h => h) (Or.inl ⟨by rfl, ?_⟩) ?_ ?_
  rotate_left
  · intro w'
    go_simp
    with_reducible rfl
  rotate_left
  · simp only [Act.put, List.setIfInBounds_toArray, List.set_cons_zero, List.set_cons_succ, i64_w, i32_w]
    rfl
  refine pure_ (i := 2) (N := some 7) (v := ?_) (a' := ?_) #[true, true, true, false, false, false, false] rfl rfl (by kernel_rfl) (fun _ _ _ h => h) (Or.inl ⟨by rfl, ?_⟩) ?_ ?_
  rotate_left
  · intro w'
    go_simp
    with_reducible rfl
  rotate_left
  · simp only [Act.put, List.setIfInBounds_toArray, List.set_cons_zero, List.set_cons_succ, i64_w, i32_w]
    rfl
  refine one_ (i := 3) (N := some 8) #[true, true, true, true, false, false, false] rfl rfl (by kernel_rfl) (by decide) (fun K hK => ?_)
  refine goes_ Tryd.func36 (by kernel_rfl) rfl #[.int .i64 n, .int .i64 wd] (by rfl) rfl rfl (by (try simp only [List.map_toArray, List.map_cons, List.map_nil]); rfl) ?_
  refine (octal_Put.calls k n wd r1 r2 w0 HP.out).mono ?_
  rintro e w1 ⟨v1, rfl, ho0, hb⟩
  refine ⟨_, rfl, ?_⟩
  have m0_ := Aside0.mk (St_below n0_.out hb)
  have m1_ := Aside0.mk (below_then n1_.out n2_.out hb)
  have m2_ := Aside0.mk (Nat.le_trans n2_.out hb.size)
  clear n0_ n1_ n2_
  refine hK.out _ _ (hcell _ m0_.out) (fun hHeld => ?_)
  clear hK K
  obtain ⟨A1, c1, e1⟩ := Kd.R_slice ho0
  subst e1
  have HY := Aside0.mk (Kd.R_reads' ho0).2.2
  clear ho0 hb
  refine norm_ (a' := ?_) ?_ ?_
  rotate_left
  · show Act.put _ (some 8) _ = _
    simp only [Act.put, List.setIfInBounds_toArray, List.set_cons_zero, List.set_cons_succ, i64_w, i32_w]
    rfl
  refine pure_ (i := 4) (N := some 9) (v := ?_) (a' := ?_) #[true, true, true, true, true, false, false] rfl rfl (by kernel_rfl) (fun _ _ _ h => h) (Or.inl ⟨by rfl, ?_⟩) ?_ ?_
  rotate_left
  · intro w'
    go_simp
    with_reducible rfl
  rotate_left
  · simp only [Act.put, List.setIfInBounds_toArray, List.set_cons_zero, List.set_cons_succ, i64_w, i32_w]
    rfl
  refine pure_ (i := 5) (N := some 10) (v := ?_) (a' := ?_) #[true, true, true, true, true, true, false] rfl rfl (by kernel_rfl) (fun _ _ _ h => h) (Or.inl ⟨by rfl, ?_⟩) ?_ ?_
  rotate_left
  · intro w'
    go_simp
    with_reducible rfl
  rotate_left
  · simp only [Act.put, List.setIfInBounds_toArray, List.set_cons_zero, List.set_cons_succ, i64_w, i32_w]
    rfl
  refine one_ (i := 6) (N := some 11) #[true, true, true, true, true, true, true] rfl rfl (by kernel_rfl) (by decide) (fun K hK => ?_)
  refine goesVs_ Tryd.func53 (by kernel_rfl) rfl #[.slice A1 r1.length c1, .int .i64 r2] #[.pointer (some ⟨bb, 0, none⟩)] (by rfl) rfl rfl rfl (by (try simp only [List.map_toArray, List.map_cons, List.map_nil]); rfl) ?_
  refine (add.calls base bb ab xs r1 r2 A1 c1 w1 m0_.out HY.out hl m2_.out).mono ?_
  rintro e w2 ⟨rfl, hs2, hb2⟩
  refine ⟨_, rfl, ?_⟩
  have HS := Aside0.mk hs2
  have HB := Aside0.mk (m1_.out.trans hb2)
  refine hK.out _ _ (cell_of_St hs2) (fun hHeld => ?_)
  clear hK K
  refine done_ (by kernel_rfl) ?_
  go_end0
  exact ⟨rfl, HS.out, HB.out⟩
theorem octal_Text_calls (s : ByteArray) (n : Int) (r1 : List Int) (r2 : Int) (w : World) (h : textR s n = (r1, r2)) :
    Calls Tryd.prog 56 #[.string s, .int .i64 n] w fun e w' => ∃ v0_ : Value, e = .returned (.tuple #[v0_, .int .i64 r2]) ∧ Kd.R (Kd.int .u8) 5 w' w.heap.size (fun _ => True) v0_ r1 ∧ Below w.heap.size w w' := by
  have h1 : (textR s n).1 = r1 := by rw [h]
  have h2 : (textR s n).2 = r2 := by rw [h]
  have := octal_Text.calls s n w
  rw [h1, h2] at this
  exact this
set_option maxRecDepth 100000 in
set_option maxHeartbeats 2000000 in
theorem text.calls (base bb ab : Nat) (xs : List Int) (s : ByteArray) (n : Int) (r1 : List Int) (r2 : Int) (hp : textR s n = (r1, r2)) (w : World) (hs : St base w bb ab xs) (hl : xs.length + r1.length ≤ 100000) (hbase : base ≤ w.heap.size) :
    Calls Tryd.prog 55 (#[.string s, .int .i64 n] ++ #[.pointer (some ⟨ab, 0, none⟩)]) w fun ex w' => ex = .returned (.tuple #[]) ∧ St base w' bb ab (addF xs (r1, r2)) ∧ Below base w w' := by
  have HS := Aside0.mk hs
  have HP := Aside0.mk hp
  have HX := Aside0.mk hbase
  have hcell : ∀ w', St base w' bb ab xs → w'.cell? ⟨ab, 0, none⟩ = some (.func (.func 53) #[] #[.pointer (some ⟨bb, 0, none⟩)]) := by
    rintro w' ⟨v, h1, h2, _⟩
    exact (cell_one h2).1
  clear hs hp hbase
  go_enter Tryd.func55, Tryd.ntmps55
  refine start_ (n := 7) (S := fun w' => w'.cell? ⟨ab, 0, none⟩ = some (.func (.func 53) #[] #[.pointer (some ⟨bb, 0, none⟩)])) (ds := []) #[false, false, false, false, false, false, false] (by kernel_rfl) rfl rfl (hcell _ (St_drew HS.out)) (fun hHeld => ?_)
  have n0_ := Aside0.mk (St_drew HS.out)
  have n1_ := Aside0.mk (below_drew1 (Below.refl base w))
  have n2_ := Aside0.mk (show base ≤ w.drew.heap.size from HX.out)
  clear HS HX
  generalize w.drew = w0 at n0_ n1_ n2_ hHeld ⊢
  refine take_ (i := 0) (N := some 5) (v := ?_) (a' := ?_) #[true, false, false, false, false, false, false] rfl rfl (by kernel_rfl) (fun _ _ _ h => h) (Or.inl ⟨by rfl, ?_⟩) hHeld ?_ ?_
  rotate_left
  · intro w' s0
    go_simp
    with_reducible rfl
  rotate_left
  · simp only [Act.put, List.setIfInBounds_toArray, List.set_cons_zero, List.set_cons_succ, i64_w, i32_w]
    rfl
  refine pure_ (i := 1) (N := some 6) (v := ?_) (a' := ?_) #[true, true, false, false, false, false, false] rfl rfl (by kernel_rfl) (fun _ _ _ h => h) (Or.inl ⟨by rfl, ?_⟩) ?_ ?_
  rotate_left
  · intro w'
    go_simp
    with_reducible rfl
  rotate_left
  · simp only [Act.put, List.setIfInBounds_toArray, List.set_cons_zero, List.set_cons_succ, i64_w, i32_w]
    rfl
  refine pure_ (i := 2) (N := some 7) (v := ?_) (a' := ?_) #[true, true, true, false, false, false, false] rfl rfl (by kernel_rfl) (fun _ _ _ h => h) (Or.inl ⟨by rfl, ?_⟩) ?_ ?_
  rotate_left
  · intro w'
    go_simp
    with_reducible rfl
  rotate_left
  · simp only [Act.put, List.setIfInBounds_toArray, List.set_cons_zero, List.set_cons_succ, i64_w, i32_w]
    rfl
  refine one_ (i := 3) (N := some 8) #[true, true, true, true, false, false, false] rfl rfl (by kernel_rfl) (by decide) (fun K hK => ?_)
  refine goes_ Tryd.func56 (by kernel_rfl) rfl #[.string s, .int .i64 n] (by rfl) rfl rfl (by (try simp only [List.map_toArray, List.map_cons, List.map_nil]); rfl) ?_
  refine (octal_Text_calls s n r1 r2 w0 HP.out).mono ?_
  rintro e w1 ⟨v1, rfl, ho0, hb⟩
  refine ⟨_, rfl, ?_⟩
  have m0_ := Aside0.mk (St_below n0_.out hb)
  have m1_ := Aside0.mk (below_then n1_.out n2_.out hb)
  have m2_ := Aside0.mk (Nat.le_trans n2_.out hb.size)
  clear n0_ n1_ n2_
  refine hK.out _ _ (hcell _ m0_.out) (fun hHeld => ?_)
  clear hK K
  obtain ⟨A1, c1, e1⟩ := Kd.R_slice ho0
  subst e1
  have HY := Aside0.mk (Kd.R_reads' ho0).2.2
  clear ho0 hb
  refine norm_ (a' := ?_) ?_ ?_
  rotate_left
  · show Act.put _ (some 8) _ = _
    simp only [Act.put, List.setIfInBounds_toArray, List.set_cons_zero, List.set_cons_succ, i64_w, i32_w]
    rfl
  refine pure_ (i := 4) (N := some 9) (v := ?_) (a' := ?_) #[true, true, true, true, true, false, false] rfl rfl (by kernel_rfl) (fun _ _ _ h => h) (Or.inl ⟨by rfl, ?_⟩) ?_ ?_
  rotate_left
  · intro w'
    go_simp
    with_reducible rfl
  rotate_left
  · simp only [Act.put, List.setIfInBounds_toArray, List.set_cons_zero, List.set_cons_succ, i64_w, i32_w]
    rfl
  refine pure_ (i := 5) (N := some 10) (v := ?_) (a' := ?_) #[true, true, true, true, true, true, false] rfl rfl (by kernel_rfl) (fun _ _ _ h => h) (Or.inl ⟨by rfl, ?_⟩) ?_ ?_
  rotate_left
  · intro w'
    go_simp
    with_reducible rfl
  rotate_left
  · simp only [Act.put, List.setIfInBounds_toArray, List.set_cons_zero, List.set_cons_succ, i64_w, i32_w]
    rfl
  refine one_ (i := 6) (N := some 11) #[true, true, true, true, true, true, true] rfl rfl (by kernel_rfl) (by decide) (fun K hK => ?_)
  refine goesVs_ Tryd.func53 (by kernel_rfl) rfl #[.slice A1 r1.length c1, .int .i64 r2] #[.pointer (some ⟨bb, 0, none⟩)] (by rfl) rfl rfl rfl (by (try simp only [List.map_toArray, List.map_cons, List.map_nil]); rfl) ?_
  refine (add.calls base bb ab xs r1 r2 A1 c1 w1 m0_.out HY.out hl m2_.out).mono ?_
  rintro e w2 ⟨rfl, hs2, hb2⟩
  refine ⟨_, rfl, ?_⟩
  have HS := Aside0.mk hs2
  have HB := Aside0.mk (m1_.out.trans hb2)
  refine hK.out _ _ (cell_of_St hs2) (fun hHeld => ?_)
  clear hK K
  refine done_ (by kernel_rfl) ?_
  go_end0
  exact ⟨rfl, HS.out, HB.out⟩
end Go.Proofs.YtkcmkgkkddgicaaDoor.R

/- header.Put: what it answers. -/
set_option linter.unusedVariables false
set_option linter.unusedSimpArgs false
namespace Go.Proofs.YtkcmkgkkddgicaaDoor.R
open Go.RowKit Go.Proofs.YtkcmkgkkddgicaaDoorW.PrintWords Go.Proofs.YtkcmkgkkddgicaaDoorW.PrintLast Go.Proofs.YtkcmkgkkddgicaaDoorW.PrintMore

inductive Fld where
  | num (n w : Int)
  | txt (s : ByteArray) (n : Int)
def lay : List Fld → List Int → Option (List Int)
  | [], xs => some xs
  | .num n w :: r, xs => (octal_Put.f 64 n w).bind fun p => if xs.length + p.1.length ≤ 100000 then lay r (addF xs p) else none
  | .txt s n :: r, xs => if xs.length + (textR s n).1.length ≤ 100000 then lay r (addF xs (textR s n)) else none
def fields (p q : ByteArray) (n : Int) : List Fld :=
  [.txt q 100, .num 420 8, .num 0 8, .num 0 8, .num n 12, .num 0 12, .txt ⟨#[]⟩ 8, .txt ⟨#[48]⟩ 1, .txt ⟨#[]⟩ 100, .txt ⟨#[117, 115, 116, 97, 114]⟩ 6, .txt ⟨#[48, 48]⟩ 2, .txt ⟨#[]⟩ 32, .txt ⟨#[]⟩ 32, .num 0 8, .num 0 8, .txt p 155, .txt ⟨#[]⟩ 12]
def header_Put.f (a0 : ByteArray) (a1 : Int) : Option (List Int × Int) :=
  (path_Split.f a0).bind fun t => if t.2.2 = 0 then (if a1 < 0 ∨ 4194304 < a1 then some ([], 8) else
    (lay (fields t.1 t.2.1 a1) []).bind fun b => (octal_Check.f 1000 b).bind fun c => (octal_Put.f 64 c 7).bind fun s =>
      if s.1.length + 149 ≤ b.length ∧ b.length ≤ 100000 then some (b.take 148 ++ (s.1 ++ [32]) ++ b.drop (149 + s.1.length), 0) else none) else some ([], t.2.2)

section
variable {base bb ab : Nat} {xs b : List Int} {w : World} {r : List Fld}
theorem num_step {n wd : Int} (hs : St base w bb ab xs) (hbase : base ≤ w.heap.size) (H : lay (.num n wd :: r) xs = some b) : ∃ xs', lay r xs' = some b ∧
    Calls Tryd.prog 54 (#[.int .i64 n, .int .i64 wd] ++ #[.pointer (some ⟨ab, 0, none⟩)]) w fun ex w' => ex = .returned (.tuple #[]) ∧ St base w' bb ab xs' ∧ Below base w w' := by
  unfold lay at H
  obtain ⟨p, hp, H⟩ := Option.bind_eq_some_iff.1 H
  split at H
  · rename_i hl
    exact ⟨_, H, number.calls base bb ab xs n wd 64 p.1 p.2 hp w hs hl hbase⟩
  · cases H
theorem txt_step {s : ByteArray} {n : Int} (hs : St base w bb ab xs) (hbase : base ≤ w.heap.size) (H : lay (.txt s n :: r) xs = some b) : ∃ xs', lay r xs' = some b ∧
    Calls Tryd.prog 55 (#[.string s, .int .i64 n] ++ #[.pointer (some ⟨ab, 0, none⟩)]) w fun ex w' => ex = .returned (.tuple #[]) ∧ St base w' bb ab xs' ∧ Below base w w' := by
  unfold lay at H
  split at H
  · rename_i hl
    exact ⟨_, H, text.calls base bb ab xs s n (textR s n).1 (textR s n).2 rfl w hs hl hbase⟩
  · cases H
end
set_option maxRecDepth 100000 in
theorem laid.calls (base : Nat) (w : World) (hbase : base ≤ w.heap.size) : Calls Tryd.prog 35 #[] w fun ex w' => ∃ bb ab, ex = .returned (.tuple #[.func (.func 54) #[] #[.pointer (some ⟨ab, 0, none⟩)], .func (.func 55) #[] #[.pointer (some ⟨ab, 0, none⟩)], .func (.func 57) #[] #[.pointer (some ⟨bb, 0, none⟩)]]) ∧ St base w' bb ab [] ∧ Below base w w' := by
  have hmf : ∀ (fn : Fn) (first cap : Array Value) (w : World), (Instr.makeFunc fn first cap).run Tryd.prog w = .ok (.func fn first cap) w := fun _ _ _ _ => rfl
  have hb : ∀ u : Value, ((w.alloc (.cells #[.slice none 0 0] 22)).alloc (.cells #[u] 89)).heap[w.heap.size + 1]? = some (.cells #[u] 89 (0, 0)) := by
    intro u
    have := heap_alloc_new (w.alloc (.cells #[.slice none 0 0] 22)) (.cells #[u] 89)
    simpa using this
  have hb0 : ∀ u : Value, ((w.alloc (.cells #[.slice none 0 0] 22)).alloc (.cells #[u] 89)).heap[w.heap.size]? = some (.cells #[.slice none 0 0] 22 (0, 0)) := by
    intro u
    rw [Below.heap_alloc _ _ _ (by simp)]
    exact heap_alloc_new w _
  obtain ⟨hc, hf⟩ := cell_one (hb .nilFunc)
  have HB := Aside0.mk (fun u : Value => ((Below.refl base w).alloc hbase (.cells #[.slice none 0 0] 22)).alloc (by simp; omega) (.cells #[u] 89))
  have HH := Aside0.mk (And.intro hb hb0)
  clear hb hb0
  go_enter Tryd.func35, Tryd.ntmps35
  go_wp2
  go_ret3
  refine ⟨w.heap.size, w.heap.size + 1, rfl, ⟨.slice none 0 0, HH.out.2 _, HH.out.1 _, hbase, by omega, by omega, by simp; omega, by simp, Kd.R_nil _ _ _ _ _⟩, HB.out _⟩
set_option maxRecDepth 100000 in
theorem told.calls (bb : Nat) (v : Value) (A : Option Addr) (n c : Nat) (w : World) (hv : v = .slice A n c) (h : w.cell? ⟨bb, 0, none⟩ = some v) : Calls Tryd.prog 57 (#[] ++ #[.pointer (some ⟨bb, 0, none⟩)]) w fun ex w' => ex = .returned v ∧ w' = w := by
  subst hv
  go_enter Tryd.func57, Tryd.ntmps57
  go_wp2
  go_ret
  exact ⟨rfl, rfl⟩
theorem own_head {w : World} {e base n c : Nat} {ok : Nat → Prop} {A : Option Addr} {xs : List Int} (h : Kd.R (Kd.int .u8) e w base ok (.slice A n c) xs) (h0 : 0 < xs.length) : ∃ g, A = some ⟨g, 0, none⟩ := by
  rcases (Kd.own_of_R h).2 with ⟨_, hx0⟩ | ⟨g, cap, cur, hv, _⟩
  · omega
  · injection hv with h1 _ _
    exact ⟨g, h1⟩
/-- a row, and one that was made behind it -/
theorem row_before {w w1 : World} {e base : Nat} {v v1 : Value} {xs ys : List Int} (h : Kd.R (Kd.int .u8) e w base (fun _ => True) v xs) (h1 : Kd.R (Kd.int .u8) e w1 w.heap.size (fun _ => True) v1 ys) (hb : Below w.heap.size w w1) (hbase : base ≤ w.heap.size) :
    ∃ S, Kd.R (Kd.int .u8) e w1 base (fun k => k < S) v xs ∧ Kd.R (Kd.int .u8) e w1 base (fun k => S ≤ k) v1 ys ∧ S ≤ w1.heap.size :=
  ⟨w.heap.size, Kd.R_mono (Kd.R_below (Kd.R_mono (ok' := fun k => k < w.heap.size) (Kd.R_bound h) (fun _ hk => hk.2.2.1)) hb) (fun _ hk => hk),
    Kd.R_lower (Kd.R_mono (ok' := fun k => w.heap.size ≤ k) (Kd.R_bound h1) (fun _ hk => hk.2.1)) hbase, hb.size⟩
section
variable {P : Program} {ops : Array Oper} {o : Oper} {a : Act} {Q : Exit → Act → World → Prop} {Kc : Act → World → Prop}
/-- copy(v[at:], ys), v a row of one's own, ys' elements fit; a step of a region that draws. -/
theorem copy_at_step {w0 W : World} (base : Nat) (hw : Region.wanted o (yielded ops a.tmps) = true) (s x : Operand) (t t' e : TypeId)
    (ho : o.op = .call { callee := .builtin .copy, args := #[s, x], argTypes := #[t, t'] }) (ht : P.underlying t = some (.slice e)) (hinfo : (P.info? e).map (·.size) = some 1)
    (g at_ n' cap cap' : Nat) (xs ys : List Int) (A : Option Addr) (m c : Nat) (ok : Nat → Prop) (hs : a.eval s = .slice (some ⟨g, at_, none⟩) n' cap') (hx : a.eval x = .slice A m c)
    (HO : (Kd.int .u8).R e W base ok (.slice (some ⟨g, 0, none⟩) xs.length cap) xs) (HR : (Kd.int .u8).C W A m ys) (hn : at_ + n' = xs.length) (hm : m ≤ n') (hm0 : 0 < m) (HB : Below base w0 W) (hbase : base ≤ W.heap.size)
    (h : ∀ w1, (Kd.int .u8).R e w1 base ok (.slice (some ⟨g, 0, none⟩) xs.length cap) (xs.take at_ ++ ys ++ xs.drop (at_ + m)) → Below base w0 w1 → W.grownBy w1 (some g) → Kc (a.put o.dst (.int .i64 (m : Int))) w1) :
    if Region.wanted o (yielded ops a.tmps) = true then Oper.wp P o a W Kc Q else Kc (a.put o.dst undef) W := by
  have hR := Kd.reads_of_C (enc := fun n : Int => Value.int .u8 n) (d := (0 : Int)) (h1 := fun _ => rfl) HR
  have hml : ys.length = m := hR.1
  have hown := Kd.own_of_R HO
  obtain ⟨ad, hA, hc⟩ := hR.2.2 hm0
  rcases hown.2 with ⟨hv, _⟩ | ⟨g', cap', cur, hv, hb, hh, hnc, hcm, hcs, htake⟩
  · cases hv
  injection hv with hv1 hv2 hv3
  injection hv1 with hv1
  injection hv1 with hv1
  subst hv1
  subst hv3
  have hcs1 : cur.size = cap := by omega
  have hsrc : ∀ j u, (encs (fun n : Int => Value.int .u8 n) ys)[j]? = some u → W.cell? (ad.add j) = some u := by
    intro j u hu
    have hj : j < ys.length := by
      rcases Nat.lt_or_ge j ys.length with h | h
      · exact h
      · rw [List.getElem?_eq_none (by rw [encs_length]; exact h)] at hu
        cases hu
    rw [encs_get (d := (0 : Int)) _ j hj] at hu
    rw [hc j (by omega), ← hu]
  have hkl : (encs (fun n : Int => Value.int .u8 n) ys).length = m := by rw [encs_length, hml]
  have hr := run_copy_cells (P := P) W t t' o.type e g at_ n' cap' ad m c (encs (fun n : Int => Value.int .u8 n) ys) ht hinfo (by rw [hkl]; exact (Nat.min_eq_left hm).symm) hsrc
    (fun j hj => by rw [cell_of_row W g _ cur e (0, 0) hh]; simp; omega) (fun j _ => blk_frozen hh _) (by intro u hu; simp only [encs, List.mem_map] at hu; obtain ⟨q, _, rfl⟩ := hu; rfl)
  obtain ⟨cur', h3, h4, h5⟩ := setCells_row (encs (fun n : Int => Value.int .u8 n) ys) at_ W cur hh (by rw [hkl]; omega)
  obtain ⟨s1, s2, s3, s4⟩ := setCells_same g (encs (fun n : Int => Value.int .u8 n) ys) at_ W
  have hg : W.grownBy (W.setCells g at_ (encs (fun n : Int => Value.int .u8 n) ys)) (some g) := ⟨s1, s2, s3, by rw [s4]; exact Nat.le_refl _, fun k _ hk => setCells_far _ _ k (fun he => hk (by rw [he]))⟩
  rw [if_pos hw]
  unfold Oper.wp execOp
  rw [hkl] at hr
  simp only [ho, resolve, invoke, builtin, Sem.run_bind, Sem.run_pure, Result.andThen_ok, List.map_toArray, List.map_cons, List.map_nil, hs, hx, hA, hr]
  refine h _ (Kd.R_of_own ?_ HO.1) (HB.grown hg hbase (by rintro k hk; injection hk with hk; omega)) hg
  have hln : (xs.take at_ ++ ys ++ xs.drop (at_ + m)).length = xs.length := by
    simp only [List.length_append, List.length_take, List.length_drop]
    omega
  rw [hln]
  refine ⟨by rw [encs_length, hln, Nat.mul_one], .inr ⟨g, cap, cur', rfl, hb, h3, hnc, hcm, by rw [h4, hcs], ?_⟩⟩
  have htk : cur.toList.take xs.length = encs (fun n : Int => Value.int .u8 n) xs := by rw [← htake, Nat.mul_one]
  rw [h5, hkl, Nat.mul_one, encs_append, encs_append]
  have e1 : encs (fun n : Int => Value.int .u8 n) (xs.take at_) = cur.toList.take at_ := by
    rw [show encs (fun n : Int => Value.int .u8 n) (xs.take at_) = (encs (fun n : Int => Value.int .u8 n) xs).take at_ by simp [encs, List.map_take], ← htk, List.take_take, Nat.min_eq_left (by omega)]
  have e2 : encs (fun n : Int => Value.int .u8 n) (xs.drop (at_ + m)) = (cur.toList.drop (at_ + m)).take (xs.length - (at_ + m)) := by
    rw [show encs (fun n : Int => Value.int .u8 n) (xs.drop (at_ + m)) = (encs (fun n : Int => Value.int .u8 n) xs).drop (at_ + m) by simp [encs, List.map_drop], ← htk, List.drop_take]
  rw [e1, e2, List.take_append, List.take_of_length_le (by simp only [List.length_append, List.length_take, hkl, Array.length_toList]; omega)]
  congr 2
  simp only [List.length_append, List.length_take, hkl, Array.length_toList]
  omega
end
end Go.Proofs.YtkcmkgkkddgicaaDoor.R

/- header.Put: what it answers. -/
set_option linter.unusedVariables false
set_option linter.unusedSimpArgs false
namespace Go.Proofs.YtkcmkgkkddgicaaDoor.R
open Go.RowKit Go.Proofs.YtkcmkgkkddgicaaDoorW.PrintWords Go.Proofs.YtkcmkgkkddgicaaDoorW.PrintLast Go.Proofs.YtkcmkgkkddgicaaDoorW.PrintMore
set_option maxRecDepth 100000 in
set_option maxHeartbeats 8000000 in
theorem header_Put.walk (a0 : ByteArray) (a1 : Int) (p q : ByteArray) (b : List Int) (c : Int) (r1 : List Int) (r2 : Int) (w : World) (h1 : path_Split.f a0 = some (p, q, 0)) (h2 : 0 ≤ a1) (h3 : a1 ≤ 4194304)
    (h4 : lay (fields p q a1) [] = some b) (h5 : octal_Check.f 1000 b = some c) (h6 : octal_Put.f 64 c 7 = some (r1, r2)) (h7 : r1.length + 149 ≤ b.length) (h8 : b.length ≤ 100000) :
    Calls Tryd.prog 17 #[.string a0, .int .i64 a1] w fun e w' => ∃ v0_ : Value, e = .returned (.tuple #[v0_, .int .i64 0]) ∧ Kd.R (Kd.int .u8) 5 w' w.heap.size (fun _ => True) v0_ (b.take 148 ++ (r1 ++ [32]) ++ b.drop (149 + r1.length)) ∧ Below w.heap.size w w' := by
  have H1 := Aside0.mk h1
  have H4 := Aside0.mk h4
  have H5 := Aside0.mk h5
  have H6 := Aside0.mk h6
  have H7 := Aside0.mk h7
  have H8 := Aside0.mk h8
  clear h1 h4 h5 h6 h7 h8
  have c1 : decide (a1 < 0) = false := by simp; omega
  have c2 : decide (4194304 < a1) = false := by simp; omega
  go_enter Tryd.func17, Tryd.ntmps17
  go_wp2_with (first
    | (go_at_call 34; refine (path_Split.calls _ _ _ _ _ H1.out).mono ?_; rintro e w1 ⟨rfl, hb⟩; have HB := Aside0.mk hb; clear hb)
    | (go_at_call 35; refine (laid.calls w.heap.size _ HB.out.size).mono ?_; rintro e w2 ⟨bb, ab, rfl, hs, hb⟩; have HS := Aside0.mk hs; replace HB := Aside0.mk (HB.out.trans hb); clear hs hb)
    | (go_at_call 55; obtain ⟨xs1, h1_, hc_⟩ := txt_step HS.out HB.out.size H4.out; refine hc_.mono ?_; rintro e w3 ⟨rfl, hs_, hb_⟩; clear hc_; replace HS := Aside0.mk hs_; replace HB := Aside0.mk (HB.out.trans hb_); replace H4 := Aside0.mk h1_; clear hs_ hb_ h1_)
    | (go_at_call 54; obtain ⟨xs1, h1_, hc_⟩ := num_step HS.out HB.out.size H4.out; refine hc_.mono ?_; rintro e w3 ⟨rfl, hs_, hb_⟩; clear hc_; replace HS := Aside0.mk hs_; replace HB := Aside0.mk (HB.out.trans hb_); replace H4 := Aside0.mk h1_; clear hs_ hb_ h1_)
    | (go_at_call 57; obtain ⟨v_, g1, g2, g3, g4, g5, g6, g7, hr_⟩ := HS.out; have hb_ := H4.out; unfold lay at hb_; replace hb_ := Option.some.inj hb_; subst hb_; obtain ⟨A_, cp, e_⟩ := Kd.R_slice hr_; subst e_; obtain ⟨g, e_⟩ := own_head hr_ (by have := H7.out; omega); subst e_; refine (told.calls bb _ _ _ _ _ rfl (cell_one g1).1).mono ?_; rintro e w4 ⟨rfl, hw⟩; replace hw := hw.symm; subst hw; have HO := Aside0.mk hr_; have HC := Aside0.mk (Kd.R_reads' hr_).2.1; clear hr_ g1 g2 g3 g4 g5 g6 g7 HS H4)
    | (go_at_call 37; refine (octal_Check.calls 1000 _ cp _ c _ (Kd.R_reads' HO.out).2.2 HC.out H5.out).mono ?_; rintro e w5 ⟨rfl, hd⟩; replace HO := Aside0.mk (Kd.R_below HO.out hd.below); replace HB := Aside0.mk (below_step HB.out hd.below); clear hd)
    | (go_at_call 36; refine (octal_Put.calls 64 c 7 r1 r2 _ H6.out).mono ?_; rintro e w6 ⟨vs, rfl, hs, hb⟩; have HP := Aside0.mk (row_before HO.out hs hb HB.out.size); replace HB := Aside0.mk (below_step HB.out hb); clear HO hs hb))
  obtain ⟨S, hb_, hs_, hS_⟩ := HP.out
  obtain ⟨As, cs, e_⟩ := Kd.R_slice hs_
  subst e_
  have HO := Aside0.mk (Kd.R_drew hb_)
  have HS := Aside0.mk (Kd.R_drew hs_)
  have HL := Aside0.mk hS_
  replace HB := Aside0.mk (below_drew1 HB.out)
  have p1 : (148 : Int) ≤ (xs1.length : Int) := by have := H7.out; omega
  have p4 : ¬ cp = 148 := by have := H7.out; have := HC.out; omega
  have p5 : 148 ≤ xs1.length := by have := H7.out; omega
  have p2 : xs1.length ≤ cp := HC.out
  have p3 : 148 ≤ cp := by omega
  clear HP hb_ hs_ hS_ H1 H6 c1 c2
  refine start_ (n := 6) (S := fun _ => True) (ds := []) #[false, false, false, false, false, false] (by kernel_rfl) rfl rfl trivial (fun _ => ?_)
  replace HL := Aside0.mk (show S ≤ w6.drew.heap.size from HL.out)
  generalize w6.drew = w7 at HO HS HL HB ⊢
  refine pure_ (i := 0) (N := some 81) (v := ?_) (a' := ?_) #[true, false, false, false, false, false] rfl rfl (by kernel_rfl) (fun _ _ _ h => h) (Or.inl ⟨by rfl, ?_⟩) ?_ ?_
  rotate_left
  · intro w'
    go_simp
    with_reducible rfl
  rotate_left
  · simp only [Act.put, List.setIfInBounds_toArray, List.set_cons_zero, List.set_cons_succ, i64_w, i32_w]
    rfl
  refine pure_ (i := 1) (N := some 82) (v := ?_) (a' := ?_) #[true, true, false, false, false, false] rfl rfl (by kernel_rfl) (fun _ _ _ h => h) (Or.inl ⟨by rfl, ?_⟩) ?_ ?_
  rotate_left
  · intro w'
    go_simp
    with_reducible rfl
  rotate_left
  · simp only [Act.put, List.setIfInBounds_toArray, List.set_cons_zero, List.set_cons_succ, i64_w, i32_w]
    rfl
  refine pure_ (i := 2) (N := some 83) (v := ?_) (a' := ?_) #[true, true, true, false, false, false] rfl rfl (by kernel_rfl) (fun _ _ _ h => h) (Or.inl ⟨by rfl, ?_⟩) ?_ ?_
  rotate_left
  · intro w'
    go_simp
    with_reducible rfl
  rotate_left
  · simp only [Act.put, List.setIfInBounds_toArray, List.set_cons_zero, List.set_cons_succ, i64_w, i32_w]
    rfl
  refine one_ (i := 3) (N := some 84) #[true, true, true, true, false, false] rfl rfl (by kernel_rfl) (by decide) (fun K hK => ?_)
  refine event_step (v := .slice (some ⟨w7.heap.size, 0, none⟩) 1 1) (w1 := w7.alloc (.cells #[.int .u8 32] 5)) (by rfl) (by go_simp) ?_
  refine hK.out _ _ trivial (fun _ => ?_)
  clear hK K
  refine norm_ (a' := ?_) ?_ ?_
  rotate_left
  · show Act.put _ (some 84) _ = _
    simp only [Act.put, List.setIfInBounds_toArray, List.set_cons_zero, List.set_cons_succ, i64_w, i32_w]
    rfl
  refine one_ (i := 4) (N := some 85) #[true, true, true, true, true, false] rfl rfl (by kernel_rfl) (by decide) (fun K hK => ?_)
  refine Kd.R_append_step (Kd.int .u8) (w0 := w) w.heap.size (by rfl) (.tmp 83) (.tmp 84) 22 5 (.int .u8 0) 1 rfl Tryd.underlying22 info5 rfl (by decide) (by omega) _ r1 32 [.int .u8 32] (fun k => S ≤ k) (fun _ => False) rfl rfl rfl (fun _ hk => hk.elim) (fun _ hk => Nat.le_trans HL.out hk) HS.out HB.out HB.out.size (by have := H7.out; have := H8.out; omega) ?_
  intro v1 w8 ho hb hg hat
  have HO1 := Aside0.mk (Kd.R_grown HO.out hg (fun k hk he => Nat.lt_irrefl _ (Nat.lt_of_lt_of_le hk (HS.out.1 k he.symm))))
  obtain ⟨A1, c1, e_⟩ := Kd.R_slice ho
  subst e_
  have HY := Aside0.mk (Kd.R_reads' ho).2.2
  replace HB := Aside0.mk hb
  clear ho hb hg hat HO HS HL
  refine hK.out _ _ trivial (fun _ => ?_)
  clear hK K
  refine norm_ (a' := ?_) ?_ ?_
  rotate_left
  · show Act.put _ (some 85) _ = _
    simp only [Act.put, List.setIfInBounds_toArray, List.set_cons_zero, List.set_cons_succ, i64_w, i32_w]
    rfl
  refine one_ (i := 5) (N := some 86) #[true, true, true, true, true, true] rfl rfl (by kernel_rfl) (by decide) (fun K hK => ?_)
  refine copy_at_step (w0 := w) w.heap.size (by rfl) (.tmp 82) (.tmp 85) 22 22 5 rfl Tryd.underlying22 (by kernel_rfl) g 148 (xs1.length - 148) cp (cp - 148) xs1 (r1 ++ [32]) A1 _ c1 _ rfl rfl HO1.out HY.out (by omega) (by have := H7.out; simp; omega) (by simp) HB.out HB.out.size ?_
  intro w9 ho hb hg
  replace HB := Aside0.mk hb
  have HO2 := Aside0.mk (Kd.R_mono (ok' := fun _ => True) ho (fun _ _ => trivial))
  clear ho hb hg HO1
  refine hK.out _ _ trivial (fun _ => ?_)
  clear hK K
  refine done_ (by kernel_rfl) ?_
  go_wp2
  go_ret2
  have e : 149 + r1.length = 148 + (r1 ++ [32]).length := by simp; omega
  rw [e]
  exact ⟨_, rfl, HO2.out, HB.out⟩
end Go.Proofs.YtkcmkgkkddgicaaDoor.R

/- header.Put: what it answers, in one contract. -/
set_option linter.unusedVariables false
set_option linter.unusedSimpArgs false
namespace Go.Proofs.YtkcmkgkkddgicaaDoor.R
open Go.RowKit Go.Proofs.YtkcmkgkkddgicaaDoorW.PrintWords Go.Proofs.YtkcmkgkkddgicaaDoorW.PrintLast Go.Proofs.YtkcmkgkkddgicaaDoorW.PrintMore
set_option maxRecDepth 100000 in
set_option maxHeartbeats 2000000 in
theorem header_Put.bad (a0 : ByteArray) (a1 : Int) (p q : ByteArray) (e : Int) (w : World) (h1 : path_Split.f a0 = some (p, q, e)) (he : ¬ e = 0) :
    Calls Tryd.prog 17 #[.string a0, .int .i64 a1] w fun ex w' => ∃ v0_ : Value, ex = .returned (.tuple #[v0_, .int .i64 e]) ∧ Kd.R (Kd.int .u8) 5 w' w.heap.size (fun _ => True) v0_ [] ∧ Below w.heap.size w w' := by
  have H1 := Aside0.mk h1
  have c1 : (e == 0) = false := by simpa using he
  clear h1
  go_enter Tryd.func17, Tryd.ntmps17
  go_wp2_with (first
    | (go_at_call 34; refine (path_Split.calls _ _ _ _ _ H1.out).mono ?_; rintro e w1 ⟨rfl, hb⟩; have HB := Aside0.mk hb; clear hb))
  go_ret2
  exact ⟨_, rfl, Kd.R_nil _ _ _ _ _, HB.out⟩
set_option maxRecDepth 100000 in
set_option maxHeartbeats 2000000 in
theorem header_Put.over (a0 : ByteArray) (a1 : Int) (p q : ByteArray) (w : World) (h1 : path_Split.f a0 = some (p, q, 0)) (h2 : a1 < 0 ∨ 4194304 < a1) :
    Calls Tryd.prog 17 #[.string a0, .int .i64 a1] w fun ex w' => ∃ v0_ : Value, ex = .returned (.tuple #[v0_, .int .i64 8]) ∧ Kd.R (Kd.int .u8) 5 w' w.heap.size (fun _ => True) v0_ [] ∧ Below w.heap.size w w' := by
  have H1 := Aside0.mk h1
  clear h1
  by_cases c1 : a1 < 0
  · clear h2
    go_enter Tryd.func17, Tryd.ntmps17
    go_wp2_with (first
      | (go_at_call 34; refine (path_Split.calls _ _ _ _ _ H1.out).mono ?_; rintro e w1 ⟨rfl, hb⟩; have HB := Aside0.mk hb; clear hb))
    go_ret2
    exact ⟨_, rfl, Kd.R_nil _ _ _ _ _, HB.out⟩
  · have c2 : 4194304 < a1 := by omega
    clear h2
    go_enter Tryd.func17, Tryd.ntmps17
    go_wp2_with (first
      | (go_at_call 34; refine (path_Split.calls _ _ _ _ _ H1.out).mono ?_; rintro e w1 ⟨rfl, hb⟩; have HB := Aside0.mk hb; clear hb))
    go_ret2
    exact ⟨_, rfl, Kd.R_nil _ _ _ _ _, HB.out⟩
theorem header_Put.calls (a0 : ByteArray) (a1 : Int) (r1 : List Int) (r2 : Int) (w : World) (h : header_Put.f a0 a1 = some (r1, r2)) :
    Calls Tryd.prog 17 #[.string a0, .int .i64 a1] w fun e w' => ∃ v0_ : Value, e = .returned (.tuple #[v0_, .int .i64 r2]) ∧ Kd.R (Kd.int .u8) 5 w' w.heap.size (fun _ => True) v0_ r1 ∧ Below w.heap.size w w' := by
  unfold header_Put.f at h
  obtain ⟨⟨p, q, e⟩, h1, h⟩ := Option.bind_eq_some_iff.1 h
  split at h
  · rename_i he
    obtain rfl : e = 0 := he
    split at h
    · rename_i h2
      obtain h := Option.some.inj h
      injection h with h3 h4
      subst h3 h4
      exact header_Put.over a0 a1 p q w h1 h2
    · rename_i h2
      obtain ⟨b, h4, h⟩ := Option.bind_eq_some_iff.1 h
      obtain ⟨c, h5, h⟩ := Option.bind_eq_some_iff.1 h
      obtain ⟨⟨s1, s2⟩, h6, h⟩ := Option.bind_eq_some_iff.1 h
      split at h
      · rename_i h7
        obtain h := Option.some.inj h
        injection h with h8 h9
        subst h8 h9
        exact header_Put.walk a0 a1 p q b c s1 s2 w h1 (by omega) (by omega) h4 h5 h6 h7.1 h7.2
      · cases h
  · rename_i he
    obtain h := Option.some.inj h
    injection h with h3 h4
    subst h3 h4
    exact header_Put.bad a0 a1 p q e w h1 he
end Go.Proofs.YtkcmkgkkddgicaaDoor.R
