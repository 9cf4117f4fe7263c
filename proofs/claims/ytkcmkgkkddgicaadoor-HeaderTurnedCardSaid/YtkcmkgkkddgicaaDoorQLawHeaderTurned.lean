/- bindle/bindlelaw07.HeaderTurned: the row and its tied card: for every input the law returns true, and each argument reads as it did. Conditions: the row's own (its listed variables as the program's text lays them). -/
import Derived.Test.YtkcmkgkkddgicaaDoorTie
import Derived.Test.YtkcmkgkkddgicaaDoorCards
import Derived.Test.YtkcmkgkkddgicaaDoorQWords
import Derived.Test.YtkcmkgkkddgicaaDoorQPL7Turned
import Derived.Lib.SmallJoins
import Derived.WalkKit
import Derived.ProofKit
import Derived.OpenShut
import Derived.ShutString
import Derived.ChangeOld
import Derived.Below
import Derived.SizedLaws
import Derived.LaidMore
import Derived.Lay
import Derived.SevenTiedAt
import Derived.Stop.Joined
set_option linter.unusedVariables false
set_option linter.unusedSimpArgs false
namespace Go.Proofs.YtkcmkgkkddgicaaDoor.headerTurned
open Go.ChangeShapes Go.WideShapes Go.ChangeAt Go.RowKit
open Go.ChangeMaps (open_string shut_string)
open Go.Joins
open Go.Proofs.YtkcmkgkkddgicaaDoorW Go.Proofs.YtkcmkgkkddgicaaDoorW.PrintWords
theorem own : ownKnob Tryd.prog.godebug = none := by kernel_rfl
theorem laidOut : laidOutB Tryd.prog = true := by kernel_rfl
def IsRow (k : IntKind) (w : World) (a : Option Addr) (len cap : Nat) (zs : List Int) : Prop :=
  (a = none ∧ len = 0 ∧ cap = 0 ∧ zs = []) ∨
  ∃ x, a = some x ∧ len ≤ cap ∧ cap ≤ maxLen ∧ zs.length = cap ∧ (∀ i, i < zs.length → w.cell? (x.add i) = some (.int k (zs.getD i 0))) ∧ ∀ n ∈ zs, (Lit.int k n).wf = true
set_option maxRecDepth 100000 in
theorem lifted (os : Os) (started : os.Started) (H : Type) (enc : TypeId × Value → H) :
    ReturnsInHanded {} Tryd.checked os 5 .any (fun w args => (Rows.headerTurnedSpec.pre enc Tryd.prog Tryd.f5 Rows.headerTurnedRow.domain false w args ∧ laidMetH Tryd.prog Rows.headerTurnedRow.laid w) ∧ sizedMet enc Tryd.prog Tryd.f5 (OpenSpec.ofChange Rows.headerTurnedSpec) false w args)
      (Rows.headerTurnedSpec.post enc Tryd.prog Tryd.f5 false true false false) := by
  refine returnsInHanded_of_change_and (C := Tryd.checked) (X := fun w _ => laidMetH Tryd.prog Rows.headerTurnedRow.laid w) (fun _ _ _ hh h => h.of_heap hh) own started (by kernel_rfl) Tryd.func5
    (ChangeSpec.witness_shaped (enc := enc) (C := Tryd.checked) (os := os) (X := fun w _ => laidMetH Tryd.prog Rows.headerTurnedRow.laid w) false (World.laidAll Tryd.prog os Rows.headerTurnedRow.laid) #[.agg #[.string ByteArray.empty, .int .i64 0, .int .u16 0, .int .u8 0]] 8 (World.laidAll_os _ _ _)
      (World.shaped_of_ZipB (by kernel_rfl) (by kernel_rfl)) (by kernel_rfl) (by kernel_rfl) (by kernel_rfl)
      (by rw [MakeChecks.laidMetH_plain _ _ _ (by kernel_rfl)]; exact laidMet_laidAll _ (by kernel_rfl) (by kernel_rfl))) ?_
  intro W base args ds gs before hval0 hW hcnd hsz0 hL _
  have hsz : (DataW.weightsEach Tryd.prog (Tryd.f5.params.toList ++ Rows.headerTurnedSpec.plain.varTypes Tryd.prog) (ds ++ gs)).all (· ≤ reachBytes) = true := hsz0
  have hval : ∀ (j : Nat) t v, Tryd.f5.params[j]? = some t → args[j]? = some v → Value.okWide Tryd.prog W .any base t v := hval0
  have hW' := hW
  obtain ⟨p, q, hA0, hV, rfl, hfz, hnd⟩ := hW
  have hA : DataW.TrodAll enc Tryd.prog W 0 (fun _ => true) true Tryd.f5.params.toList args.toList ds p := hA0
  rw [Tryd.params5] at hA hval hsz
  obtain ⟨v0, vs0, d0, ds0, p0, q0, hargs, rfl, rfl, h0, r0⟩ := trodAll_cons hA
  obtain ⟨rfl, rfl, rfl⟩ := trodAll_nil r0
  obtain rfl : args = #[v0] := by cases args; simp_all
  obtain ⟨rfl, rfl⟩ := trodVars_none hV
  have k0 := h0
  have lt0 : ∀ x ∈ p0, x.block < W.heap.size := by obtain ⟨m, hm⟩ := k0; exact DataW.trod_lt m _ _ _ hm
  obtain ⟨u0, u1, u2, u3, ⟨e0, q0_⟩, ⟨e1, q1_⟩, ⟨e2, q2_⟩, ⟨e3, q3_⟩, n_, rfl, rfl, rfl, t0, t1, t2, t3⟩ := open_agg4 Tryd.underlying36 (by kernel_rfl) (by kernel_rfl) (hval 0 36 v0 rfl rfl) h0
  obtain ⟨b0, c0, x0, s0⟩ := DataW.trod_string Tryd.underlying9 t0
  obtain ⟨b1, c1, x1, s1⟩ := DataW.trod_int Tryd.underlying3 t1
  obtain ⟨b2, c2, x2, s2⟩ := DataW.trod_int Tryd.underlying34 t2
  obtain ⟨b3, c3, x3, s3⟩ := DataW.trod_int Tryd.underlying5 t3
  obtain rfl := List.singleton_inj.1 c0
  obtain rfl := List.singleton_inj.1 c1
  obtain rfl := List.singleton_inj.1 c2
  obtain rfl := List.singleton_inj.1 c3
  obtain ⟨rfl, rfl⟩ := Prod.mk.inj x0
  have g0 : b0.size ≤ 140737488351232 := by
    have z := List.all_eq_true.1 hsz _ (DataW.weights_mem_each (j := 0) (t := 36) rfl rfl b0.data.toList.length (by simp [DataW.weights, Tryd.underlying36, DataW.weightsEach]))
    rw [Array.length_toList] at z
    exact of_decide_eq_true z
  clear hA0 hval0 hsz0 hsz
  obtain ⟨k, hk⟩ := R.pHeaderTurned b0 b1 b2 b3 g0 (R.u16_wf s2) (R.u8_wf s3)
  refine (R.bindlelaw07_HeaderTurned.calls k b0 b1 b2 b3 true W hk).mono ?_
  rintro e W' ⟨he, bel⟩
  subst he
  exact ⟨_, rfl, _, _, _, [], _, [], hW', trodAll_mk1 (shut_bool Tryd.underlying4 _), (trodAll_cons_mk (Below.trod laidOut (by kernel_rfl) (of_decide_eq_true (by kernel_rfl)) k0 bel lt0) trodAll_mk0), rfl, bel.frame _, fun h => by cases h⟩
theorem over : Rows.HeaderTurnedSaid :=
  OpenClaim.holds_of_wide 5 Tryd.f5 rfl rfl rfl rfl rfl rfl rfl ⟨rfl, rfl, rfl, rfl, rfl⟩ rfl rfl rfl rfl rfl (by kernel_rfl) Tryd.func5 (by kernel_rfl)
    (of_decide_eq_true (by kernel_rfl)) (by unfold Func.isWrapper; first | (rw [if_pos (by decide +kernel)]; kernel_rfl) | (rw [if_neg (by decide +kernel)]; exact ⟨rfl, rfl⟩))
    (fun os started H enc _ => lifted os started H enc)
theorem proved : Rows.HeaderTurnedCardSaid :=
  Claim7.holds_tied_plain_at .later [] [.data, .pinned] true (true, "97ffa361039ba36d652e1989d233ad703fdab434f2f193c25032f50b26bf7578") false over (fun _ h => by cases h) (by kernel_rfl) (fun _ h => by cases h) headerTurned_row_tie rfl ⟨rfl, rfl⟩ (by kernel_rfl) rfl
    (fun f fn hf hfn => by
      obtain rfl : f = 5 := Option.some.inj ((show Tryd.prog.funcNamed "bindle/bindlelaw07.HeaderTurned" = some 5 by kernel_rfl).symm.trans hf) |>.symm
      obtain rfl : fn = Tryd.f5 := (Option.some.inj (Tryd.func5.symm.trans hfn)).symm
      exact ⟨by kernel_rfl, fun j t ht => by
        rw [Tryd.params5] at ht
        have hm : t ∈ [36] := by simpa using Array.mem_of_getElem? ht
        have hall : ([36].all fun u => !Tryd.prog.wantsStandIn u) = true := by kernel_rfl
        exact (show Tryd.prog.wantsStandIn t = false by simpa using List.all_eq_true.1 hall t hm)⟩)
    (by kernel_rfl)
end Go.Proofs.YtkcmkgkkddgicaaDoor.headerTurned
namespace Go.Proofs.YtkcmkgkkddgicaaDoor
/-- The card, under a short name, for the claim. -/
theorem headerTurned_holds : Rows.HeaderTurnedCardSaid := headerTurned.proved
#print axioms headerTurned_holds
end Go.Proofs.YtkcmkgkkddgicaaDoor
