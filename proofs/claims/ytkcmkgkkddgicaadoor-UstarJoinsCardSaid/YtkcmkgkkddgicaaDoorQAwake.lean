/- Texts of this claim joined in one. -/
import Derived.Test.YtkcmkgkkddgicaaDoorQUstar
import Derived.Lib.SlBytesConst
/- bindlelaw08.awake: the archive of nothing, and of a file; by evaluation. -/
set_option linter.unusedVariables false
set_option linter.unusedSimpArgs false
namespace Go.Proofs.YtkcmkgkkddgicaaDoor.R
open Go.RowKit Go.Proofs.YtkcmkgkkddgicaaDoorW.PrintWords Go.Proofs.YtkcmkgkkddgicaaDoorW.PrintLast Go.Proofs.YtkcmkgkkddgicaaDoorW.PrintMore
def fileA : S58 := ⟨⟨#[97]⟩, [120, 121, 122]⟩
def arcA : List Int := ((ustar_Put.f [fileA]).getD ([], 99)).1
theorem putNone : ustar_Put.f [] = some (Z1024, 0) := by kernel_rfl
theorem putA : ustar_Put.f [fileA] = some (arcA, 0) := by kernel_rfl
theorem arcA_length : arcA.length = 2048 := by kernel_rfl
theorem toListE : ByteArray.toList = fun b => b.data.toList := funext ByteArray.toList_eq
theorem headGetA : header_Get.f 1000 (arcA.take 512) = some (⟨#[97]⟩, 3, 0) := by
  unfold header_Get.f path_Join.f
  rw [toListE]
  kernel_rfl
theorem getA : ustar_Get.f arcA = some ([fileA], 0) := by
  unfold ustar_Get.f
  rw [arcA_length, getLoop, headGetA]
  kernel_rfl
end Go.Proofs.YtkcmkgkkddgicaaDoor.R

/- bindlelaw08.awake: the archive of nothing, and of a file. -/
set_option linter.unusedVariables false
set_option linter.unusedSimpArgs false
namespace Go.Proofs.YtkcmkgkkddgicaaDoor.R
open Go.RowKit Go.Proofs.YtkcmkgkkddgicaaDoorW.PrintWords Go.Proofs.YtkcmkgkkddgicaaDoorW.PrintLast Go.Proofs.YtkcmkgkkddgicaaDoorW.PrintMore
def bindlelaw08_awake.f : Option Bool := some true
theorem bytes_C (W : World) : Kd.C (Kd.int .u8) (W.alloc (.cells #[.int .u8 120, .int .u8 121, .int .u8 122] 5 (3, 4))) (some ⟨W.heap.size, 0, none⟩) 3 [120, 121, 122] := by
  have hn := World.alloc_heap_new W (.cells #[.int .u8 120, .int .u8 121, .int .u8 122] 5 (3, 4))
  refine Kd.C_of_reads (d := (0 : Int)) (h1 := fun _ => rfl) ⟨rfl, by decide, fun _ => ⟨_, rfl, fun j hj => ?_⟩⟩
  match j, hj with
  | 0, _ => unfold World.cell?; simp only [Addr.add_lit]; rw [hn]; rfl
  | 1, _ => unfold World.cell?; simp only [Addr.add_lit]; rw [hn]; rfl
  | 2, _ => unfold World.cell?; simp only [Addr.add_lit]; rw [hn]; rfl
  | n + 3, h => omega
theorem fileA_C {w : World} {A : Option Addr} {c : Nat} (h2 : Kd.C (Kd.int .u8) w A 3 [120, 121, 122]) (h1 : 3 ≤ c) :
    Kd.C k58 (w.alloc (.cells #[.string ⟨#[97]⟩, .slice A 3 c] 58)) (some ⟨w.heap.size, 0, none⟩) 1 [fileA] := by
  have hn := World.alloc_heap_new w (.cells #[.string ⟨#[97]⟩, .slice A 3 c] 58)
  refine ⟨rfl, by decide, fun _ => ⟨_, rfl, fun j p hp => ?_⟩⟩
  match j, hp with
  | 0, hp =>
    obtain rfl := Option.some.inj hp
    refine ⟨_, rfl, k58_mk _ fileA h1 (Kd.C_alloc h2 _), fun i u hu => ?_⟩
    match i, hu with
    | 0, hu => obtain rfl := Option.some.inj hu; unfold World.cell?; simp only [Addr.add_lit]; rw [hn]; rfl
    | 1, hu => obtain rfl := Option.some.inj hu; unfold World.cell?; simp only [Addr.add_lit]; rw [hn]; rfl
    | n + 2, hu => simp at hu
  | n + 1, hp => simp at hp
theorem fileA_C' {w : World} {A : Option Addr} {c g : Nat} (hg : w.heap.size = g) (h2 : Kd.C (Kd.int .u8) w A 3 [120, 121, 122]) (h1 : 3 ≤ c) :
    Kd.C k58 (w.alloc (.cells #[.string ⟨#[97]⟩, .slice A 3 c] 58)) (some ⟨g, 0, none⟩) 1 [fileA] := by
  subst hg; exact fileA_C h2 h1
theorem put_none (w : World) : Calls Tryd.prog 30 #[.slice none 0 0] w fun e w' => ∃ A c, e = .returned (.tuple #[.slice A 1024 c, .int .i64 0]) ∧ Below w.heap.size w w' := by
  refine (ustar_Put.calls none 0 [] Z1024 0 w ⟨rfl, by decide, fun h => absurd h (by decide)⟩ (Nat.le_refl _) putNone).mono ?_
  rintro e w' ⟨v, rfl, ho, hb⟩
  obtain ⟨A, c, e⟩ := Kd.R_slice ho
  subst e
  exact ⟨A, c, by rw [Z1024_length], hb⟩
theorem put_one (B : List Int) (putB : ustar_Put.f [fileA] = some (B, 0)) (B_length : B.length = 2048) (A : Option Addr) (c : Nat) (w : World) (hC : Kd.C k58 w A 1 [fileA]) (hc : 1 ≤ c) :
    Calls Tryd.prog 30 #[.slice A 1 c] w fun e w' => ∃ A' c', e = .returned (.tuple #[.slice A' 2048 c', .int .i64 0]) ∧ (2048 ≤ c' ∧ Kd.C (Kd.int .u8) w' A' 2048 B) ∧ Below w.heap.size w w' := by
  refine (ustar_Put.calls A c [fileA] B 0 w hC hc putB).mono ?_
  rintro e w' ⟨v, rfl, ho, hb⟩
  obtain ⟨A', c', e⟩ := Kd.R_slice ho
  subst e
  have h := (Kd.R_reads' ho).2
  rw [B_length] at h
  exact ⟨A', c', by rw [B_length], ⟨h.1, h.2⟩, hb⟩
theorem get_one (B : List Int) (getB : ustar_Get.f B = some ([fileA], 0)) (B_length : B.length = 2048) (A : Option Addr) (c : Nat) (w : World) (hC : Kd.C (Kd.int .u8) w A 2048 B) (hc : 2048 ≤ c) :
    Calls Tryd.prog 26 #[.slice A 2048 c] w fun e w' => ∃ ad c' Ax cx, e = .returned (.tuple #[.slice (some ad) 1 c', .int .i64 0]) ∧ w'.cell? ⟨ad.block, ad.off + 1, none⟩ = some (.slice Ax 3 cx) ∧ Kd.C (Kd.int .u8) w' Ax 3 [120, 121, 122] ∧ Below w.heap.size w w' := by
  have h := ustar_Get.calls A c B [fileA] 0 w (by rw [B_length]; exact hC) (by rw [B_length]; exact hc) getB
  rw [B_length] at h
  refine h.mono ?_
  rintro e w' ⟨v, rfl, ho, hb⟩
  obtain ⟨A5, c5, e5⟩ := Kd.S_slice ho
  subst e5
  obtain ⟨ad, Ax, cx, ea, x0, x1, xl, xc⟩ := file_at (Kd.S_reads' ho).2.2 0 fileA rfl (by decide)
  subst ea
  exact ⟨ad, c5, Ax, cx, rfl, by simpa [Addr.add_succ', fileA] using x1, xc, hb⟩
set_option maxRecDepth 100000 in
set_option maxHeartbeats 4000000 in
theorem awake08_walk (B : List Int) (putB : ustar_Put.f [fileA] = some (B, 0)) (B_length : B.length = 2048) (getB : ustar_Get.f B = some ([fileA], 0)) (w : World) : Calls Tryd.prog 25 #[] w fun e w' => e = .returned (.bool true) ∧ Below w.heap.size w w' := by
  have PO := Aside0.mk (put_one B putB B_length)
  have GO := Aside0.mk (get_one B getB B_length)
  clear putB getB B_length
  have HCC := Aside0.mk (fun W => Lib.run_convert_bytes_const (P := Tryd.prog) W 22 5 #[.int .u8 120, .int .u8 121, .int .u8 122] 3 3 Tryd.underlying22 Tryd.underlying5)
  have HB := Aside0.mk (Below.refl w.heap.size w)
  go_enter Tryd.func25, Tryd.ntmps25
  go_wp2_with (first
    | ((with_reducible refine gate_callee (f := 30) rfl ?_); refine goesL_ (some 8) rfl rfl Tryd.func30 (by kernel_rfl) rfl #[.slice none 0 0] rfl (by (try simp only [List.map_toArray, List.map_cons, List.map_nil]); first | done | rfl) ?_; (with_reducible refine (put_none _).mono ?_); rintro e w1 ⟨A1, c1, rfl, hb⟩; refine ⟨_, rfl, ?_⟩; replace HB := Aside0.mk hb; clear hb)
    | ((with_reducible refine gate_dst (N := 13) rfl ?_); refine Kd.event_run rfl (v := .slice (some ⟨w1.heap.size, 0, none⟩) 3 3) (w1 := w1.alloc (.cells #[.int .u8 120, .int .u8 121, .int .u8 122] 5 (3, 4))) (by go_simp; rw [HCC.out w1]; rfl) ?_)
    | ((with_reducible refine gate_callee (f := 30) rfl ?_); refine goesL_ (some 16) rfl rfl Tryd.func30 (by kernel_rfl) rfl #[.slice (some ⟨w1.heap.size + 1, 0, none⟩) 1 1] rfl (by (try simp only [List.map_toArray, List.map_cons, List.map_nil]); first | done | rfl) ?_; refine (PO.out _ _ _ (fileA_C' (by simp) (bytes_C w1) (Nat.le_refl 3)) (Nat.le_refl 1)).mono ?_; rintro e w3 ⟨A3, c3, rfl, h3, hb⟩; refine ⟨_, rfl, ?_⟩; have HA := Aside0.mk h3; have n0_ := Aside0.mk (below_step ((HB.out.alloc HB.out.size _).alloc (by have := HB.out.size; simp; omega) _) hb); clear HB; have HB := n0_; clear n0_ h3 hb)
    | ((with_reducible refine gate_callee (f := 26) rfl ?_); refine goesL_ (some 21) rfl rfl Tryd.func26 (by kernel_rfl) rfl #[.slice A3 2048 c3] rfl (by (try simp only [List.map_toArray, List.map_cons, List.map_nil]); first | done | rfl) ?_; refine (GO.out _ _ _ HA.out.2 HA.out.1).mono ?_; rintro e w4 ⟨ad, c5, Ax, cx, rfl, x1, xc, hb⟩; refine ⟨_, rfl, ?_⟩; have hcv := Kd.C_string (P := Tryd.prog) (c := cx) Tryd.underlying22 Tryd.underlying5 Tryd.underlying9 xc; have n0_ := Aside0.mk (below_step HB.out hb); clear HB; have HB := n0_; clear n0_ hb xc; have hse : ((strOfNums [120, 121, 122]).toList == [120, 121, 122]) = true := (by rw [ByteArray.toList_eq]; decide))
    )
  go_ret
  exact ⟨by first | rfl | (simp [*] <;> rfl), by repeat (first | (with_reducible first | exact HB.out | apply below_alloc | apply pw_below_drewN | apply below_drew1) | exact HB.out)⟩
theorem bindlelaw08_awake.calls (r : Bool) (w : World) (h : bindlelaw08_awake.f = some r) : Calls Tryd.prog 25 #[] w fun e w' => e = .returned (.bool r) ∧ Below w.heap.size w w' := by
  obtain rfl := Option.some.inj h
  exact awake08_walk arcA putA arcA_length getA w
end Go.Proofs.YtkcmkgkkddgicaaDoor.R
