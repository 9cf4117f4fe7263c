/- Texts of this claim joined in one. -/
import Derived.Test.YtkcmkgkkddgicaaDoorQPlain
import Derived.Test.YtkcmkgkkddgicaaDoorQUstar
import Derived.Test.YtkcmkgkkddgicaaDoorQBase
import Derived.Test.YtkcmkgkkddgicaaDoorQAwake
import Derived.Test.YtkcmkgkkddgicaaDoorQWords
import Derived.Deep.SlicePairs
import Derived.OpenShut
import Derived.ProofKit
/- Plain laws of archives: what is put, what is got, and that no beginning of an archive is one. -/
set_option linter.unusedVariables false
set_option linter.unusedSimpArgs false
namespace Go.Proofs.YtkcmkgkkddgicaaDoor.R
open Go Go.RowKit Go.Proofs.YtkcmkgkkddgicaaDoorW.PrintWords Go.Proofs.YtkcmkgkkddgicaaDoorW.PrintLast Go.Proofs.YtkcmkgkkddgicaaDoorW.PrintMore
def headOf (f : S58) : List Int × Int := hput f.f0 (f.f1.length : Int)
def FOk (f : S58) : Prop := (headOf f).2 = 0
def padOf (f : S58) : List Int := List.replicate (rnd f.f1.length - f.f1.length) 0
def entry (f : S58) : List Int := (headOf f).1 ++ (f.f1 ++ padOf f)
def arcs : List S58 → List Int
  | [] => []
  | f :: r => entry f ++ arcs r
theorem arcs_app (l m : List S58) : arcs (l ++ m) = arcs l ++ arcs m := by
  induction l with
  | nil => rfl
  | cons f r ih => simp only [List.cons_append, arcs, ih, List.append_assoc]
theorem head_ok {f : S58} (h : FOk f) : hput f.f0 (f.f1.length : Int) = ((headOf f).1, 0) := by unfold FOk headOf at h; unfold headOf; rw [← h]
theorem rnd_ge' (n : Nat) : n ≤ rnd n := by unfold rnd; omega
theorem rnd_mod (n : Nat) : rnd n % 512 = 0 := by unfold rnd; omega
theorem entry_len {f : S58} (h : FOk f) : (entry f).length = 512 + rnd f.f1.length := by
  have := rnd_ge' f.f1.length
  unfold entry padOf
  rw [List.length_append, List.length_append, List.length_replicate, hput_len (head_ok h)]; omega
theorem arcs_mod : ∀ (l : List S58), (∀ f ∈ l, FOk f) → (arcs l).length % 512 = 0
  | [], _ => rfl
  | f :: r, h => by
    have h1 := arcs_mod r (fun g hg => h g (List.mem_cons_of_mem _ hg))
    have h2 := rnd_mod f.f1.length
    rw [arcs, List.length_append, entry_len (h f (List.mem_cons_self ..))]; omega
theorem Z_len : Z1024.length = 1024 := by unfold Z1024; rw [List.length_replicate]
/-- the first file's error, in the list's order -/
def badOf : List S58 → Int
  | [] => 0
  | f :: r => if (headOf f).2 = 0 then badOf r else (headOf f).2
theorem bad_none : ∀ l : List S58, badOf l = 0 ↔ ∀ f ∈ l, FOk f
  | [] => by simp [badOf]
  | f :: r => by
    have ih := bad_none r
    unfold badOf
    constructor
    · intro h g hg
      split at h
      · rename_i h0
        rcases List.mem_cons.1 hg with rfl | hg
        · exact h0
        · exact ih.1 h g hg
      · rename_i h0; exact absurd h h0
    · intro h
      rw [if_pos (show (headOf f).2 = 0 from h f (List.mem_cons_self ..))]
      exact ih.2 (fun g hg => h g (List.mem_cons_of_mem _ hg))
theorem bad_app (l m : List S58) : badOf (l ++ m) = if badOf l = 0 then badOf m else badOf l := by
  induction l with
  | nil => simp [badOf]
  | cons f r ih =>
    simp only [List.cons_append, badOf]
    split
    · exact ih
    · rfl
/-- ustar.Put's answer -/
noncomputable def uput (l : List S58) : List Int × Int :=
  open Classical in if 400 < l.length ∨ 4194304 < sizes l then ([], 5) else if badOf l ≠ 0 then ([], badOf l) else if (l.map (·.f0)).Nodup then (arcs l ++ Z1024, 0) else ([], 7)
structure UOk (l : List S58) (b : List Int) : Prop where
  len : l.length ≤ 400
  sz : sizes l ≤ 4194304
  ok : ∀ f ∈ l, FOk f
  nd : (l.map (·.f0)).Nodup
  b : b = arcs l ++ Z1024
theorem uput_ok {l : List S58} {b : List Int} : uput l = (b, 0) ↔ UOk l b := by
  constructor
  · intro h
    unfold uput at h
    split at h
    · simp at h
    · split at h
      · rename_i h1 h2
        simp only [Prod.mk.injEq] at h
        exact absurd h.2 h2
      · split at h
        · rename_i h1 h2 h3
          simp only [Prod.mk.injEq, and_true] at h
          exact ⟨by omega, by omega, (bad_none l).1 (by omega), h3, h.symm⟩
        · simp at h
  · intro h
    have h1 := h.len
    have h2 := h.sz
    unfold uput
    rw [if_neg (by omega), if_neg (by simp [(bad_none l).2 h.ok]), if_pos h.nd, h.b]
def keys (l : List ByteArray) : List ByteArray := l.foldl addName []
theorem any_dec {ks : List ByteArray} {k : ByteArray} : ks.any (fun x => decide (x = k)) = true ↔ k ∈ ks := by
  rw [List.any_eq_true]
  constructor
  · rintro ⟨x, hx, h⟩
    rw [← of_decide_eq_true h]; exact hx
  · intro h; exact ⟨k, h, decide_eq_true rfl⟩
theorem keys_snoc (l : List ByteArray) (k : ByteArray) : keys (l ++ [k]) = addName (keys l) k := by unfold keys; rw [List.foldl_append]; rfl
theorem nodup_snoc {l : List ByteArray} {k : ByteArray} : (l ++ [k]).Nodup ↔ l.Nodup ∧ k ∉ l := by
  rw [List.nodup_append]
  constructor
  · rintro ⟨h1, h2, h3⟩
    exact ⟨h1, fun hm => h3 k hm k (List.mem_singleton.2 rfl) rfl⟩
  · rintro ⟨h1, h2⟩
    exact ⟨h1, by simp, fun a ha b hb e => by obtain rfl := List.mem_singleton.1 hb; subst e; exact h2 ha⟩
theorem keys_spec : ∀ (n : Nat) (l : List ByteArray), l.length = n → (∀ x, x ∈ keys l ↔ x ∈ l) ∧ (keys l).length ≤ l.length ∧ ((keys l).length < l.length ↔ ¬ l.Nodup)
  | 0, l, h => by
    obtain rfl := List.length_eq_zero_iff.1 h
    exact ⟨fun x => Iff.rfl, Nat.le_refl _, by simp [keys]⟩
  | n + 1, l, h => by
    rcases List.eq_nil_or_concat l with rfl | ⟨r, k, rfl⟩
    · simp at h
    · rw [List.concat_eq_append] at h ⊢
      obtain ⟨h1, h2, h3⟩ := keys_spec n r (by simpa using h)
      rw [keys_snoc, nodup_snoc]
      unfold addName
      by_cases hk : k ∈ r
      · rw [if_pos (any_dec.2 ((h1 k).2 hk))]
        refine ⟨fun x => ?_, by simp only [List.length_append]; omega, ?_⟩
        · rw [h1 x, List.mem_append, List.mem_singleton]
          constructor
          · exact .inl
          · rintro (h | rfl)
            · exact h
            · exact hk
        · simp only [List.length_append, List.length_singleton]
          constructor
          · rintro - ⟨-, h⟩; exact h hk
          · intro _; omega
      · rw [if_neg (fun h => hk ((h1 k).1 (any_dec.1 h)))]
        refine ⟨fun x => ?_, by simp only [List.length_append]; omega, ?_⟩
        · rw [List.mem_append, List.mem_append, h1 x]
        · simp only [List.length_append, List.length_singleton]
          constructor
          · rintro h ⟨h4, -⟩; exact (h3.1 (by omega)) h4
          · intro h
            have := h3.2 (fun h4 => h ⟨h4, hk⟩)
            omega
theorem keys_lt (l : List S58) : (keys (l.map (·.f0))).length < l.length ↔ ¬ (l.map (·.f0)).Nodup := by
  have := (keys_spec _ (l.map (·.f0)) rfl).2.2
  rwa [List.length_map] at this
theorem sizes_snoc' (l : List S58) (f : S58) : sizes (l ++ [f]) = sizes l + f.f1.length := by unfold sizes; simp
theorem sizes_app (l m : List S58) : sizes (l ++ m) = sizes l + sizes m := by unfold sizes; simp
/-- what a beginning of the files, and what is left, come to -/
def Comes (l m : List S58) (b : List Int) : Prop := UOk (l ++ m) (arcs (l ++ m) ++ Z1024) ∧ b = arcs m ++ Z1024
theorem Comes.len {l m : List S58} {b : List Int} (h : Comes l m b) : b.length % 512 = 0 ∧ 1024 ≤ b.length := by
  have := arcs_mod m (fun f hf => h.1.ok f (List.mem_append_right _ hf))
  rw [h.2, List.length_append, Z_len]; omega
theorem Comes.cons {l m : List S58} {b : List Int} (h : Comes l m b) (hb : b.length ≠ 1024) : ∃ f r, m = f :: r ∧ FOk f ∧ b = entry f ++ (arcs r ++ Z1024) := by
  cases m with
  | nil => exact absurd (by rw [h.2, arcs, List.nil_append, Z_len]) hb
  | cons f r => exact ⟨f, r, rfl, h.1.ok f (List.mem_append_right _ (List.mem_cons_self ..)), by rw [h.2, arcs, List.append_assoc]⟩
theorem Comes.nil {l m : List S58} {b : List Int} (h : Comes l m b) (hb : b.length = 1024) : m = [] := by
  cases m with
  | nil => rfl
  | cons f r =>
    have h2 := h.2
    have hf := entry_len (h.1.ok f (List.mem_append_right _ (List.mem_cons_self ..)))
    have := congrArg List.length h2
    rw [arcs, List.length_append, List.length_append, hf, Z_len] at this
    omega
/-- paths of a size that strings have -/
def Sane (l : List S58) : Prop := ∀ f ∈ l, f.f0.size ≤ 9223372036854775807
theorem arcs_le : ∀ l : List S58, (∀ f ∈ l, FOk f) → (arcs l).length ≤ 1023 * l.length + sizes l
  | [], _ => by simp [arcs]
  | f :: r, h => by
    have ih := arcs_le r (fun g hg => h g (List.mem_cons_of_mem _ hg))
    have : rnd f.f1.length ≤ f.f1.length + 511 := by unfold rnd; omega
    rw [arcs, List.length_append, entry_len (h f (List.mem_cons_self ..)), List.length_cons]
    have e : sizes (f :: r) = f.f1.length + sizes r := by unfold sizes; simp
    omega
theorem putLoop_eq : ∀ (r l : List S58), Sane r → (∀ f ∈ l, FOk f) → (arcs l).length + 1023 * r.length + sizes r ≤ 80000000 →
    ∃ b ks, putLoop r (arcs l) (keys (l.map (·.f0))) = some (b, ks, badOf r) ∧ (badOf r = 0 → b = arcs (l ++ r) ∧ ks = keys ((l ++ r).map (·.f0)))
  | [], l, _, _, _ => ⟨_, _, rfl, fun _ => by rw [List.append_nil]; exact ⟨rfl, rfl⟩⟩
  | f :: r, l, hs, hl, hb => by
    unfold putLoop badOf
    rw [header_Put_eq _ _ (hs f (List.mem_cons_self ..))]
    simp only [Option.bind_some]
    by_cases h : (headOf f).2 = 0
    · rw [if_pos h, if_pos (show (hput f.f0 (f.f1.length : Int)).2 = 0 from h)]
      have e : sizes (f :: r) = f.f1.length + sizes r := by unfold sizes; simp
      rw [e, List.length_cons] at hb
      have hh := hput_len (head_ok h)
      have hrl : rnd f.f1.length ≤ f.f1.length + 511 := by unfold rnd; omega
      rw [if_pos (by have : (hput f.f0 (f.f1.length : Int)).1.length = 512 := hh; omega)]
      have ea : arcs l ++ ((hput f.f0 (f.f1.length : Int)).1 ++ (f.f1 ++ List.replicate (rnd f.f1.length - f.f1.length) 0)) = arcs (l ++ [f]) := by
        rw [arcs_app]; simp only [arcs, List.append_nil]; rfl
      have ek : addName (keys (l.map (·.f0))) f.f0 = keys ((l ++ [f]).map (·.f0)) := by rw [List.map_append, List.map_singleton, keys_snoc]
      rw [ea, ek]
      obtain ⟨b, ks, h1, h2⟩ := putLoop_eq r (l ++ [f]) (fun g hg => hs g (List.mem_cons_of_mem _ hg)) (fun g hg => by rcases List.mem_append.1 hg with hg | hg; exact hl g hg; rw [List.mem_singleton.1 hg]; exact h)
        (by rw [arcs_app, List.length_append]; simp only [arcs, List.append_nil]; rw [entry_len h]; omega)
      refine ⟨b, ks, h1, fun h0 => ?_⟩
      have := h2 h0
      rwa [List.append_assoc, List.singleton_append] at this
    · rw [if_neg h, if_neg (show ¬ (hput f.f0 (f.f1.length : Int)).2 = 0 from h)]
      exact ⟨_, _, rfl, fun h0 => absurd h0 h⟩
theorem ustar_Put_eq (l : List S58) (hs : Sane l) (h1 : l.length ≤ 100000) (h2 : sizes l ≤ 100000000) : ustar_Put.f l = some (uput l) := by
  unfold ustar_Put.f uput
  rw [if_pos ⟨h1, h2⟩]
  by_cases h : 400 < l.length ∨ 4194304 < sizes l
  · rw [if_pos h, if_pos h]
  rw [if_neg h, if_neg h]
  obtain ⟨b, ks, e, hb⟩ := putLoop_eq l [] hs (by simp) (by simp [arcs]; omega)
  simp only [arcs, List.map_nil] at e
  rw [show keys [] = [] from rfl] at e
  rw [e]
  simp only [Option.bind_some]
  by_cases h0 : badOf l = 0
  · obtain ⟨rfl, rfl⟩ := hb h0
    rw [if_pos h0, if_neg (not_not_intro h0)]
    rw [List.nil_append]
    by_cases hn : (l.map (·.f0)).Nodup
    · rw [if_pos hn, if_neg (fun h => (keys_lt l).1 h hn)]
    · rw [if_neg hn, if_pos ((keys_lt l).2 hn)]
  · rw [if_neg h0, if_pos h0]
end Go.Proofs.YtkcmkgkkddgicaaDoor.R

namespace Go.Proofs.YtkcmkgkkddgicaaDoor.R
open Go.RowKit Go.Proofs.YtkcmkgkkddgicaaDoorW.PrintWords Go.Proofs.YtkcmkgkkddgicaaDoorW.PrintLast Go.Proofs.YtkcmkgkkddgicaaDoorW.PrintMore
attribute [local go_sem] max2_int min2_int max_two min_two max_three min_three max_four min_four   -- for this text's walks alone
set_option linter.unusedVariables false
set_option linter.unusedSimpArgs false

/-! ### bindlelaw08_small: function 29 -/
def bindlelaw08_small.l0 : Nat → List (S58) → Int → Int → Option (Bool)
  | 0, _, _, _ => none
  | k + 1, x0, x3, x4 => if x4 < (x0.length : Int) then (if x4 < 41 then (if 0 ≤ x4 then (bindlelaw08_small.l0 k x0 (wrap64 (x3 + (((rd_T58 x0 x4).f1).length : Int))) (wrap64 (x4 + 1))) else (none)) else (if (x0.length : Int) ≤ 40 then (some (decide (x3 ≤ 20000))) else (some false))) else (if (x0.length : Int) ≤ 40 then (some (decide (x3 ≤ 20000))) else (some false))
def bindlelaw08_small.f (k : Nat) (l0 : List (S58)) : Option (Bool) := bindlelaw08_small.l0 k l0 0 0
theorem bindlelaw08_small.mono_l : ∀ k, (∀ y0 y1 y2, LeO (bindlelaw08_small.l0 k y0 y1 y2) (bindlelaw08_small.l0 (k + 1) y0 y1 y2))
  | 0 => fun _ _ _ r h => by simp [bindlelaw08_small.l0] at h
  | k + 1 => by
    have ih0 := bindlelaw08_small.mono_l k
    · intro y0 y1 y2
      unfold bindlelaw08_small.l0
      repeat' first
      | (with_reducible exact ih0 _ _ _)
      | (with_reducible exact LeO.refl _)
      | (with_reducible exact LeO.none _)
      | (with_reducible refine LeO.ite ?_ ?_)
      | (with_reducible refine LeO.bind ?_ (fun _ => ?_))
      | exact ih0 _ _ _
      | exact LeO.none _
      | refine LeO.ite ?_ ?_
      | refine LeO.bind ?_ (fun _ => ?_)
theorem bindlelaw08_small.mono : ∀ a0 k, LeO (bindlelaw08_small.f k a0) (bindlelaw08_small.f (k + 1) a0) := by
  intro a0 k
  have ih0 := bindlelaw08_small.mono_l k
  unfold bindlelaw08_small.f
  repeat' first
      | (with_reducible exact ih0 _ _ _)
      | (with_reducible exact LeO.refl _)
      | (with_reducible exact LeO.none _)
      | (with_reducible refine LeO.ite ?_ ?_)
      | (with_reducible refine LeO.bind ?_ (fun _ => ?_))
      | exact ih0 _ _ _
      | exact LeO.none _
      | refine LeO.ite ?_ ?_
      | refine LeO.bind ?_ (fun _ => ?_)
set_option maxHeartbeats 8000000 in
set_option maxRecDepth 100000 in
theorem bindlelaw08_small.calls (k : Nat) (A0 : Option Addr) (c0 : Nat) (l0 : List (S58)) (r : Bool) (w : World) (hr0 : Kd.C k58 w A0 l0.length l0) (hc0 : l0.length ≤ c0) (h : bindlelaw08_small.f k l0 = some r) :
    Calls Tryd.prog 29 #[.slice A0 l0.length c0] w fun e w' => e = .returned (.bool r) ∧ Drawn0 w w' := by
  have HR0 := Aside0.mk hr0
  have HC0 := Aside0.mk hc0
  clear hr0 hc0
  have H : (bindlelaw08_small.l0 k l0 0 0) = some r := h
  clear h
  have H' := Aside0.mk H
  clear H
  go_enter Tryd.func29, Tryd.ntmps29
  go_wp2
  go_loopg [3, 4] k (fun kq v3 v4 w' => ∃ (x3_1 : Int) (x4_1 : Int), v3 = .int .i64 x3_1 ∧ v4 = .int .i64 x4_1 ∧ Aside0 (bindlelaw08_small.l0 kq l0 x3_1 x4_1 = some r) ∧ Aside0 (kq ≤ k) ∧ Drawn0 w w')
  case atStart => exact ⟨(0), (0), (by first | rfl | (simp; done) | (simp [*]; done)), (by first | rfl | (simp; done) | (simp [*]; done)), H', ⟨Nat.le_refl _⟩, by repeat (first | exact Drawn0.refl _ | apply Drawn0.step)⟩
  case round =>
    clear H'
    obtain ⟨x3_1, x4_1, rfl, rfl, HA, HK1, ⟨m1, rfl⟩⟩ := hrel
    cases gk with
    | zero => exact absurd HA.out (by simp [bindlelaw08_small.l0])
    | succ k1 =>
      have H := HA.out
      clear HA
      simp only [bindlelaw08_small.l0] at H
      by_cases c2 : x4_1 < (l0.length : Int)
      · rw [if_pos c2] at H
        have c2b0 : decide (x4_1 < (l0.length : Int)) = true := decide_eq_true c2
        clear c2
        by_cases c3 : x4_1 < 41
        · rw [if_pos c3] at H
          have c3b0 : decide (x4_1 < 41) = true := decide_eq_true c3
          clear c3
          by_cases c4 : 0 ≤ x4_1
          · rw [if_pos c4] at H
            have c4b0 : decide (0 ≤ x4_1) = true := decide_eq_true c4
            clear c4
            have H' := Aside0.mk H
            clear H
            have p443 : 0 ≤ (x4_1 : Int) := of_decide_eq_true (by first | (with_reducible assumption) | assumption)
            have q443 : x4_1 < (l0.length : Int) := of_decide_eq_true (by first | (with_reducible assumption) | assumption)
            obtain ⟨ad443, A443_1, c443_1, e443, hx443_0, hx443_1, hl443_1, hi443_1⟩ := at_T58 HR0.out x4_1 p443 q443
            cases e443
            have HR443_1 := Aside0.mk hi443_1
            have HC443_1 := Aside0.mk hl443_1
            clear hi443_1 hl443_1
            replace p443 := eq_true p443
            replace q443 := eq_true q443
            go_wp2
            go_roundg k1
            case measure => have := HK1.out; omega
            case rel => exact ⟨(wrap64 (x3_1 + (((rd_T58 l0 x4_1).f1).length : Int))), (wrap64 (x4_1 + 1)), (by first | rfl | (simp; done) | (simp [*]; done)), (by first | rfl | (simp; done) | (simp [*]; done)), H', ⟨by have := HK1.out; omega⟩, by repeat (first | exact Drawn0.refl _ | apply Drawn0.step)⟩
          · rw [if_neg c4] at H
            exact absurd H (by simp)
        · rw [if_neg c3] at H
          have c3b0 : decide (x4_1 < 41) = false := decide_eq_false c3
          clear c3
          by_cases c5 : (l0.length : Int) ≤ 40
          · rw [if_pos c5] at H
            have c5b0 : decide ((l0.length : Int) ≤ 40) = true := decide_eq_true c5
            have c5b1 : decide (l0.length ≤ 40) = true := decide_eq_true (by omega)
            clear c5
            obtain rfl := Option.some.inj H
            go_wp2
            go_ret
            exact ⟨by first | rfl | (simp; done) | (simp [*]; done), by repeat (first | exact Drawn0.refl _ | apply Drawn0.step)⟩
          · rw [if_neg c5] at H
            have c5b0 : decide ((l0.length : Int) ≤ 40) = false := decide_eq_false c5
            have c5b1 : decide (l0.length ≤ 40) = false := decide_eq_false (by omega)
            clear c5
            obtain rfl := Option.some.inj H
            go_wp2
            go_ret
            exact ⟨by first | rfl | (simp; done) | (simp [*]; done), by repeat (first | exact Drawn0.refl _ | apply Drawn0.step)⟩
      · rw [if_neg c2] at H
        have c2b0 : decide (x4_1 < (l0.length : Int)) = false := decide_eq_false c2
        clear c2
        by_cases c6 : (l0.length : Int) ≤ 40
        · rw [if_pos c6] at H
          have c6b0 : decide ((l0.length : Int) ≤ 40) = true := decide_eq_true c6
          have c6b1 : decide (l0.length ≤ 40) = true := decide_eq_true (by omega)
          clear c6
          obtain rfl := Option.some.inj H
          go_wp2
          go_ret
          exact ⟨by first | rfl | (simp; done) | (simp [*]; done), by repeat (first | exact Drawn0.refl _ | apply Drawn0.step)⟩
        · rw [if_neg c6] at H
          have c6b0 : decide ((l0.length : Int) ≤ 40) = false := decide_eq_false c6
          have c6b1 : decide (l0.length ≤ 40) = false := decide_eq_false (by omega)
          clear c6
          obtain rfl := Option.some.inj H
          go_wp2
          go_ret
          exact ⟨by first | rfl | (simp; done) | (simp [*]; done), by repeat (first | exact Drawn0.refl _ | apply Drawn0.step)⟩

-- BY HAND: function 30 (ustar_Put)

end Go.Proofs.YtkcmkgkkddgicaaDoor.R

/- What the references of archives, and the laws' own helpers, answer: the plain answers of PlC. -/
set_option linter.unusedVariables false
set_option linter.unusedSimpArgs false
namespace Go.Proofs.YtkcmkgkkddgicaaDoor.R
open Go Go.RowKit Go.Proofs.YtkcmkgkkddgicaaDoorW.PrintWords Go.Proofs.YtkcmkgkkddgicaaDoorW.PrintLast Go.Proofs.YtkcmkgkkddgicaaDoorW.PrintMore
theorem rdF {l : List S58} {i : Nat} (h : i < l.length) : rd_T58 l (i : Int) = l[i] := by
  show l.getD _ _ = _
  rw [Int.toNat_natCast, List.getD_eq_getElem?_getD, List.getElem?_eq_getElem h]; rfl
theorem sizes_take_succ {l : List S58} {i : Nat} (h : i < l.length) : sizes (l.take (i + 1)) = sizes (l.take i) + l[i].f1.length := by
  rw [List.take_succ_eq_append_getElem h, sizes_snoc']
/-! ### the reference's Put -/
/-! ### the reference's Get -/
/-! ### Same, small -/
theorem small_l0 (l : List S58) (hb : ∀ f ∈ l, f.f1.length ≤ 140737488351232) : ∀ (d k i : Nat), i + d = 41 → i ≤ l.length → d < k →
    bindlelaw08_small.l0 k l ((sizes (l.take i) : Nat) : Int) (i : Int) = some (decide (l.length ≤ 40) && decide (sizes l ≤ 20000))
  | 0, k, i, h, hl, hk => by
    obtain ⟨k, rfl⟩ : ∃ j, k = j + 1 := ⟨k - 1, by omega⟩
    simp only [bindlelaw08_small.l0]
    rw [if_neg (show ¬ (i : Int) < 41 by omega), if_neg (show ¬ (l.length : Int) ≤ 40 by omega), decide_eq_false (show ¬ l.length ≤ 40 by omega), ite_self]; rfl
  | d + 1, k, i, h, hl, hk => by
    obtain ⟨k, rfl⟩ : ∃ j, k = j + 1 := ⟨k - 1, by omega⟩
    have hsz : sizes (l.take i) ≤ i * 140737488351232 := by
      have : ∀ (n : Nat), n ≤ l.length → sizes (l.take n) ≤ n * 140737488351232 := by
        intro n
        induction n with
        | zero => intro _; simp [sizes]
        | succ n ih =>
          intro hn
          have := hb _ (List.getElem_mem (show n < l.length by omega))
          rw [sizes_take_succ (by omega), Nat.succ_mul]
          have := ih (by omega)
          omega
      exact this i hl
    have hi40 : i ≤ 40 := by omega
    simp only [bindlelaw08_small.l0]
    by_cases hi : i < l.length
    · have := hb _ (List.getElem_mem hi)
      have h2 := sizes_take_succ hi
      rw [if_pos (by omega), if_pos (by omega), if_pos (by omega), rdF hi, w64b (n := (i : Int) + 1) (by omega) (by omega), w64b (by omega) (by omega), show ((sizes (l.take i) : Nat) : Int) + (l[i].f1.length : Int) = ((sizes (l.take (i + 1)) : Nat) : Int) by omega, show (i : Int) + 1 = ((i + 1 : Nat) : Int) by omega]
      exact small_l0 l hb d k (i + 1) (by omega) (by omega) (by omega)
    · rw [if_neg (by omega), if_pos (by omega), List.take_of_length_le (by omega), decide_eq_true (show l.length ≤ 40 by omega), Bool.true_and]
      congr 1
      rw [decide_eq_decide]; omega
theorem small_eq {l : List S58} {k : Nat} (hb : ∀ f ∈ l, f.f1.length ≤ 140737488351232) (hk : 41 < k) : bindlelaw08_small.f k l = some (decide (l.length ≤ 40) && decide (sizes l ≤ 20000)) :=
  small_l0 l hb 41 k 0 (by omega) (by omega) hk
end Go.Proofs.YtkcmkgkkddgicaaDoor.R

/- What the pure laws of layer 8 share. -/
set_option linter.unusedVariables false
set_option linter.unusedSimpArgs false
namespace Go.Proofs.YtkcmkgkkddgicaaDoor.R
open Go Go.RowKit Go.Proofs.YtkcmkgkkddgicaaDoorW.PrintWords Go.Proofs.YtkcmkgkkddgicaaDoorW.PrintLast Go.Proofs.YtkcmkgkkddgicaaDoorW.PrintMore
/-- files as an argument has them -/
structure Arg (l : List S58) : Prop where
  name : ∀ f ∈ l, f.f0.size ≤ 140737488351232
  data : ∀ f ∈ l, f.f1.length ≤ 140737488351232
  bts : ∀ f ∈ l, Bts f.f1
theorem many : ∃ k : Nat, 500000000000000 < k := ⟨500000000000001, by decide⟩
theorem Arg.sane {l : List S58} (h : Arg l) : Sane l := fun f hf => by have := h.name f hf; omega
theorem awake08_f : bindlelaw08_awake.f = some true := rfl
theorem small_cases {l : List S58} (h : Arg l) {k : Nat} (hk : 41 < k) : bindlelaw08_small.f k l = some false ∨ (bindlelaw08_small.f k l = some true ∧ l.length ≤ 40 ∧ sizes l ≤ 20000) := by
  rw [small_eq h.data hk]
  by_cases h1 : l.length ≤ 40
  · by_cases h2 : sizes l ≤ 20000
    · right; rw [decide_eq_true h1, decide_eq_true h2]; exact ⟨rfl, h1, h2⟩
    · left; rw [decide_eq_false h2, Bool.and_false]
  · left; rw [decide_eq_false h1, Bool.false_and]
theorem uput_split {l : List S58} (h : (uput l).2 = 0) : uput l = ((uput l).1, 0) := by rw [← h]
theorem uput_len {l : List S58} (h : (uput l).2 = 0) (h1 : l.length ≤ 40) (h2 : sizes l ≤ 20000) : (uput l).1.length ≤ 70000 ∧ 1024 ≤ (uput l).1.length := by
  have h' := uput_ok.1 (uput_split h)
  have := arcs_le l h'.ok
  have e := congrArg List.length h'.b
  rw [List.length_append, Z_len] at e
  omega
end Go.Proofs.YtkcmkgkkddgicaaDoor.R

/- An argument that is a list of files: what it reads as. -/
set_option linter.unusedVariables false
set_option linter.unusedSimpArgs false
namespace Go.Proofs.YtkcmkgkkddgicaaDoor.R
open Go Go.RowKit Go.ChangeShapes Go.WideShapes Go.Proofs.YtkcmkgkkddgicaaDoorW.PrintWords Go.Proofs.YtkcmkgkkddgicaaDoorW.PrintLast Go.Proofs.YtkcmkgkkddgicaaDoorW.PrintMore
section
variable {H : Type} {enc : TypeId × Value → H} {W : World}
theorem u8_wf' {x : Int} (h : (Lit.int .u8 x).wf = true) : 0 ≤ x ∧ x < 256 := by
  simp only [Lit.wf, Bool.and_eq_true, decide_eq_true_eq] at h
  have e1 : IntKind.u8.min = 0 := by decide
  have e2 : IntKind.u8.max = 255 := by decide
  omega
theorem open_bytes {fuel : Nat} {v : Value} {D : DataW H} {Q : List MemPlace} (h : DataW.trod enc Tryd.prog W 0 (fun _ => true) true fuel 22 [v] = some (D, Q)) :
    ∃ A c, ∃ l : List Int, v = .slice A l.length c ∧ l.length ≤ c ∧ Kd.C (Kd.int .u8) W A l.length l ∧ Bts l ∧ (l.length = 0 ∨ ∃ m ∈ D.weights Tryd.prog 22, l.length ≤ m) := by
  rcases open_ints Tryd.underlying22 Tryd.underlying5 (by kernel_rfl) h with ⟨hcs, _⟩ | ⟨x, n, c, zs, hcs, _, hl, hm, hz, hx, hcell, hwz⟩
  · obtain rfl := List.singleton_inj.1 hcs
    exact ⟨none, 0, [], rfl, Nat.le_refl _, ⟨rfl, by decide, fun h => absurd h (by decide)⟩, fun x hx => by simp at hx, .inl rfl⟩
  · obtain rfl := List.singleton_inj.1 hcs
    have hz' : zs.length = c := by simpa using hz
    obtain ⟨l, rfl, hr, hml, hw, hc⟩ := ReadsInt.ofRowC (k := .u8) (w := W) (a := some x) (len := n) (cap := c) (zs := zs) (.inr ⟨x, rfl, hl, hm, hz', hcell, hwz⟩)
    refine ⟨some x, c, l, rfl, hc, Kd.C_of_reads (d := (0 : Int)) (h1 := fun _ => rfl) hr, fun y hy => u8_wf' (hw y hy), .inr ⟨zs.length, ?_, by omega⟩⟩
    obtain ⟨rfl, -⟩ := Prod.mk.inj hx
    have hu := Tryd.underlying22
    have hb : Tryd.prog.bytesOf 5 = 1 := by kernel_rfl
    simp only [DataW.weights, hu, hb]
    refine List.mem_cons.2 (.inl ?_)
    simp only [lits, List.length_map, List.length_take, List.length_drop]
    omega
theorem weights_all {P : Program} {e : TypeId} {n : Nat} {d : DataW H} : ∀ {l : List (DataW H)}, d ∈ l → n ∈ d.weights P e → n ∈ DataW.weightsAll P e l
  | [], h, _ => by simp at h
  | x :: r, h, hn => by
    simp only [DataW.weightsAll, List.mem_append]
    rcases List.mem_cons.1 h with rfl | h
    · exact .inl hn
    · exact .inr (weights_all h hn)
set_option maxRecDepth 100000 in
theorem open_files {base j : Nat} {v : Value} {d : DataW H} {ps : List MemPlace} {ts : List TypeId} {ds : List (DataW H)}
    (hsz : (DataW.weightsEach Tryd.prog ts ds).all (· ≤ reachBytes) = true) (ht : ts[j]? = some 45) (hd : ds[j]? = some d) (hval : Value.okWide Tryd.prog W .any base 45 v) (h : DataW.Trod enc Tryd.prog W 0 (fun _ => true) true 45 v d ps) :
    ∃ A c, ∃ l : List S58, v = .slice A l.length c ∧ l.length ≤ c ∧ Kd.C k58 W A l.length l ∧ Arg l := by
  obtain ⟨a, len, cap, rfl⟩ := okWide_slice Tryd.underlying45 hval
  obtain ⟨fuel, hf⟩ := h
  have hall := List.all_eq_true.1 hsz
  have hw : ∀ n ∈ d.weights Tryd.prog 45, n ≤ 140737488351232 := by
    intro n hn
    have z : decide (n ≤ reachBytes) = true := hall n (DataW.weights_mem_each ht hd n hn)
    have z2 : n ≤ reachBytes := of_decide_eq_true z
    exact z2
  rcases Go.Deep.open_slice_pairs Tryd.underlying45 Tryd.underlying58 (by kernel_rfl) rfl rfl (by kernel_rfl) (by kernel_rfl) hf with ⟨hcs, _⟩ | ⟨x, n, c, m, fu, V0, V1, D0, D1, P0, P1, hcs, _, hl, hm, hmm, hx, hcell⟩
  · simp [Value.cells] at hcs
    obtain ⟨rfl, rfl, rfl⟩ := hcs
    exact ⟨none, 0, [], rfl, Nat.le_refl _, ⟨rfl, by decide, fun h => absurd h (by decide)⟩, ⟨by simp, by simp, by simp⟩⟩
  · simp [Value.cells] at hcs
    obtain ⟨rfl, rfl, rfl⟩ := hcs
    have hmc : m = cap := by simpa using hmm
    subst hmc
    obtain ⟨rfl, -⟩ := Prod.mk.inj hx
    have each : ∀ i, ∃ f : S58, i < len → W.cell? (x.add (i * 2)) = some (.string f.f0) ∧ (∃ A' c', W.cell? (x.add (i * 2 + 1)) = some (.slice A' f.f1.length c') ∧ f.f1.length ≤ c' ∧ Kd.C (Kd.int .u8) W A' f.f1.length f.f1) ∧ f.f0.size ≤ 140737488351232 ∧ f.f1.length ≤ 140737488351232 ∧ Bts f.f1 := by
      intro i
      by_cases hi : i < len
      · obtain ⟨g0, g1, t0, t1⟩ := hcell i (by omega)
        obtain ⟨s, c0, e0, _⟩ := DataW.trod_string Tryd.underlying9 t0
        obtain ⟨A', c', l, e1, hlc, hC, hB, hwl⟩ := open_bytes t1
        have v0 := List.singleton_inj.1 c0
        obtain ⟨d0, -⟩ := Prod.mk.inj e0
        have hin : ∀ n ∈ (DataW.agg [D0 i, D1 i]).weights Tryd.prog 58, n ≤ 140737488351232 := by
          intro n hn
          refine hw n ?_
          have hu := Tryd.underlying45
          simp only [DataW.weights, hu]
          refine List.mem_cons_of_mem _ (List.mem_append_left _ (weights_all (List.mem_map.2 ⟨i, List.mem_range.2 hi, rfl⟩) hn))
        have hue := Tryd.underlying58
        simp only [DataW.weights, hue, List.map_cons, List.map_nil, DataW.weightsEach, List.mem_append] at hin
        refine ⟨⟨s, l⟩, fun _ => ⟨by rw [g0, v0], ⟨A', c', by rw [g1, e1], hlc, hC⟩, ?_, ?_, hB⟩⟩
        · have := hin s.data.toList.length (.inl (by rw [d0]; simp [DataW.weights]))
          rwa [← size_len] at this
        · rcases hwl with h0 | ⟨m, hm1, hm2⟩
          · simp only; omega
          · exact Nat.le_trans hm2 (hin m (.inr (.inl hm1)))
      · exact ⟨⟨⟨#[]⟩, []⟩, fun h => absurd h hi⟩
    obtain ⟨g, hg⟩ := Classical.axiomOfChoice each
    have hlen : ((List.range len).map g).length = len := by simp
    refine ⟨some x, m, (List.range len).map g, by rw [hlen], by rw [hlen]; exact hl, ⟨rfl, by rw [hlen]; unfold maxLen at hm; omega, fun _ => ⟨x, rfl, fun j p hp => ?_⟩⟩, ⟨?_, ?_, ?_⟩⟩
    · have hj : j < len := by
        have := (List.getElem?_eq_some_iff.1 hp).1
        omega
      rw [List.getElem?_map, List.getElem?_range hj] at hp
      obtain rfl := Option.some.inj hp
      obtain ⟨k0, ⟨A', c', k1, k2, k3⟩, -⟩ := hg j hj
      refine ⟨_, rfl, k58_mk W (g j) k2 k3, fun i u hu => ?_⟩
      match i, hu with
      | 0, hu => obtain rfl := Option.some.inj hu; exact k0
      | 1, hu => obtain rfl := Option.some.inj hu; exact k1
      | n + 2, hu => simp at hu
    · intro f hf
      obtain ⟨i, hi, rfl⟩ := List.mem_map.1 hf
      exact (hg i (List.mem_range.1 hi)).2.2.1
    · intro f hf
      obtain ⟨i, hi, rfl⟩ := List.mem_map.1 hf
      exact (hg i (List.mem_range.1 hi)).2.2.2.1
    · intro f hf
      obtain ⟨i, hi, rfl⟩ := List.mem_map.1 hf
      exact (hg i (List.mem_range.1 hi)).2.2.2.2
theorem VF_of_C {A : Option Addr} {c : Nat} {xs : List S58} (h : Kd.C k58 W A xs.length xs) (hc : xs.length ≤ c) : Kd.V k58 58 W W.heap.size (fun _ => True) (.slice A xs.length c) xs :=
  Kd.V_mk hc (fun W' hW => Kd.Heap.C k58_heap (fun k hk => hW k trivial hk) h)
end
end Go.Proofs.YtkcmkgkkddgicaaDoor.R
