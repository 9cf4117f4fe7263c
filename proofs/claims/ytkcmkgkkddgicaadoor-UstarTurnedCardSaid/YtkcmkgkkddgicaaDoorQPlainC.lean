/- Texts of this claim joined in one. -/
import Derived.Test.YtkcmkgkkddgicaaDoorQPlain
import Derived.Test.YtkcmkgkkddgicaaDoorQUstar
import Derived.Test.YtkcmkgkkddgicaaDoorQBase
import Derived.Test.YtkcmkgkkddgicaaDoorQRefC
import Derived.Test.YtkcmkgkkddgicaaDoorQAwake
import Derived.Test.YtkcmkgkkddgicaaDoorQWords
import Derived.Deep.SlicePairs
import Derived.OpenShut
import Derived.ProofKit
/- Plain laws of archives: what is put, what is got, and that no beginning of an archive is one. -/
set_option linter.unusedVariables false
set_option linter.unusedSimpArgs false
namespace Go.Proofs.YtkcmkgkkddgicaaDoor.R
open Go Go.RowKit Go.Proofs.YtkcmkgkkddgicaaDoorW.PrintWords Go.Proofs.YtkcmkgkkddgicaaDoorW.PrintLast Go.Proofs.YtkcmkgkkddgicaaDoorW.PrintMore
def headOf (f : S58) : List Int × Int := hput f.f0 (f.f1.length : Int)
def FOk (f : S58) : Prop := (headOf f).2 = 0
def padOf (f : S58) : List Int := List.replicate (rnd f.f1.length - f.f1.length) 0
def entry (f : S58) : List Int := (headOf f).1 ++ (f.f1 ++ padOf f)
def arcs : List S58 → List Int
  | [] => []
  | f :: r => entry f ++ arcs r
theorem arcs_app (l m : List S58) : arcs (l ++ m) = arcs l ++ arcs m := by
  induction l with
  | nil => rfl
  | cons f r ih => simp only [List.cons_append, arcs, ih, List.append_assoc]
theorem head_ok {f : S58} (h : FOk f) : hput f.f0 (f.f1.length : Int) = ((headOf f).1, 0) := by unfold FOk headOf at h; unfold headOf; rw [← h]
theorem rnd_ge' (n : Nat) : n ≤ rnd n := by unfold rnd; omega
theorem rnd_mod (n : Nat) : rnd n % 512 = 0 := by unfold rnd; omega
theorem entry_len {f : S58} (h : FOk f) : (entry f).length = 512 + rnd f.f1.length := by
  have := rnd_ge' f.f1.length
  unfold entry padOf
  rw [List.length_append, List.length_append, List.length_replicate, hput_len (head_ok h)]; omega
theorem arcs_mod : ∀ (l : List S58), (∀ f ∈ l, FOk f) → (arcs l).length % 512 = 0
  | [], _ => rfl
  | f :: r, h => by
    have h1 := arcs_mod r (fun g hg => h g (List.mem_cons_of_mem _ hg))
    have h2 := rnd_mod f.f1.length
    rw [arcs, List.length_append, entry_len (h f (List.mem_cons_self ..))]; omega
theorem Z_len : Z1024.length = 1024 := by unfold Z1024; rw [List.length_replicate]
/-- no header is zeros -/
theorem head_nz {f : S58} (h : FOk f) : (headOf f).1 ≠ List.replicate 512 0 := by
  obtain ⟨p, q, h⟩ := hput_ok (head_ok h)
  intro e
  have e1 : (headOf f).1.drop 156 = postF (bytesOf p) := by
    rw [h.b]
    unfold hdr
    rw [← List.append_assoc, List.drop_left' (by rw [List.length_append, preF_length _ _ h.sp.ql]; simp [digs_length])]
  rw [e, List.drop_replicate] at e1
  have e2 : (48 : Int) ∈ postF (bytesOf p) := by unfold postF; exact List.mem_append_left _ (List.mem_singleton.2 rfl)
  rw [← e1] at e2
  exact absurd (List.mem_replicate.1 e2).2 (by decide)
theorem app_take {A B : List Int} {n : Nat} (h : A.length = n) : (A ++ B).take n = A := List.take_left' h
theorem app_drop {A B : List Int} {n : Nat} (h : A.length = n) : (A ++ B).drop n = B := List.drop_left' h
theorem f_ext {f g : S58} (h0 : f.f0 = g.f0) (h1 : f.f1 = g.f1) : f = g := by cases f; cases g; simp only at h0 h1; subst h0; subst h1; rfl
/-- one entry's beginning tells it -/
theorem entry_inj {f g : S58} (hf : FOk f) (hg : FOk g) {A B : List Int} (h : entry f ++ A = entry g ++ B) : f = g ∧ A = B := by
  have l1 := hput_len (head_ok hf)
  have l2 := hput_len (head_ok hg)
  have h' := h
  unfold entry at h'
  simp only [List.append_assoc] at h'
  obtain ⟨e1, e2⟩ := List.append_inj h' (l1.trans l2.symm)
  have k1 := head_ok hf
  rw [e1] at k1
  obtain ⟨i1, i2⟩ := hput_inj k1 (head_ok hg)
  have i3 : f.f1.length = g.f1.length := by omega
  obtain ⟨e3, -⟩ := List.append_inj e2 i3
  have e := f_ext i1 e3
  subst e
  exact ⟨rfl, List.append_cancel_left h⟩
/-- no beginning of an archive is one -/
theorem arcs_prefix : ∀ (l m : List S58), (∀ f ∈ l, FOk f) → (∀ f ∈ m, FOk f) → ∀ x, (arcs l ++ Z1024) ++ x = arcs m ++ Z1024 → l = m ∧ x = []
  | [], [], _, _, x, h => by
    refine ⟨rfl, ?_⟩
    have := congrArg List.length h
    simp only [arcs, List.nil_append, List.length_append] at this
    exact List.length_eq_zero_iff.1 (by omega)
  | [], g :: m, _, hm, x, h => by
    exfalso
    have hg := hm g (List.mem_cons_self ..)
    have h1 := congrArg (List.take 512) h
    rw [arcs, arcs, List.nil_append] at h1
    unfold entry at h1
    simp only [List.append_assoc] at h1
    rw [app_take (hput_len (head_ok hg))] at h1
    refine head_nz hg ?_
    rw [← h1]
    unfold Z1024
    rw [show (1024 : Nat) = 512 + 512 from rfl, ← List.replicate_append_replicate, List.append_assoc, app_take (List.length_replicate ..)]
  | f :: l, [], hl, _, x, h => by
    exfalso
    have := congrArg List.length h
    simp only [arcs, List.nil_append, List.length_append, Z_len, entry_len (hl f (List.mem_cons_self ..))] at this
    omega
  | f :: l, g :: m, hl, hm, x, h => by
    simp only [arcs, List.append_assoc] at h
    obtain ⟨rfl, h2⟩ := entry_inj (hl f (List.mem_cons_self ..)) (hm g (List.mem_cons_self ..)) h
    obtain ⟨rfl, h3⟩ := arcs_prefix l m (fun f hf => hl f (List.mem_cons_of_mem _ hf)) (fun f hf => hm f (List.mem_cons_of_mem _ hf)) x (by rw [List.append_assoc]; exact h2)
    exact ⟨rfl, h3⟩
/-- the first file's error, in the list's order -/
def badOf : List S58 → Int
  | [] => 0
  | f :: r => if (headOf f).2 = 0 then badOf r else (headOf f).2
theorem bad_none : ∀ l : List S58, badOf l = 0 ↔ ∀ f ∈ l, FOk f
  | [] => by simp [badOf]
  | f :: r => by
    have ih := bad_none r
    unfold badOf
    constructor
    · intro h g hg
      split at h
      · rename_i h0
        rcases List.mem_cons.1 hg with rfl | hg
        · exact h0
        · exact ih.1 h g hg
      · rename_i h0; exact absurd h h0
    · intro h
      rw [if_pos (show (headOf f).2 = 0 from h f (List.mem_cons_self ..))]
      exact ih.2 (fun g hg => h g (List.mem_cons_of_mem _ hg))
theorem bad_app (l m : List S58) : badOf (l ++ m) = if badOf l = 0 then badOf m else badOf l := by
  induction l with
  | nil => simp [badOf]
  | cons f r ih =>
    simp only [List.cons_append, badOf]
    split
    · exact ih
    · rfl
/-- ustar.Put's answer -/
noncomputable def uput (l : List S58) : List Int × Int :=
  open Classical in if 400 < l.length ∨ 4194304 < sizes l then ([], 5) else if badOf l ≠ 0 then ([], badOf l) else if (l.map (·.f0)).Nodup then (arcs l ++ Z1024, 0) else ([], 7)
structure UOk (l : List S58) (b : List Int) : Prop where
  len : l.length ≤ 400
  sz : sizes l ≤ 4194304
  ok : ∀ f ∈ l, FOk f
  nd : (l.map (·.f0)).Nodup
  b : b = arcs l ++ Z1024
theorem uput_ok {l : List S58} {b : List Int} : uput l = (b, 0) ↔ UOk l b := by
  constructor
  · intro h
    unfold uput at h
    split at h
    · simp at h
    · split at h
      · rename_i h1 h2
        simp only [Prod.mk.injEq] at h
        exact absurd h.2 h2
      · split at h
        · rename_i h1 h2 h3
          simp only [Prod.mk.injEq, and_true] at h
          exact ⟨by omega, by omega, (bad_none l).1 (by omega), h3, h.symm⟩
        · simp at h
  · intro h
    have h1 := h.len
    have h2 := h.sz
    unfold uput
    rw [if_neg (by omega), if_neg (by simp [(bad_none l).2 h.ok]), if_pos h.nd, h.b]
theorem uput_bad {l : List S58} (h : (uput l).2 ≠ 0) : (uput l).1 = [] := by
  unfold uput at h ⊢
  split
  · rfl
  · split
    · rfl
    · split
      · rename_i h1 h2 h3; rw [if_neg h1, if_neg h2, if_pos h3] at h; simp at h
      · rfl
theorem uput_inj {l m : List S58} {b : List Int} (h : uput l = (b, 0)) (h' : uput m = (b, 0)) : l = m := by
  have h := uput_ok.1 h
  have h' := uput_ok.1 h'
  exact (arcs_prefix l m h.ok h'.ok [] (by rw [List.append_nil, ← h.b, h'.b])).1
theorem uput_mod {l : List S58} {b : List Int} (h : uput l = (b, 0)) : b.length % 512 = 0 ∧ 1024 ≤ b.length := by
  have h := uput_ok.1 h
  have := arcs_mod l h.ok
  rw [h.b, List.length_append, Z_len]; omega
/-- ustar.Get's answer -/
noncomputable def uget (b : List Int) : List S58 × Int :=
  open Classical in if h : ∃ l, uput l = (b, 0) then (h.choose, 0) else ([], 2)
theorem uget_ok {b : List Int} {l : List S58} (h : uput l = (b, 0)) : uget b = (l, 0) := by
  unfold uget
  have hx : ∃ l, uput l = (b, 0) := ⟨l, h⟩
  rw [dif_pos hx, uput_inj hx.choose_spec h]
theorem uget_bad {b : List Int} (h : ∀ l, uput l ≠ (b, 0)) : uget b = ([], 2) := by
  unfold uget; rw [dif_neg (fun ⟨l, hl⟩ => h l hl)]
theorem uget_cases (b : List Int) : (uget b = ([], 2) ∧ ∀ l, uput l ≠ (b, 0)) ∨ ∃ l, uget b = (l, 0) ∧ uput l = (b, 0) := by
  by_cases h : ∃ l, uput l = (b, 0)
  · obtain ⟨l, h⟩ := h; exact .inr ⟨l, uget_ok h, h⟩
  · exact .inl ⟨uget_bad (fun l hl => h ⟨l, hl⟩), fun l hl => h ⟨l, hl⟩⟩
def keys (l : List ByteArray) : List ByteArray := l.foldl addName []
theorem any_dec {ks : List ByteArray} {k : ByteArray} : ks.any (fun x => decide (x = k)) = true ↔ k ∈ ks := by
  rw [List.any_eq_true]
  constructor
  · rintro ⟨x, hx, h⟩
    rw [← of_decide_eq_true h]; exact hx
  · intro h; exact ⟨k, h, decide_eq_true rfl⟩
theorem keys_snoc (l : List ByteArray) (k : ByteArray) : keys (l ++ [k]) = addName (keys l) k := by unfold keys; rw [List.foldl_append]; rfl
theorem nodup_snoc {l : List ByteArray} {k : ByteArray} : (l ++ [k]).Nodup ↔ l.Nodup ∧ k ∉ l := by
  rw [List.nodup_append]
  constructor
  · rintro ⟨h1, h2, h3⟩
    exact ⟨h1, fun hm => h3 k hm k (List.mem_singleton.2 rfl) rfl⟩
  · rintro ⟨h1, h2⟩
    exact ⟨h1, by simp, fun a ha b hb e => by obtain rfl := List.mem_singleton.1 hb; subst e; exact h2 ha⟩
theorem keys_spec : ∀ (n : Nat) (l : List ByteArray), l.length = n → (∀ x, x ∈ keys l ↔ x ∈ l) ∧ (keys l).length ≤ l.length ∧ ((keys l).length < l.length ↔ ¬ l.Nodup)
  | 0, l, h => by
    obtain rfl := List.length_eq_zero_iff.1 h
    exact ⟨fun x => Iff.rfl, Nat.le_refl _, by simp [keys]⟩
  | n + 1, l, h => by
    rcases List.eq_nil_or_concat l with rfl | ⟨r, k, rfl⟩
    · simp at h
    · rw [List.concat_eq_append] at h ⊢
      obtain ⟨h1, h2, h3⟩ := keys_spec n r (by simpa using h)
      rw [keys_snoc, nodup_snoc]
      unfold addName
      by_cases hk : k ∈ r
      · rw [if_pos (any_dec.2 ((h1 k).2 hk))]
        refine ⟨fun x => ?_, by simp only [List.length_append]; omega, ?_⟩
        · rw [h1 x, List.mem_append, List.mem_singleton]
          constructor
          · exact .inl
          · rintro (h | rfl)
            · exact h
            · exact hk
        · simp only [List.length_append, List.length_singleton]
          constructor
          · rintro - ⟨-, h⟩; exact h hk
          · intro _; omega
      · rw [if_neg (fun h => hk ((h1 k).1 (any_dec.1 h)))]
        refine ⟨fun x => ?_, by simp only [List.length_append]; omega, ?_⟩
        · rw [List.mem_append, List.mem_append, h1 x]
        · simp only [List.length_append, List.length_singleton]
          constructor
          · rintro h ⟨h4, -⟩; exact (h3.1 (by omega)) h4
          · intro h
            have := h3.2 (fun h4 => h ⟨h4, hk⟩)
            omega
theorem keys_lt (l : List S58) : (keys (l.map (·.f0))).length < l.length ↔ ¬ (l.map (·.f0)).Nodup := by
  have := (keys_spec _ (l.map (·.f0)) rfl).2.2
  rwa [List.length_map] at this
theorem sizes_snoc' (l : List S58) (f : S58) : sizes (l ++ [f]) = sizes l + f.f1.length := by unfold sizes; simp
theorem sizes_app (l m : List S58) : sizes (l ++ m) = sizes l + sizes m := by unfold sizes; simp
theorem all_zero {l : List Int} (h : l.all (fun x => x == 0) = true) : l = List.replicate l.length 0 := by
  rw [List.eq_replicate_iff]
  exact ⟨rfl, fun x hx => by simpa using List.all_eq_true.1 h x hx⟩
theorem zero_all (n : Nat) : (List.replicate n (0 : Int)).all (fun x => x == 0) = true := by
  rw [List.all_eq_true]; intro x hx; rw [(List.mem_replicate.1 hx).2]; rfl
/-- what a beginning of the files, and what is left, come to -/
def Comes (l m : List S58) (b : List Int) : Prop := UOk (l ++ m) (arcs (l ++ m) ++ Z1024) ∧ b = arcs m ++ Z1024
theorem Comes.len {l m : List S58} {b : List Int} (h : Comes l m b) : b.length % 512 = 0 ∧ 1024 ≤ b.length := by
  have := arcs_mod m (fun f hf => h.1.ok f (List.mem_append_right _ hf))
  rw [h.2, List.length_append, Z_len]; omega
theorem Comes.cons {l m : List S58} {b : List Int} (h : Comes l m b) (hb : b.length ≠ 1024) : ∃ f r, m = f :: r ∧ FOk f ∧ b = entry f ++ (arcs r ++ Z1024) := by
  cases m with
  | nil => exact absurd (by rw [h.2, arcs, List.nil_append, Z_len]) hb
  | cons f r => exact ⟨f, r, rfl, h.1.ok f (List.mem_append_right _ (List.mem_cons_self ..)), by rw [h.2, arcs, List.append_assoc]⟩
theorem Comes.nil {l m : List S58} {b : List Int} (h : Comes l m b) (hb : b.length = 1024) : m = [] := by
  cases m with
  | nil => rfl
  | cons f r =>
    have h2 := h.2
    have hf := entry_len (h.1.ok f (List.mem_append_right _ (List.mem_cons_self ..)))
    have := congrArg List.length h2
    rw [arcs, List.length_append, List.length_append, hf, Z_len] at this
    omega
theorem entry_take {f : S58} (h : FOk f) (B : List Int) : (entry f ++ B).take 512 = (headOf f).1 := by
  unfold entry
  rw [List.append_assoc, app_take (hput_len (head_ok h))]
theorem entry_drop {f : S58} (h : FOk f) (B : List Int) : (entry f ++ B).drop 512 = f.f1 ++ (padOf f ++ B) := by
  unfold entry
  rw [List.append_assoc, app_drop (hput_len (head_ok h)), List.append_assoc]
theorem pad_mid (f : S58) (B : List Int) : ((f.f1 ++ (padOf f ++ B)).take (rnd f.f1.length)).drop f.f1.length = padOf f :=
  mid_of f.f1 (padOf f) B _ _ rfl (by unfold padOf; rw [List.length_replicate]; have := rnd_ge' f.f1.length; omega)
theorem getLoop_eq : ∀ (k : Nat) (b : List Int) (l : List S58), b.length < k → Bts b → (∀ f ∈ l, FOk f) → l.length + b.length ≤ 1000000 → sizes l + b.length ≤ 100000000 →
    (∃ m, Comes l m b ∧ getLoop k b l (keys (l.map (·.f0))) (sizes l) = some (l ++ m, 0)) ∨ ((∀ m, ¬ Comes l m b) ∧ getLoop k b l (keys (l.map (·.f0))) (sizes l) = some ([], 2))
  | 0, _, _, h, _, _, _, _ => absurd h (Nat.not_lt_zero _)
  | k + 1, b, l, hk, hB, hl, hs1, hs2 => by
    unfold getLoop
    by_cases hA : b.length < 1024 ∨ ¬ b.length % 512 = 0
    · rw [if_pos hA]
      exact .inr ⟨fun m h => by have := h.len; omega, rfl⟩
    rw [if_neg hA]
    by_cases hC : b.length = 1024
    · rw [if_pos hC]
      unfold header_Blank.f
      simp only [Option.bind_some]
      by_cases hD : (b.all (fun x => x == 0)) = false ∨ 4194304 < ((sizes l : Nat) : Int) ∨ 400 < l.length ∨ (keys (l.map (·.f0))).length < l.length
      · rw [if_pos hD]
        refine .inr ⟨fun m h => ?_, rfl⟩
        obtain rfl := h.nil hC
        have hU := h.1
        rw [List.append_nil] at hU
        have h1 := hU.len
        have h2 := hU.sz
        rcases hD with hD | hD | hD | hD
        · have hb := h.2
          rw [arcs, List.nil_append] at hb
          rw [hb] at hD
          unfold Z1024 at hD
          rw [zero_all] at hD
          cases hD
        · omega
        · omega
        · exact (keys_lt l).1 hD hU.nd
      · rw [if_neg hD]
        simp only [not_or, Bool.not_eq_false] at hD
        obtain ⟨h1, h2, h3, h4⟩ := hD
        refine .inl ⟨[], ⟨?_, ?_⟩, by rw [List.append_nil]⟩
        · rw [List.append_nil]
          exact ⟨by omega, by omega, hl, Decidable.not_not.1 (fun h => h4 ((keys_lt l).2 h)), rfl⟩
        · rw [arcs, List.nil_append, all_zero h1, hC]; rfl
    rw [if_neg hC]
    have ht : (b.take 512).length = 512 := by rw [List.length_take]; omega
    rw [header_Get_eq _ (hB.take 512) (by omega)]
    simp only [Option.bind_some]
    rcases hget_cases (b.take 512) with ⟨h, -⟩ | ⟨-, hg, hno⟩ | ⟨s, n, hp, hg⟩
    · omega
    · rw [hg]
      simp only
      rw [show header_Round.f 0 = some ((rnd 0 : Nat) : Int) from round_rnd 0 (by decide)]
      simp only [Option.bind_some]
      rw [if_pos (.inl (by decide))]
      refine .inr ⟨fun m h => ?_, rfl⟩
      obtain ⟨f, r, -, hf, hb⟩ := h.cons hC
      have e := entry_take hf (arcs r ++ Z1024)
      rw [← hb] at e
      exact hno f.f0 f.f1.length (by rw [e]; exact head_ok hf)
    · rw [hg]
      obtain ⟨p, q, ho⟩ := hput_ok hp
      obtain ⟨j, rfl⟩ : ∃ j : Nat, n = j := ⟨n.toNat, by have := ho.n0; omega⟩
      have hj : j ≤ 4194304 := by have := ho.n1; omega
      have hjr := rnd_ge' j
      simp only
      rw [round_rnd j (by omega)]
      simp only [Option.bind_some, true_and, not_true_eq_false, false_or]
      have hdl : (b.drop 512).length = b.length - 512 := by rw [List.length_drop]
      -- any way on begins with a file of this head
      have hone : ∀ m, Comes l m b → ∃ f r, m = f :: r ∧ FOk f ∧ b = entry f ++ (arcs r ++ Z1024) ∧ f.f0 = s ∧ f.f1.length = j := by
        intro m h
        obtain ⟨f, r, hm, hf, hb⟩ := h.cons hC
        have e := entry_take hf (arcs r ++ Z1024)
        rw [← hb] at e
        have h1 := head_ok hf
        rw [← e] at h1
        obtain ⟨i1, i2⟩ := hput_inj h1 hp
        exact ⟨f, r, hm, hf, hb, i1, by omega⟩
      by_cases hE : ((b.drop 512).length : Int) < ((rnd j : Nat) : Int)
      · rw [if_pos hE]
        refine .inr ⟨fun m h => ?_, rfl⟩
        obtain ⟨f, r, -, hf, hb, -, i2⟩ := hone m h
        have := congrArg List.length hb
        rw [List.length_append, List.length_append, entry_len hf, Z_len, i2] at this
        omega
      rw [if_neg hE, if_pos (by omega)]
      unfold header_Blank.f
      simp only [Option.bind_some, Int.toNat_natCast]
      by_cases hF : (((b.drop 512).take (rnd j)).drop j).all (fun x => x == 0) = false
      · rw [if_pos hF]
        refine .inr ⟨fun m h => ?_, rfl⟩
        obtain ⟨f, r, -, hf, hb, -, i2⟩ := hone m h
        rw [hb, entry_drop hf, ← i2, pad_mid, padOf, zero_all] at hF
        cases hF
      rw [if_neg hF]
      rw [Bool.not_eq_false] at hF
      have hpad := all_zero hF
      obtain ⟨d, hd⟩ : ∃ d, d = (b.drop 512).take j := ⟨_, rfl⟩
      obtain ⟨f, hfe⟩ : ∃ f : S58, f = ⟨s, d⟩ := ⟨_, rfl⟩
      have hdj : d.length = j := by rw [hd, List.length_take]; omega
      have hfk : headOf f = (b.take 512, 0) := by unfold headOf; rw [hfe]; simp only; rw [hdj]; exact hp
      have hfo : FOk f := by unfold FOk; rw [hfk]
      have hb : b = entry f ++ (b.drop 512).drop (rnd j) := by
        have e1 : ((b.drop 512).take (rnd j)).drop j = padOf f := by
          rw [hpad]
          unfold padOf
          rw [List.length_drop, List.length_take, hfe]
          simp only
          rw [hdj, Nat.min_eq_left (by omega)]
        have e2 : (b.drop 512).take (rnd j) = d ++ padOf f := by
          rw [← e1, hd]
          conv => lhs; rw [← List.take_append_drop j ((b.drop 512).take (rnd j))]
          rw [List.take_take, Nat.min_eq_left hjr]
        unfold entry
        rw [hfk, hfe]
        simp only
        rw [← hfe, ← e2, List.append_assoc, List.take_append_drop, List.take_append_drop]
      rw [← hd, ← hfe, w64 (by omega) (by omega)]
      have hks : addName (keys (l.map (·.f0))) s = keys ((l ++ [f]).map (·.f0)) := by
        rw [List.map_append, List.map_singleton, keys_snoc, hfe]
      have hsz : ((sizes l : Nat) : Int) + (j : Int) = ((sizes (l ++ [f]) : Nat) : Int) := by rw [sizes_snoc', hfe]; simp only; rw [hdj]; omega
      rw [hks, hsz]
      have hbl := congrArg List.length hb
      rw [List.length_append, entry_len hfo] at hbl
      have hfj : f.f1.length = j := by rw [hfe]; exact hdj
      rw [hfj] at hbl
      rcases getLoop_eq k ((b.drop 512).drop (rnd j)) (l ++ [f]) (by omega) ((hB.drop _).drop _) (fun g hg => by rcases List.mem_append.1 hg with hg | hg; exact hl g hg; rw [List.mem_singleton.1 hg]; exact hfo) (by rw [List.length_append, List.length_singleton]; omega) (by rw [sizes_snoc']; omega) with ⟨m, hm, hr⟩ | ⟨hm, hr⟩
      · refine .inl ⟨f :: m, ⟨?_, ?_⟩, ?_⟩
        · have := hm.1
          rwa [List.append_assoc, List.singleton_append] at this
        · rw [arcs, List.append_assoc, ← hm.2]; exact hb
        · rw [hr, List.append_assoc, List.singleton_append]
      · refine .inr ⟨fun m h => ?_, hr⟩
        obtain ⟨g, r, rfl, hg, hb', -, -⟩ := hone m h
        obtain ⟨rfl, e⟩ := entry_inj hfo hg (hb.symm.trans hb')
        refine hm r ⟨?_, e⟩
        have := h.1
        rwa [List.append_assoc, List.singleton_append]
theorem ustar_Get_eq (b : List Int) (h : Bts b) (hl : b.length ≤ 1000000) : ustar_Get.f b = some (uget b) := by
  unfold ustar_Get.f
  rcases getLoop_eq (b.length + 1) b [] (by omega) h (by simp) (by simpa using hl) (by simp [sizes]; omega) with ⟨m, hm, hr⟩ | ⟨hm, hr⟩
  · have hu : uput m = (b, 0) := uput_ok.2 (by have := hm.1; rw [List.nil_append, ← hm.2] at this; exact this)
    rw [uget_ok hu]
    simpa [keys, sizes] using hr
  · rw [uget_bad (fun m h => hm m ?_)]
    · simpa [keys, sizes] using hr
    · have h' := uput_ok.1 h
      exact ⟨by rw [List.nil_append, ← h'.b]; exact h', h'.b⟩
/-- paths of a size that strings have -/
def Sane (l : List S58) : Prop := ∀ f ∈ l, f.f0.size ≤ 9223372036854775807
theorem arcs_le : ∀ l : List S58, (∀ f ∈ l, FOk f) → (arcs l).length ≤ 1023 * l.length + sizes l
  | [], _ => by simp [arcs]
  | f :: r, h => by
    have ih := arcs_le r (fun g hg => h g (List.mem_cons_of_mem _ hg))
    have : rnd f.f1.length ≤ f.f1.length + 511 := by unfold rnd; omega
    rw [arcs, List.length_append, entry_len (h f (List.mem_cons_self ..)), List.length_cons]
    have e : sizes (f :: r) = f.f1.length + sizes r := by unfold sizes; simp
    omega
theorem putLoop_eq : ∀ (r l : List S58), Sane r → (∀ f ∈ l, FOk f) → (arcs l).length + 1023 * r.length + sizes r ≤ 80000000 →
    ∃ b ks, putLoop r (arcs l) (keys (l.map (·.f0))) = some (b, ks, badOf r) ∧ (badOf r = 0 → b = arcs (l ++ r) ∧ ks = keys ((l ++ r).map (·.f0)))
  | [], l, _, _, _ => ⟨_, _, rfl, fun _ => by rw [List.append_nil]; exact ⟨rfl, rfl⟩⟩
  | f :: r, l, hs, hl, hb => by
    unfold putLoop badOf
    rw [header_Put_eq _ _ (hs f (List.mem_cons_self ..))]
    simp only [Option.bind_some]
    by_cases h : (headOf f).2 = 0
    · rw [if_pos h, if_pos (show (hput f.f0 (f.f1.length : Int)).2 = 0 from h)]
      have e : sizes (f :: r) = f.f1.length + sizes r := by unfold sizes; simp
      rw [e, List.length_cons] at hb
      have hh := hput_len (head_ok h)
      have hrl : rnd f.f1.length ≤ f.f1.length + 511 := by unfold rnd; omega
      rw [if_pos (by have : (hput f.f0 (f.f1.length : Int)).1.length = 512 := hh; omega)]
      have ea : arcs l ++ ((hput f.f0 (f.f1.length : Int)).1 ++ (f.f1 ++ List.replicate (rnd f.f1.length - f.f1.length) 0)) = arcs (l ++ [f]) := by
        rw [arcs_app]; simp only [arcs, List.append_nil]; rfl
      have ek : addName (keys (l.map (·.f0))) f.f0 = keys ((l ++ [f]).map (·.f0)) := by rw [List.map_append, List.map_singleton, keys_snoc]
      rw [ea, ek]
      obtain ⟨b, ks, h1, h2⟩ := putLoop_eq r (l ++ [f]) (fun g hg => hs g (List.mem_cons_of_mem _ hg)) (fun g hg => by rcases List.mem_append.1 hg with hg | hg; exact hl g hg; rw [List.mem_singleton.1 hg]; exact h)
        (by rw [arcs_app, List.length_append]; simp only [arcs, List.append_nil]; rw [entry_len h]; omega)
      refine ⟨b, ks, h1, fun h0 => ?_⟩
      have := h2 h0
      rwa [List.append_assoc, List.singleton_append] at this
    · rw [if_neg h, if_neg (show ¬ (hput f.f0 (f.f1.length : Int)).2 = 0 from h)]
      exact ⟨_, _, rfl, fun h0 => absurd h0 h⟩
theorem ustar_Put_eq (l : List S58) (hs : Sane l) (h1 : l.length ≤ 100000) (h2 : sizes l ≤ 100000000) : ustar_Put.f l = some (uput l) := by
  unfold ustar_Put.f uput
  rw [if_pos ⟨h1, h2⟩]
  by_cases h : 400 < l.length ∨ 4194304 < sizes l
  · rw [if_pos h, if_pos h]
  rw [if_neg h, if_neg h]
  obtain ⟨b, ks, e, hb⟩ := putLoop_eq l [] hs (by simp) (by simp [arcs]; omega)
  simp only [arcs, List.map_nil] at e
  rw [show keys [] = [] from rfl] at e
  rw [e]
  simp only [Option.bind_some]
  by_cases h0 : badOf l = 0
  · obtain ⟨rfl, rfl⟩ := hb h0
    rw [if_pos h0, if_neg (not_not_intro h0)]
    rw [List.nil_append]
    by_cases hn : (l.map (·.f0)).Nodup
    · rw [if_pos hn, if_neg (fun h => (keys_lt l).1 h hn)]
    · rw [if_neg hn, if_pos ((keys_lt l).2 hn)]
  · rw [if_neg h0, if_pos h0]
end Go.Proofs.YtkcmkgkkddgicaaDoor.R

namespace Go.Proofs.YtkcmkgkkddgicaaDoor.R
open Go.RowKit Go.Proofs.YtkcmkgkkddgicaaDoorW.PrintWords Go.Proofs.YtkcmkgkkddgicaaDoorW.PrintLast Go.Proofs.YtkcmkgkkddgicaaDoorW.PrintMore
attribute [local go_sem] max2_int min2_int max_two min_two max_three min_three max_four min_four   -- for this text's walks alone
set_option linter.unusedVariables false
set_option linter.unusedSimpArgs false

/-! ### bindlelaw08_small: function 29 -/
def bindlelaw08_small.l0 : Nat → List (S58) → Int → Int → Option (Bool)
  | 0, _, _, _ => none
  | k + 1, x0, x3, x4 => if x4 < (x0.length : Int) then (if x4 < 41 then (if 0 ≤ x4 then (bindlelaw08_small.l0 k x0 (wrap64 (x3 + (((rd_T58 x0 x4).f1).length : Int))) (wrap64 (x4 + 1))) else (none)) else (if (x0.length : Int) ≤ 40 then (some (decide (x3 ≤ 20000))) else (some false))) else (if (x0.length : Int) ≤ 40 then (some (decide (x3 ≤ 20000))) else (some false))
def bindlelaw08_small.f (k : Nat) (l0 : List (S58)) : Option (Bool) := bindlelaw08_small.l0 k l0 0 0
theorem bindlelaw08_small.mono_l : ∀ k, (∀ y0 y1 y2, LeO (bindlelaw08_small.l0 k y0 y1 y2) (bindlelaw08_small.l0 (k + 1) y0 y1 y2))
  | 0 => fun _ _ _ r h => by simp [bindlelaw08_small.l0] at h
  | k + 1 => by
    have ih0 := bindlelaw08_small.mono_l k
    · intro y0 y1 y2
      unfold bindlelaw08_small.l0
      repeat' first
      | (with_reducible exact ih0 _ _ _)
      | (with_reducible exact LeO.refl _)
      | (with_reducible exact LeO.none _)
      | (with_reducible refine LeO.ite ?_ ?_)
      | (with_reducible refine LeO.bind ?_ (fun _ => ?_))
      | exact ih0 _ _ _
      | exact LeO.none _
      | refine LeO.ite ?_ ?_
      | refine LeO.bind ?_ (fun _ => ?_)
theorem bindlelaw08_small.mono : ∀ a0 k, LeO (bindlelaw08_small.f k a0) (bindlelaw08_small.f (k + 1) a0) := by
  intro a0 k
  have ih0 := bindlelaw08_small.mono_l k
  unfold bindlelaw08_small.f
  repeat' first
      | (with_reducible exact ih0 _ _ _)
      | (with_reducible exact LeO.refl _)
      | (with_reducible exact LeO.none _)
      | (with_reducible refine LeO.ite ?_ ?_)
      | (with_reducible refine LeO.bind ?_ (fun _ => ?_))
      | exact ih0 _ _ _
      | exact LeO.none _
      | refine LeO.ite ?_ ?_
      | refine LeO.bind ?_ (fun _ => ?_)
set_option maxHeartbeats 8000000 in
set_option maxRecDepth 100000 in
theorem bindlelaw08_small.calls (k : Nat) (A0 : Option Addr) (c0 : Nat) (l0 : List (S58)) (r : Bool) (w : World) (hr0 : Kd.C k58 w A0 l0.length l0) (hc0 : l0.length ≤ c0) (h : bindlelaw08_small.f k l0 = some r) :
    Calls Tryd.prog 29 #[.slice A0 l0.length c0] w fun e w' => e = .returned (.bool r) ∧ Drawn0 w w' := by
  have HR0 := Aside0.mk hr0
  have HC0 := Aside0.mk hc0
  clear hr0 hc0
  have H : (bindlelaw08_small.l0 k l0 0 0) = some r := h
  clear h
  have H' := Aside0.mk H
  clear H
  go_enter Tryd.func29, Tryd.ntmps29
  go_wp2
  go_loopg [3, 4] k (fun kq v3 v4 w' => ∃ (x3_1 : Int) (x4_1 : Int), v3 = .int .i64 x3_1 ∧ v4 = .int .i64 x4_1 ∧ Aside0 (bindlelaw08_small.l0 kq l0 x3_1 x4_1 = some r) ∧ Aside0 (kq ≤ k) ∧ Drawn0 w w')
  case atStart => exact ⟨(0), (0), (by first | rfl | (simp; done) | (simp [*]; done)), (by first | rfl | (simp; done) | (simp [*]; done)), H', ⟨Nat.le_refl _⟩, by repeat (first | exact Drawn0.refl _ | apply Drawn0.step)⟩
  case round =>
    clear H'
    obtain ⟨x3_1, x4_1, rfl, rfl, HA, HK1, ⟨m1, rfl⟩⟩ := hrel
    cases gk with
    | zero => exact absurd HA.out (by simp [bindlelaw08_small.l0])
    | succ k1 =>
      have H := HA.out
      clear HA
      simp only [bindlelaw08_small.l0] at H
      by_cases c2 : x4_1 < (l0.length : Int)
      · rw [if_pos c2] at H
        have c2b0 : decide (x4_1 < (l0.length : Int)) = true := decide_eq_true c2
        clear c2
        by_cases c3 : x4_1 < 41
        · rw [if_pos c3] at H
          have c3b0 : decide (x4_1 < 41) = true := decide_eq_true c3
          clear c3
          by_cases c4 : 0 ≤ x4_1
          · rw [if_pos c4] at H
            have c4b0 : decide (0 ≤ x4_1) = true := decide_eq_true c4
            clear c4
            have H' := Aside0.mk H
            clear H
            have p443 : 0 ≤ (x4_1 : Int) := of_decide_eq_true (by first | (with_reducible assumption) | assumption)
            have q443 : x4_1 < (l0.length : Int) := of_decide_eq_true (by first | (with_reducible assumption) | assumption)
            obtain ⟨ad443, A443_1, c443_1, e443, hx443_0, hx443_1, hl443_1, hi443_1⟩ := at_T58 HR0.out x4_1 p443 q443
            cases e443
            have HR443_1 := Aside0.mk hi443_1
            have HC443_1 := Aside0.mk hl443_1
            clear hi443_1 hl443_1
            replace p443 := eq_true p443
            replace q443 := eq_true q443
            go_wp2
            go_roundg k1
            case measure => have := HK1.out; omega
            case rel => exact ⟨(wrap64 (x3_1 + (((rd_T58 l0 x4_1).f1).length : Int))), (wrap64 (x4_1 + 1)), (by first | rfl | (simp; done) | (simp [*]; done)), (by first | rfl | (simp; done) | (simp [*]; done)), H', ⟨by have := HK1.out; omega⟩, by repeat (first | exact Drawn0.refl _ | apply Drawn0.step)⟩
          · rw [if_neg c4] at H
            exact absurd H (by simp)
        · rw [if_neg c3] at H
          have c3b0 : decide (x4_1 < 41) = false := decide_eq_false c3
          clear c3
          by_cases c5 : (l0.length : Int) ≤ 40
          · rw [if_pos c5] at H
            have c5b0 : decide ((l0.length : Int) ≤ 40) = true := decide_eq_true c5
            have c5b1 : decide (l0.length ≤ 40) = true := decide_eq_true (by omega)
            clear c5
            obtain rfl := Option.some.inj H
            go_wp2
            go_ret
            exact ⟨by first | rfl | (simp; done) | (simp [*]; done), by repeat (first | exact Drawn0.refl _ | apply Drawn0.step)⟩
          · rw [if_neg c5] at H
            have c5b0 : decide ((l0.length : Int) ≤ 40) = false := decide_eq_false c5
            have c5b1 : decide (l0.length ≤ 40) = false := decide_eq_false (by omega)
            clear c5
            obtain rfl := Option.some.inj H
            go_wp2
            go_ret
            exact ⟨by first | rfl | (simp; done) | (simp [*]; done), by repeat (first | exact Drawn0.refl _ | apply Drawn0.step)⟩
      · rw [if_neg c2] at H
        have c2b0 : decide (x4_1 < (l0.length : Int)) = false := decide_eq_false c2
        clear c2
        by_cases c6 : (l0.length : Int) ≤ 40
        · rw [if_pos c6] at H
          have c6b0 : decide ((l0.length : Int) ≤ 40) = true := decide_eq_true c6
          have c6b1 : decide (l0.length ≤ 40) = true := decide_eq_true (by omega)
          clear c6
          obtain rfl := Option.some.inj H
          go_wp2
          go_ret
          exact ⟨by first | rfl | (simp; done) | (simp [*]; done), by repeat (first | exact Drawn0.refl _ | apply Drawn0.step)⟩
        · rw [if_neg c6] at H
          have c6b0 : decide ((l0.length : Int) ≤ 40) = false := decide_eq_false c6
          have c6b1 : decide (l0.length ≤ 40) = false := decide_eq_false (by omega)
          clear c6
          obtain rfl := Option.some.inj H
          go_wp2
          go_ret
          exact ⟨by first | rfl | (simp; done) | (simp [*]; done), by repeat (first | exact Drawn0.refl _ | apply Drawn0.step)⟩

-- BY HAND: function 30 (ustar_Put)

end Go.Proofs.YtkcmkgkkddgicaaDoor.R

/- What the references of archives, and the laws' own helpers, answer: the plain answers of PlC. -/
set_option linter.unusedVariables false
set_option linter.unusedSimpArgs false
namespace Go.Proofs.YtkcmkgkkddgicaaDoor.R
open Go Go.RowKit Go.Proofs.YtkcmkgkkddgicaaDoorW.PrintWords Go.Proofs.YtkcmkgkkddgicaaDoorW.PrintLast Go.Proofs.YtkcmkgkkddgicaaDoorW.PrintMore
theorem ref_rnd_l0 (n : Nat) (h1 : n ≤ 1000000000) : ∀ (d k i : Nat), i + d = (n + 511) / 512 → d < k → bindleref07_Round.l0 k (n : Int) ((512 * i : Nat) : Int) = some ((rnd n : Nat) : Int)
  | 0, k, i, h, hk => by
    obtain ⟨k, rfl⟩ : ∃ j, k = j + 1 := ⟨k - 1, by omega⟩
    simp only [bindleref07_Round.l0]
    rw [if_neg (by omega)]
    unfold rnd
    exact congrArg some (by omega)
  | d + 1, k, i, h, hk => by
    obtain ⟨k, rfl⟩ : ∃ j, k = j + 1 := ⟨k - 1, by omega⟩
    simp only [bindleref07_Round.l0]
    rw [if_pos (by omega), w64b (by omega) (by omega), show ((512 * i : Nat) : Int) + 512 = ((512 * (i + 1) : Nat) : Int) by omega]
    exact ref_rnd_l0 n h1 d k (i + 1) (by omega) (by omega)
theorem ref_rnd {n k : Nat} (h1 : n ≤ 100000000) (hk : 200000 ≤ k) : bindleref07_Round.f k (n : Int) = some ((rnd n : Nat) : Int) :=
  ref_rnd_l0 n (by omega) ((n + 511) / 512) k 0 (by omega) (by omega)
theorem rdF {l : List S58} {i : Nat} (h : i < l.length) : rd_T58 l (i : Int) = l[i] := by
  show l.getD _ _ = _
  rw [Int.toNat_natCast, List.getD_eq_getElem?_getD, List.getElem?_eq_getElem h]; rfl
abbrev names (l : List S58) : List ByteArray := l.map (·.f0)
theorem names_get {l : List S58} {i : Nat} (h : i < l.length) : (names l)[i]'(by rw [List.length_map]; exact h) = l[i].f0 := by simp
theorem sizes_take_succ {l : List S58} {i : Nat} (h : i < l.length) : sizes (l.take (i + 1)) = sizes (l.take i) + l[i].f1.length := by
  rw [List.take_succ_eq_append_getElem h, sizes_snoc']
theorem sizes_le (l : List S58) (i : Nat) : sizes (l.take i) ≤ sizes l := sizes_take_le l i
theorem size_at {l : List S58} {i : Nat} (h : i < l.length) : l[i].f1.length ≤ sizes l := by
  have := sizes_take_succ h
  have := sizes_le l (i + 1)
  omega
/-! ### the reference's Put -/
/-- the two loops that look for a path twice -/
theorem ref08_l3 (l : List S58) (x6 : List Int) (hx : x6.length ≤ 100000000) (hl : l.length ≤ 100000) (R : Option (List Int × Int)) (hR : R = some (open Classical in if (names l).Nodup then (x6 ++ Z1024, 0) else ([], 7))) (i K : Nat) (hi : i < l.length)
    (hn : (names (l.take i)).Nodup) (ih : ∀ k, K ≤ k → (names (l.take (i + 1))).Nodup → bindleref08_Put.l2 k l x6 ((i + 1 : Nat) : Int) = R) :
    ∀ (d k j : Nat), j + d = i → K + d < k → (∀ j' (h : j' < l.length), j' < j → l[j'].f0 ≠ l[i].f0) → bindleref08_Put.l3 k l x6 (i : Int) (j : Int) = R
  | 0, k, j, h, hk, hj => by
    obtain ⟨k, rfl⟩ : ∃ j, k = j + 1 := ⟨k - 1, by omega⟩
    simp only [bindleref08_Put.l3]
    rw [if_neg (by omega), w64b (by omega) (by omega), show (i : Int) + 1 = ((i + 1 : Nat) : Int) by omega]
    refine ih k (by omega) ?_
    rw [List.take_succ_eq_append_getElem hi]
    unfold names
    rw [List.map_append, List.map_singleton, nodup_snoc]
    refine ⟨hn, fun hm => ?_⟩
    obtain ⟨f, hf, e⟩ := List.mem_map.1 hm
    obtain ⟨j', hj', e2⟩ := List.getElem_of_mem hf
    rw [List.length_take] at hj'
    rw [List.getElem_take] at e2
    exact hj j' (by omega) (by omega) (by rw [e2]; exact e)
  | d + 1, k, j, h, hk, hj => by
    obtain ⟨k, rfl⟩ : ∃ j, k = j + 1 := ⟨k - 1, by omega⟩
    have hjl : j < l.length := by omega
    simp only [bindleref08_Put.l3]
    rw [if_pos (by omega), if_pos (by omega), if_pos (by omega), if_pos (by omega), if_pos (by omega), rdF hi, rdF hjl]
    by_cases he : l[i].f0 = l[j].f0
    · rw [if_pos (by rw [he]), hR, if_neg]
      intro hnd
      have := (List.getElem_inj (xs := names l) (i := i) (j := j) (h₀ := by rw [List.length_map]; exact hi) (h₁ := by rw [List.length_map]; exact hjl) hnd).1 (by rw [names_get hi, names_get hjl, he])
      omega
    · rw [if_neg (fun e => he (ba_ext (by rw [← ByteArray.toList_eq, ← ByteArray.toList_eq]; exact e))), w64b (by omega) (by omega), show (j : Int) + 1 = ((j + 1 : Nat) : Int) by omega]
      refine ref08_l3 l x6 hx hl R hR i K hi hn ih d k (j + 1) (by omega) (by omega) ?_
      intro j' h' hlt
      by_cases e : j' = j
      · subst e; exact fun e => he e.symm
      · exact hj j' h' (by omega)
theorem ref08_l2 (l : List S58) (x6 : List Int) (hx : x6.length ≤ 100000000) (hl : l.length ≤ 100000) : ∀ (e k i : Nat), i + e = l.length → e * (l.length + 3) < k → (names (l.take i)).Nodup →
    bindleref08_Put.l2 k l x6 (i : Int) = some (open Classical in if (names l).Nodup then (x6 ++ Z1024, 0) else ([], 7))
  | 0, k, i, h, hk, hn => by
    obtain ⟨k, rfl⟩ : ∃ j, k = j + 1 := ⟨k - 1, by omega⟩
    rw [List.take_of_length_le (by omega)] at hn
    simp only [bindleref08_Put.l2]
    rw [if_neg (by omega), if_pos (by omega), if_pos hn]
  | e + 1, k, i, h, hk, hn => by
    obtain ⟨k, rfl⟩ : ∃ j, k = j + 1 := ⟨k - 1, by omega⟩
    simp only [bindleref08_Put.l2]
    rw [if_pos (by omega)]
    rw [Nat.succ_mul] at hk
    refine ref08_l3 l x6 hx hl _ rfl i (e * (l.length + 3) + 1) (by omega) hn (fun k hk' hn' => ref08_l2 l x6 hx hl e k (i + 1) (by omega) (by omega) hn') i k 0 (by omega) (by omega) (fun j' _ h0 => absurd h0 (Nat.not_lt_zero _))
noncomputable def endOf (bad : Int) (l : List S58) : List Int × Int := open Classical in if bad = 0 then (if (names l).Nodup then (arcs l ++ Z1024, 0) else ([], 7)) else ([], bad)
theorem ref08_l1 (l : List S58) (M : Nat) (hM : ∀ f ∈ l, f.f0.size ≤ M) (hM2 : M ≤ 140737488351232) (hl : l.length ≤ 400) (hs : sizes l ≤ 4194304) : ∀ (e k i : Nat), i + e = l.length → 3 * M + 300000 + e < k → (∀ f ∈ l.take i, FOk f) →
    bindleref08_Put.l1 k l (arcs (l.take i)) (i : Int) = some (endOf (badOf (l.drop i)) l)
  | 0, k, i, h, hk, ho => by
    obtain ⟨k, rfl⟩ : ∃ j, k = j + 1 := ⟨k - 1, by omega⟩
    rw [List.take_of_length_le (by omega)] at ho ⊢
    rw [show l.drop i = [] from List.drop_eq_nil_of_le (by omega)]
    unfold endOf
    rw [if_pos (show badOf [] = 0 from rfl)]
    have ha := arcs_le l ho
    have hm : l.length * (l.length + 3) ≤ 400 * 403 := Nat.mul_le_mul hl (by omega)
    simp only [bindleref08_Put.l1]
    rw [if_neg (by omega)]
    exact ref08_l2 l (arcs l) (by omega) (by omega) l.length k 0 (by omega) (by omega) (by simp)
  | e + 1, k, i, h, hk, ho => by
    obtain ⟨k, rfl⟩ : ∃ j, k = j + 1 := ⟨k - 1, by omega⟩
    have hi : i < l.length := by omega
    have hms := hM _ (List.getElem_mem hi)
    have hfs := size_at hi
    have ha := arcs_le (l.take i) ho
    have hst := sizes_le l i
    rw [List.length_take] at ha
    simp only [bindleref08_Put.l1]
    rw [if_pos (by omega), if_pos (by omega), rdF hi, ref07_Put_eq (by omega) (by omega), List.drop_eq_getElem_cons hi]
    simp only [Option.bind_some, badOf]
    by_cases h0 : (headOf l[i]).2 = 0
    · have hh : (hput l[i].f0 (l[i].f1.length : Int)).1.length = 512 := hput_len (head_ok h0)
      have hg := rnd_ge' l[i].f1.length
      have hr : rnd l[i].f1.length ≤ l[i].f1.length + 511 := by unfold rnd; omega
      rw [if_pos (show (hput l[i].f0 (l[i].f1.length : Int)).2 = 0 from h0), if_pos h0, if_pos (by omega)]
      rw [if_pos (by rw [List.length_append]; omega), ref_rnd (by omega) (by omega)]
      simp only [Option.bind_some]
      rw [w64b (n := ((rnd l[i].f1.length : Nat) : Int) - _) (by omega) (by omega), if_pos (by omega), if_pos (by rw [List.length_append, List.length_append]; omega), w64b (n := (i : Int) + 1) (by omega) (by omega), show (i : Int) + 1 = ((i + 1 : Nat) : Int) by omega,
        show (((rnd l[i].f1.length : Nat) : Int) - (l[i].f1.length : Int)).toNat = rnd l[i].f1.length - l[i].f1.length by omega]
      have ea : ((arcs (l.take i) ++ (hput l[i].f0 (l[i].f1.length : Int)).1) ++ l[i].f1) ++ List.replicate (rnd l[i].f1.length - l[i].f1.length) 0 = arcs (l.take (i + 1)) := by
        rw [List.take_succ_eq_append_getElem hi, arcs_app]
        simp only [arcs, List.append_nil, List.append_assoc]
        rfl
      rw [ea]
      exact ref08_l1 l M hM hM2 hl hs e k (i + 1) (by omega) (by omega) (fun f hf => by
        rw [List.take_succ_eq_append_getElem hi] at hf
        rcases List.mem_append.1 hf with hf | hf
        · exact ho f hf
        · rw [List.mem_singleton.1 hf]; exact h0)
    · rw [if_neg (show ¬ (hput l[i].f0 (l[i].f1.length : Int)).2 = 0 from h0), if_neg h0]
      unfold endOf
      rw [if_neg h0]; rfl
theorem ref08_l0 (l : List S58) (hl : l.length ≤ 100000) (hs : sizes l ≤ 100000000) (K : Nat) (R : Option (List Int × Int)) (hR : ∀ k, K ≤ k → (if (l.length : Int) > 400 then bindleref08_Put.j1 k l true else bindleref08_Put.j1 k l (decide (((sizes l : Nat) : Int) > 4194304))) = R) :
    ∀ (d k i : Nat), i + d = l.length → K + d < k → bindleref08_Put.l0 k l ((sizes (l.take i) : Nat) : Int) (i : Int) = R
  | 0, k, i, h, hk => by
    obtain ⟨k, rfl⟩ : ∃ j, k = j + 1 := ⟨k - 1, by omega⟩
    rw [List.take_of_length_le (by omega)]
    simp only [bindleref08_Put.l0]
    rw [if_neg (by omega)]
    exact hR k (by omega)
  | d + 1, k, i, h, hk => by
    obtain ⟨k, rfl⟩ : ∃ j, k = j + 1 := ⟨k - 1, by omega⟩
    have hi : i < l.length := by omega
    have h1 := sizes_take_succ hi
    have h2 := sizes_le l (i + 1)
    simp only [bindleref08_Put.l0]
    rw [if_pos (by omega), if_pos (by omega), rdF hi, w64b (n := (i : Int) + 1) (by omega) (by omega), w64b (by omega) (by omega), show ((sizes (l.take i) : Nat) : Int) + (l[i].f1.length : Int) = ((sizes (l.take (i + 1)) : Nat) : Int) by omega, show (i : Int) + 1 = ((i + 1 : Nat) : Int) by omega]
    exact ref08_l0 l hl hs K R hR d k (i + 1) (by omega) (by omega)
theorem ref08_Put_eq {l : List S58} {M k : Nat} (hM : ∀ f ∈ l, f.f0.size ≤ M) (hM2 : M ≤ 140737488351232) (hl : l.length ≤ 100000) (hs : sizes l ≤ 100000000) (hk : 3 * M + 500000 < k) : bindleref08_Put.f k l = some (uput l) := by
  unfold bindleref08_Put.f
  have key := ref08_l0 l hl hs (3 * M + 350000) (some (uput l)) ?_ l.length k 0 (by omega) (by omega)
  · exact key
  intro k hk
  obtain ⟨k, rfl⟩ : ∃ j, k = j + 1 := ⟨k - 1, by omega⟩
  unfold uput
  by_cases h1 : 400 < l.length
  · rw [if_pos (by omega), if_pos (.inl h1)]
    simp only [bindleref08_Put.j1]
    rw [if_pos trivial]
  · rw [if_neg (by omega)]
    simp only [bindleref08_Put.j1]
    by_cases h2 : 4194304 < sizes l
    · rw [if_pos (decide_eq_true (by omega)), if_pos (.inr h2)]
    · rw [if_neg (by simp only [decide_eq_true_eq]; omega), if_neg (by omega)]
      have := ref08_l1 l M hM hM2 (by omega) (by omega) l.length k 0 (by omega) (by omega) (by simp)
      rw [List.drop_zero] at this
      rw [show ((0 : Nat) : Int) = 0 from rfl, List.take_zero] at this
      refine Eq.trans this (congrArg some ?_)
      unfold endOf
      by_cases h3 : badOf l = 0
      · rw [if_pos h3, if_neg (not_not_intro h3)]
      · rw [if_neg h3, if_pos h3]
/-! ### the reference's Get -/
theorem mem_arcs {l : List S58} {f : S58} (h : f ∈ l) : ∀ x ∈ f.f1, x ∈ arcs l := by
  induction l with
  | nil => simp at h
  | cons g r ih =>
    intro x hx
    rcases List.mem_cons.1 h with rfl | h
    · refine List.mem_append_left _ ?_
      exact List.mem_append_right _ (List.mem_append_left _ hx)
    · exact List.mem_append_right _ (ih h x hx)
theorem put_bts {l : List S58} {b : List Int} (h : uput l = (b, 0)) (hB : Bts b) : ∀ f ∈ l, Bts f.f1 := by
  have h := uput_ok.1 h
  intro f hf x hx
  exact hB x (by rw [h.b]; exact List.mem_append_left _ (mem_arcs hf x hx))
theorem put_sane {l : List S58} {b : List Int} (h : uput l = (b, 0)) : ∀ f ∈ l, f.f0.size ≤ 256 := by
  have h := uput_ok.1 h
  intro f hf
  obtain ⟨p, q, ho⟩ := hput_ok (head_ok (h.ok f hf))
  exact ho.size_le
theorem Bts_entry {f : S58} (h : Bts f.f1) : Bts (entry f) := (hput_bts _ _).app (h.app (Bts_rep _))
theorem Bts_arcs : ∀ l : List S58, (∀ f ∈ l, Bts f.f1) → Bts (arcs l)
  | [], _ => fun x hx => by simp [arcs] at hx
  | f :: r, h => (Bts_entry (h f (List.mem_cons_self ..))).app (Bts_arcs r (fun g hg => h g (List.mem_cons_of_mem _ hg)))
theorem uput_bts {l : List S58} (h : ∀ f ∈ l, Bts f.f1) : Bts (uput l).1 := by
  by_cases h0 : (uput l).2 = 0
  · rw [(uput_ok.1 (show uput l = ((uput l).1, 0) by rw [← h0])).b]
    exact (Bts_arcs l h).app (by unfold Z1024; exact Bts_rep 1024)
  · rw [uput_bad h0]; exact fun x hx => by simp at hx
theorem Get_exit (b : List Int) (hB : Bts b) (hb : b.length ≤ 1000000) (k at_ : Nat) (l : List S58) (h1 : ¬ at_ + 1024 < b.length) (hk : 600000 < k) (hz : ∀ f ∈ l, f.f0.size ≤ 256) (hzb : ∀ f ∈ l, Bts f.f1) (hl : 512 * l.length ≤ at_) (hs : sizes l ≤ at_) (hat : at_ ≤ b.length + 511)
    (hm : ∀ m, uput m = (b, 0) → ∃ r, m = l ++ r ∧ at_ = (arcs l).length) : bindleref08_Get.l0 k b l (at_ : Int) = some (uget b) := by
  obtain ⟨k, rfl⟩ : ∃ j, k = j + 1 := ⟨k - 1, by omega⟩
  simp only [bindleref08_Get.l0]
  rw [w64b (n := (at_ : Int) + 1024) (by omega) (by omega)]
  rw [if_neg (by omega), ref08_Put_eq (M := 256) hz (by decide) (by omega) (by omega) (by omega)]
  simp only [Option.bind_some]
  have hend : ∀ m, uput m = (b, 0) → uput l = (b, 0) := by
    intro m h
    obtain ⟨r, rfl, ha⟩ := hm m h
    have h' := uput_ok.1 h
    have hbe := congrArg List.length h'.b
    rw [arcs_app, List.length_append, List.length_append, Z_len] at hbe
    cases r with
    | nil => rw [List.append_nil] at h; exact h
    | cons f r =>
      rw [arcs, List.length_append, entry_len (h'.ok f (List.mem_append_right _ (List.mem_cons_self ..)))] at hbe
      omega
  by_cases h2 : uput l = (b, 0)
  · rw [h2, uget_ok h2]
    simp only
    rw [if_pos trivial, if_pos trivial]
  · rw [uget_bad (fun m h => h2 (hend m h))]
    by_cases h3 : (uput l).2 = 0
    · rw [if_pos h3]
      rw [if_neg]
      intro e
      exact h2 (by rw [← (str_eq (uput_bts hzb) hB).1 e, ← h3])
    · rw [if_neg h3]
theorem Get_l0 (b : List Int) (hB : Bts b) (hb : b.length ≤ 1000000) (d : Nat) : ∀ (k at_ : Nat) (l : List S58), b.length ≤ at_ + 512 * d → d + 600000 < k → (∀ f ∈ l, f.f0.size ≤ 256) → (∀ f ∈ l, Bts f.f1) → 512 * l.length ≤ at_ → sizes l ≤ at_ → at_ ≤ b.length + 511 →
    (∀ m, uput m = (b, 0) → ∃ r, m = l ++ r ∧ at_ = (arcs l).length) → bindleref08_Get.l0 k b l (at_ : Int) = some (uget b) := by
  induction d with
  | zero =>
    intro k at_ l hd hk hz hzb hl hs hat hm
    exact Get_exit b hB hb k at_ l (by omega) (by omega) hz hzb hl hs hat hm
  | succ d ih =>
    intro k at_ l hd hk hz hzb hl hs hat hm
    by_cases h1 : at_ + 1024 < b.length
    case neg => exact Get_exit b hB hb k at_ l h1 (by omega) hz hzb hl hs hat hm
    obtain ⟨k, rfl⟩ : ∃ j, k = j + 1 := ⟨k - 1, by omega⟩
    simp only [bindleref08_Get.l0]
    rw [w64b (n := (at_ : Int) + 1024) (by omega) (by omega), w64b (n := (at_ : Int) + 512) (by omega) (by omega)]
    · have hc : (b.take (at_ + 512)).drop at_ = (b.drop at_).take 512 := by rw [List.drop_take]; congr 1; omega
      have hcl : ((b.drop at_).take 512).length = 512 := by rw [List.length_take, List.length_drop]; omega
      rw [if_pos (by omega), if_pos (by omega), if_pos (by omega), if_pos (by omega), show ((at_ : Int) + 512).toNat = at_ + 512 by omega, Int.toNat_natCast, hc, ref07_Get_eq ((hB.drop _).take _) (by omega) (by omega)]
      simp only [Option.bind_some]
      -- whatever archive this is goes on with a file here
      have hone : ∀ m, uput m = (b, 0) → ∃ f r, m = l ++ f :: r ∧ at_ = (arcs l).length ∧ FOk f ∧ b.drop at_ = entry f ++ (arcs r ++ Z1024) := by
        intro m h
        obtain ⟨r, rfl, ha⟩ := hm m h
        have h' := uput_ok.1 h
        have hbe := h'.b
        rw [arcs_app, List.append_assoc] at hbe
        cases r with
        | nil =>
          have := congrArg List.length hbe
          rw [arcs, List.nil_append, List.length_append, Z_len] at this
          omega
        | cons f r =>
          refine ⟨f, r, rfl, ha, h'.ok f (List.mem_append_right _ (List.mem_cons_self ..)), ?_⟩
          rw [hbe, app_drop ha.symm, arcs, List.append_assoc]
      rcases hget_cases ((b.drop at_).take 512) with ⟨h, -⟩ | ⟨-, hg, hno⟩ | ⟨s, n, hp, hg⟩
      · omega
      · rw [hg, if_neg (by decide), uget_bad]
        intro m h
        obtain ⟨f, r, -, -, hf, e⟩ := hone m h
        refine hno f.f0 f.f1.length ?_
        rw [e, entry_take hf]; exact head_ok hf
      · rw [hg]
        obtain ⟨p, q, ho⟩ := hput_ok hp
        obtain ⟨j, rfl⟩ : ∃ j : Nat, n = j := ⟨n.toNat, by have := ho.n0; omega⟩
        have hj : j ≤ 4194304 := by have := ho.n1; omega
        have hr : rnd j ≤ j + 511 := by unfold rnd; omega
        have hg2 := rnd_ge' j
        have hone2 : ∀ m, uput m = (b, 0) → ∃ f r, m = l ++ f :: r ∧ at_ = (arcs l).length ∧ FOk f ∧ b.drop at_ = entry f ++ (arcs r ++ Z1024) ∧ f.f0 = s ∧ f.f1.length = j := by
          intro m h
          obtain ⟨f, r, e1, e2, hf, e⟩ := hone m h
          have h3 := head_ok hf
          rw [← entry_take hf (arcs r ++ Z1024), ← e] at h3
          obtain ⟨i1, i2⟩ := hput_inj h3 hp
          exact ⟨f, r, e1, e2, hf, e, i1, by omega⟩
        simp only
        rw [if_pos trivial, w64b (n := (at_ : Int) + 512 + (j : Int)) (by omega) (by omega)]
        by_cases h2 : (at_ : Int) + 512 + (j : Int) > (b.length : Int)
        · rw [if_pos h2, uget_bad]
          intro m h
          obtain ⟨f, r, -, -, hf, e, i1, i2⟩ := hone2 m h
          have := congrArg List.length e
          rw [List.length_drop, List.length_append, entry_len hf, i2] at this
          omega
        · rw [if_neg h2, if_pos (by omega), if_pos (by omega), if_pos (by omega), if_pos (by omega), ref_rnd (by omega) (by omega)]
          simp only [Option.bind_some]
          rw [w64b (n := (at_ : Int) + 512 + ((rnd j : Nat) : Int)) (by omega) (by omega), show (at_ : Int) + 512 + ((rnd j : Nat) : Int) = ((at_ + 512 + rnd j : Nat) : Int) by omega, show ((at_ : Int) + 512 + (j : Int)).toNat = at_ + 512 + j by omega]
          have hdl : ((b.take (at_ + 512 + j)).drop (at_ + 512)).length = j := by rw [List.length_drop, List.length_take]; omega
          refine ih k (at_ + 512 + rnd j) _ (by omega) (by omega) ?_ ?_ ?_ ?_ (by omega) ?_
          · intro f hf
            rcases List.mem_append.1 hf with hf | hf
            · exact hz f hf
            · rw [List.mem_singleton.1 hf]; exact ho.size_le
          · intro f hf
            rcases List.mem_append.1 hf with hf | hf
            · exact hzb f hf
            · rw [List.mem_singleton.1 hf]; exact (hB.take _).drop _
          · rw [List.length_append, List.length_singleton]; omega
          · rw [sizes_snoc']; simp only; rw [hdl]; omega
          · intro m h
            obtain ⟨f, r, e1, e2, hf, e, i1, i2⟩ := hone2 m h
            have ed : (b.take (at_ + 512 + j)).drop (at_ + 512) = f.f1 := by
              have e3 : b.drop (at_ + 512) = f.f1 ++ (padOf f ++ (arcs r ++ Z1024)) := by rw [← List.drop_drop, e, entry_drop hf]
              rw [List.drop_take, e3, show at_ + 512 + j - (at_ + 512) = j by omega, app_take i2]
            have ef : (⟨s, (b.take (at_ + 512 + j)).drop (at_ + 512)⟩ : S58) = f := by rw [ed, ← i1]
            rw [ef]
            refine ⟨r, by rw [List.append_assoc, List.singleton_append]; exact e1, ?_⟩
            rw [arcs_app, List.length_append, ← e2]
            simp only [arcs, List.append_nil]
            rw [entry_len hf, i2]; omega
theorem ref08_Get_eq {b : List Int} {k : Nat} (hB : Bts b) (hb : b.length ≤ 1000000) (hk : 700000 < k) : bindleref08_Get.f k b = some (uget b) :=
  Get_l0 b hB hb 2000 k 0 [] (by omega) (by omega) (by simp) (by simp) (by simp) (by simp [sizes]) (by omega) (fun m h => ⟨m, rfl, rfl⟩)
/-! ### Same, small -/
noncomputable def sameB (l m : List S58) : Bool := @decide (l = m) (Classical.propDecidable _)
theorem sameB_iff {l m : List S58} : sameB l m = true ↔ l = m := by unfold sameB; exact @decide_eq_true_iff (l = m) (Classical.propDecidable _)
theorem sameB_eq {l m l' m' : List S58} (h : l = m ↔ l' = m') : sameB l m = sameB l' m' := by rw [Bool.eq_iff_iff, sameB_iff, sameB_iff, h]
theorem sameB_no {l m : List S58} (h : l ≠ m) : sameB l m = false := by rw [Bool.eq_false_iff, Ne, sameB_iff]; exact h
theorem Same_l0 (l m : List S58) (hl : l.length = m.length) (hb : l.length ≤ 140737488351232) (h1 : ∀ f ∈ l, Bts f.f1) (h2 : ∀ f ∈ m, Bts f.f1) : ∀ (d k i : Nat), i + d = l.length → d < k →
    bindleref08_Same.l0 k l m (i : Int) = some (sameB (l.drop i) (m.drop i))
  | 0, k, i, h, hk => by
    obtain ⟨k, rfl⟩ : ∃ j, k = j + 1 := ⟨k - 1, by omega⟩
    simp only [bindleref08_Same.l0]
    rw [if_neg (by omega), show l.drop i = [] from List.drop_eq_nil_of_le (by omega), show m.drop i = [] from List.drop_eq_nil_of_le (by omega), sameB_iff.2 rfl]
  | d + 1, k, i, h, hk => by
    obtain ⟨k, rfl⟩ : ∃ j, k = j + 1 := ⟨k - 1, by omega⟩
    have hi : i < l.length := by omega
    have hj : i < m.length := by omega
    simp only [bindleref08_Same.l0]
    rw [if_pos (by omega), if_pos (by omega), if_pos (by omega), rdF hi, rdF hj, w64b (by omega) (by omega), show (i : Int) + 1 = ((i + 1 : Nat) : Int) by omega, Same_l0 l m hl hb h1 h2 d k (i + 1) (by omega) (by omega), List.drop_eq_getElem_cons hi, List.drop_eq_getElem_cons hj]
    by_cases e0 : l[i].f0 = m[i].f0
    · rw [if_pos (by rw [e0])]
      by_cases e1 : l[i].f1 = m[i].f1
      · rw [if_pos (by rw [e1])]
        refine congrArg some (sameB_eq ?_)
        rw [List.cons.injEq]
        exact ⟨fun h => ⟨f_ext e0 e1, h⟩, fun h => h.2⟩
      · rw [if_neg (fun e => e1 ((str_eq (h1 _ (List.getElem_mem hi)) (h2 _ (List.getElem_mem hj))).1 e))]
        refine congrArg some (sameB_no ?_).symm
        rw [Ne, List.cons.injEq]
        exact fun h => e1 (by rw [h.1])
    · rw [if_neg (fun e => e0 (ba_ext (by rw [← ByteArray.toList_eq, ← ByteArray.toList_eq]; exact e)))]
      refine congrArg some (sameB_no ?_).symm
      rw [Ne, List.cons.injEq]
      exact fun h => e0 (by rw [h.1])
theorem Same_eq {l m : List S58} {k : Nat} (hb : l.length ≤ 140737488351232) (h1 : ∀ f ∈ l, Bts f.f1) (h2 : ∀ f ∈ m, Bts f.f1) (hk : l.length < k) : bindleref08_Same.f k l m = some (sameB l m) := by
  unfold bindleref08_Same.f
  by_cases h : l.length = m.length
  · rw [if_pos (by omega)]
    have := Same_l0 l m h hb h1 h2 l.length k 0 (by omega) hk
    rw [List.drop_zero, List.drop_zero] at this
    exact this
  · rw [if_neg (by omega)]
    exact congrArg some (sameB_no (fun e => h (by rw [e]))).symm
theorem small_l0 (l : List S58) (hb : ∀ f ∈ l, f.f1.length ≤ 140737488351232) : ∀ (d k i : Nat), i + d = 41 → i ≤ l.length → d < k →
    bindlelaw08_small.l0 k l ((sizes (l.take i) : Nat) : Int) (i : Int) = some (decide (l.length ≤ 40) && decide (sizes l ≤ 20000))
  | 0, k, i, h, hl, hk => by
    obtain ⟨k, rfl⟩ : ∃ j, k = j + 1 := ⟨k - 1, by omega⟩
    simp only [bindlelaw08_small.l0]
    rw [if_neg (show ¬ (i : Int) < 41 by omega), if_neg (show ¬ (l.length : Int) ≤ 40 by omega), decide_eq_false (show ¬ l.length ≤ 40 by omega), ite_self]; rfl
  | d + 1, k, i, h, hl, hk => by
    obtain ⟨k, rfl⟩ : ∃ j, k = j + 1 := ⟨k - 1, by omega⟩
    have hsz : sizes (l.take i) ≤ i * 140737488351232 := by
      have : ∀ (n : Nat), n ≤ l.length → sizes (l.take n) ≤ n * 140737488351232 := by
        intro n
        induction n with
        | zero => intro _; simp [sizes]
        | succ n ih =>
          intro hn
          have := hb _ (List.getElem_mem (show n < l.length by omega))
          rw [sizes_take_succ (by omega), Nat.succ_mul]
          have := ih (by omega)
          omega
      exact this i hl
    have hi40 : i ≤ 40 := by omega
    simp only [bindlelaw08_small.l0]
    by_cases hi : i < l.length
    · have := hb _ (List.getElem_mem hi)
      have h2 := sizes_take_succ hi
      rw [if_pos (by omega), if_pos (by omega), if_pos (by omega), rdF hi, w64b (n := (i : Int) + 1) (by omega) (by omega), w64b (by omega) (by omega), show ((sizes (l.take i) : Nat) : Int) + (l[i].f1.length : Int) = ((sizes (l.take (i + 1)) : Nat) : Int) by omega, show (i : Int) + 1 = ((i + 1 : Nat) : Int) by omega]
      exact small_l0 l hb d k (i + 1) (by omega) (by omega) (by omega)
    · rw [if_neg (by omega), if_pos (by omega), List.take_of_length_le (by omega), decide_eq_true (show l.length ≤ 40 by omega), Bool.true_and]
      congr 1
      rw [decide_eq_decide]; omega
theorem small_eq {l : List S58} {k : Nat} (hb : ∀ f ∈ l, f.f1.length ≤ 140737488351232) (hk : 41 < k) : bindlelaw08_small.f k l = some (decide (l.length ≤ 40) && decide (sizes l ≤ 20000)) :=
  small_l0 l hb 41 k 0 (by omega) (by omega) hk
end Go.Proofs.YtkcmkgkkddgicaaDoor.R

/- What the pure laws of layer 8 share. -/
set_option linter.unusedVariables false
set_option linter.unusedSimpArgs false
namespace Go.Proofs.YtkcmkgkkddgicaaDoor.R
open Go Go.RowKit Go.Proofs.YtkcmkgkkddgicaaDoorW.PrintWords Go.Proofs.YtkcmkgkkddgicaaDoorW.PrintLast Go.Proofs.YtkcmkgkkddgicaaDoorW.PrintMore
/-- files as an argument has them -/
structure Arg (l : List S58) : Prop where
  name : ∀ f ∈ l, f.f0.size ≤ 140737488351232
  data : ∀ f ∈ l, f.f1.length ≤ 140737488351232
  bts : ∀ f ∈ l, Bts f.f1
theorem many : ∃ k : Nat, 500000000000000 < k := ⟨500000000000001, by decide⟩
theorem Arg.sane {l : List S58} (h : Arg l) : Sane l := fun f hf => by have := h.name f hf; omega
theorem awake08_f : bindlelaw08_awake.f = some true := rfl
theorem small_cases {l : List S58} (h : Arg l) {k : Nat} (hk : 41 < k) : bindlelaw08_small.f k l = some false ∨ (bindlelaw08_small.f k l = some true ∧ l.length ≤ 40 ∧ sizes l ≤ 20000) := by
  rw [small_eq h.data hk]
  by_cases h1 : l.length ≤ 40
  · by_cases h2 : sizes l ≤ 20000
    · right; rw [decide_eq_true h1, decide_eq_true h2]; exact ⟨rfl, h1, h2⟩
    · left; rw [decide_eq_false h2, Bool.and_false]
  · left; rw [decide_eq_false h1, Bool.false_and]
theorem uput_split {l : List S58} (h : (uput l).2 = 0) : uput l = ((uput l).1, 0) := by rw [← h]
theorem uput_len {l : List S58} (h : (uput l).2 = 0) (h1 : l.length ≤ 40) (h2 : sizes l ≤ 20000) : (uput l).1.length ≤ 70000 ∧ 1024 ≤ (uput l).1.length := by
  have h' := uput_ok.1 (uput_split h)
  have := arcs_le l h'.ok
  have e := congrArg List.length h'.b
  rw [List.length_append, Z_len] at e
  omega
theorem atMod (a : Int) (n : Nat) (h0 : 0 ≤ a) (h1 : a < 65536) (hn : 0 < n) : ∃ j : Nat, Int.tmod (wrap64 a) (n : Int) = j ∧ j < n := by
  rw [w64b (by omega) (by omega), Int.tmod_eq_emod_of_nonneg h0]
  have h2 := Int.emod_nonneg a (show (n : Int) ≠ 0 by omega)
  have h3 := Int.emod_lt_of_pos a (show (0 : Int) < n by omega)
  exact ⟨(a % (n : Int)).toNat, by omega, by omega⟩
end Go.Proofs.YtkcmkgkkddgicaaDoor.R

/- An argument that is a list of files: what it reads as. -/
set_option linter.unusedVariables false
set_option linter.unusedSimpArgs false
namespace Go.Proofs.YtkcmkgkkddgicaaDoor.R
open Go Go.RowKit Go.ChangeShapes Go.WideShapes Go.Proofs.YtkcmkgkkddgicaaDoorW.PrintWords Go.Proofs.YtkcmkgkkddgicaaDoorW.PrintLast Go.Proofs.YtkcmkgkkddgicaaDoorW.PrintMore
section
variable {H : Type} {enc : TypeId × Value → H} {W : World}
theorem u8_wf' {x : Int} (h : (Lit.int .u8 x).wf = true) : 0 ≤ x ∧ x < 256 := by
  simp only [Lit.wf, Bool.and_eq_true, decide_eq_true_eq] at h
  have e1 : IntKind.u8.min = 0 := by decide
  have e2 : IntKind.u8.max = 255 := by decide
  omega
theorem open_bytes {fuel : Nat} {v : Value} {D : DataW H} {Q : List MemPlace} (h : DataW.trod enc Tryd.prog W 0 (fun _ => true) true fuel 22 [v] = some (D, Q)) :
    ∃ A c, ∃ l : List Int, v = .slice A l.length c ∧ l.length ≤ c ∧ Kd.C (Kd.int .u8) W A l.length l ∧ Bts l ∧ (l.length = 0 ∨ ∃ m ∈ D.weights Tryd.prog 22, l.length ≤ m) := by
  rcases open_ints Tryd.underlying22 Tryd.underlying5 (by kernel_rfl) h with ⟨hcs, _⟩ | ⟨x, n, c, zs, hcs, _, hl, hm, hz, hx, hcell, hwz⟩
  · obtain rfl := List.singleton_inj.1 hcs
    exact ⟨none, 0, [], rfl, Nat.le_refl _, ⟨rfl, by decide, fun h => absurd h (by decide)⟩, fun x hx => by simp at hx, .inl rfl⟩
  · obtain rfl := List.singleton_inj.1 hcs
    have hz' : zs.length = c := by simpa using hz
    obtain ⟨l, rfl, hr, hml, hw, hc⟩ := ReadsInt.ofRowC (k := .u8) (w := W) (a := some x) (len := n) (cap := c) (zs := zs) (.inr ⟨x, rfl, hl, hm, hz', hcell, hwz⟩)
    refine ⟨some x, c, l, rfl, hc, Kd.C_of_reads (d := (0 : Int)) (h1 := fun _ => rfl) hr, fun y hy => u8_wf' (hw y hy), .inr ⟨zs.length, ?_, by omega⟩⟩
    obtain ⟨rfl, -⟩ := Prod.mk.inj hx
    have hu := Tryd.underlying22
    have hb : Tryd.prog.bytesOf 5 = 1 := by kernel_rfl
    simp only [DataW.weights, hu, hb]
    refine List.mem_cons.2 (.inl ?_)
    simp only [lits, List.length_map, List.length_take, List.length_drop]
    omega
theorem weights_all {P : Program} {e : TypeId} {n : Nat} {d : DataW H} : ∀ {l : List (DataW H)}, d ∈ l → n ∈ d.weights P e → n ∈ DataW.weightsAll P e l
  | [], h, _ => by simp at h
  | x :: r, h, hn => by
    simp only [DataW.weightsAll, List.mem_append]
    rcases List.mem_cons.1 h with rfl | h
    · exact .inl hn
    · exact .inr (weights_all h hn)
set_option maxRecDepth 100000 in
theorem open_files {base j : Nat} {v : Value} {d : DataW H} {ps : List MemPlace} {ts : List TypeId} {ds : List (DataW H)}
    (hsz : (DataW.weightsEach Tryd.prog ts ds).all (· ≤ reachBytes) = true) (ht : ts[j]? = some 45) (hd : ds[j]? = some d) (hval : Value.okWide Tryd.prog W .any base 45 v) (h : DataW.Trod enc Tryd.prog W 0 (fun _ => true) true 45 v d ps) :
    ∃ A c, ∃ l : List S58, v = .slice A l.length c ∧ l.length ≤ c ∧ Kd.C k58 W A l.length l ∧ Arg l := by
  obtain ⟨a, len, cap, rfl⟩ := okWide_slice Tryd.underlying45 hval
  obtain ⟨fuel, hf⟩ := h
  have hall := List.all_eq_true.1 hsz
  have hw : ∀ n ∈ d.weights Tryd.prog 45, n ≤ 140737488351232 := by
    intro n hn
    have z : decide (n ≤ reachBytes) = true := hall n (DataW.weights_mem_each ht hd n hn)
    have z2 : n ≤ reachBytes := of_decide_eq_true z
    exact z2
  rcases Go.Deep.open_slice_pairs Tryd.underlying45 Tryd.underlying58 (by kernel_rfl) rfl rfl (by kernel_rfl) (by kernel_rfl) hf with ⟨hcs, _⟩ | ⟨x, n, c, m, fu, V0, V1, D0, D1, P0, P1, hcs, _, hl, hm, hmm, hx, hcell⟩
  · simp [Value.cells] at hcs
    obtain ⟨rfl, rfl, rfl⟩ := hcs
    exact ⟨none, 0, [], rfl, Nat.le_refl _, ⟨rfl, by decide, fun h => absurd h (by decide)⟩, ⟨by simp, by simp, by simp⟩⟩
  · simp [Value.cells] at hcs
    obtain ⟨rfl, rfl, rfl⟩ := hcs
    have hmc : m = cap := by simpa using hmm
    subst hmc
    obtain ⟨rfl, -⟩ := Prod.mk.inj hx
    have each : ∀ i, ∃ f : S58, i < len → W.cell? (x.add (i * 2)) = some (.string f.f0) ∧ (∃ A' c', W.cell? (x.add (i * 2 + 1)) = some (.slice A' f.f1.length c') ∧ f.f1.length ≤ c' ∧ Kd.C (Kd.int .u8) W A' f.f1.length f.f1) ∧ f.f0.size ≤ 140737488351232 ∧ f.f1.length ≤ 140737488351232 ∧ Bts f.f1 := by
      intro i
      by_cases hi : i < len
      · obtain ⟨g0, g1, t0, t1⟩ := hcell i (by omega)
        obtain ⟨s, c0, e0, _⟩ := DataW.trod_string Tryd.underlying9 t0
        obtain ⟨A', c', l, e1, hlc, hC, hB, hwl⟩ := open_bytes t1
        have v0 := List.singleton_inj.1 c0
        obtain ⟨d0, -⟩ := Prod.mk.inj e0
        have hin : ∀ n ∈ (DataW.agg [D0 i, D1 i]).weights Tryd.prog 58, n ≤ 140737488351232 := by
          intro n hn
          refine hw n ?_
          have hu := Tryd.underlying45
          simp only [DataW.weights, hu]
          refine List.mem_cons_of_mem _ (List.mem_append_left _ (weights_all (List.mem_map.2 ⟨i, List.mem_range.2 hi, rfl⟩) hn))
        have hue := Tryd.underlying58
        simp only [DataW.weights, hue, List.map_cons, List.map_nil, DataW.weightsEach, List.mem_append] at hin
        refine ⟨⟨s, l⟩, fun _ => ⟨by rw [g0, v0], ⟨A', c', by rw [g1, e1], hlc, hC⟩, ?_, ?_, hB⟩⟩
        · have := hin s.data.toList.length (.inl (by rw [d0]; simp [DataW.weights]))
          rwa [← size_len] at this
        · rcases hwl with h0 | ⟨m, hm1, hm2⟩
          · simp only; omega
          · exact Nat.le_trans hm2 (hin m (.inr (.inl hm1)))
      · exact ⟨⟨⟨#[]⟩, []⟩, fun h => absurd h hi⟩
    obtain ⟨g, hg⟩ := Classical.axiomOfChoice each
    have hlen : ((List.range len).map g).length = len := by simp
    refine ⟨some x, m, (List.range len).map g, by rw [hlen], by rw [hlen]; exact hl, ⟨rfl, by rw [hlen]; unfold maxLen at hm; omega, fun _ => ⟨x, rfl, fun j p hp => ?_⟩⟩, ⟨?_, ?_, ?_⟩⟩
    · have hj : j < len := by
        have := (List.getElem?_eq_some_iff.1 hp).1
        omega
      rw [List.getElem?_map, List.getElem?_range hj] at hp
      obtain rfl := Option.some.inj hp
      obtain ⟨k0, ⟨A', c', k1, k2, k3⟩, -⟩ := hg j hj
      refine ⟨_, rfl, k58_mk W (g j) k2 k3, fun i u hu => ?_⟩
      match i, hu with
      | 0, hu => obtain rfl := Option.some.inj hu; exact k0
      | 1, hu => obtain rfl := Option.some.inj hu; exact k1
      | n + 2, hu => simp at hu
    · intro f hf
      obtain ⟨i, hi, rfl⟩ := List.mem_map.1 hf
      exact (hg i (List.mem_range.1 hi)).2.2.1
    · intro f hf
      obtain ⟨i, hi, rfl⟩ := List.mem_map.1 hf
      exact (hg i (List.mem_range.1 hi)).2.2.2.1
    · intro f hf
      obtain ⟨i, hi, rfl⟩ := List.mem_map.1 hf
      exact (hg i (List.mem_range.1 hi)).2.2.2.2
theorem VF_of_C {A : Option Addr} {c : Nat} {xs : List S58} (h : Kd.C k58 W A xs.length xs) (hc : xs.length ≤ c) : Kd.V k58 58 W W.heap.size (fun _ => True) (.slice A xs.length c) xs :=
  Kd.V_mk hc (fun W' hW => Kd.Heap.C k58_heap (fun k hk => hW k trivial hk) h)
end
end Go.Proofs.YtkcmkgkkddgicaaDoor.R
