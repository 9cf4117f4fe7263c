/- Texts of this claim joined in one. -/
import Derived.Test.YtkcmkgkkddgicaaDoorQHead
import Derived.Test.YtkcmkgkkddgicaaDoorQRefB
import Derived.Test.YtkcmkgkkddgicaaDoorQHGet
import Derived.Laws.BitsLemmas
import Derived.IntWalk
/- Plain laws of headers: fields of numbers and texts, how a path is split, what a header is, what is got of one. -/
set_option linter.unusedVariables false
set_option linter.unusedSimpArgs false
namespace Go.Proofs.YtkcmkgkkddgicaaDoor.R
open Go Go.RowKit Go.Proofs.YtkcmkgkkddgicaaDoorW.PrintWords Go.Proofs.YtkcmkgkkddgicaaDoorW.PrintLast Go.Proofs.YtkcmkgkkddgicaaDoorW.PrintMore
def partL (l : List UInt8) : Bool := !(l == []) && decide ((l.length : Int) ≤ 100) && !(l == [46]) && !(l == [46, 46]) && l.all isLetter
theorem size_len (s : ByteArray) : s.size = s.data.toList.length := by rw [Array.length_toList]; rfl
theorem partB_L (s : ByteArray) : partB s = partL s.data.toList := by unfold partB partL; rw [size_len]
def scan (cur : List UInt8) : List UInt8 → Bool
  | [] => partL cur
  | c :: r => if c = 47 then partL cur && scan [] r else scan (cur ++ [c]) r
theorem scan_pre : ∀ (a cur b : List UInt8), (47 : UInt8) ∉ a → scan cur (a ++ 47 :: b) = (partL (cur ++ a) && scan [] b)
  | [], cur, b, _ => by simp [scan]
  | c :: a, cur, b, h => by
    have hc : ¬ c = 47 := fun e => h (by simp [e])
    have ih := scan_pre a (cur ++ [c]) b (fun hm => h (List.mem_cons_of_mem _ hm))
    simp only [List.cons_append, scan, if_neg hc, ih, List.append_assoc, List.nil_append]
theorem scan_last : ∀ (a cur : List UInt8), (47 : UInt8) ∉ a → scan cur a = partL (cur ++ a)
  | [], cur, _ => by simp [scan]
  | c :: a, cur, h => by
    have hc : ¬ c = 47 := fun e => h (by simp [e])
    simp only [scan, if_neg hc, scan_last a (cur ++ [c]) (fun hm => h (List.mem_cons_of_mem _ hm)), List.append_assoc, List.cons_append, List.nil_append]
theorem ix_cases (l : List UInt8) (c : UInt8) : (Lib.indexByte l c = -1 ∧ c ∉ l) ∨ ∃ a b, l = a ++ c :: b ∧ c ∉ a ∧ Lib.indexByte l c = a.length := by
  induction l with
  | nil => exact .inl ⟨rfl, by simp⟩
  | cons x r ih =>
    by_cases hx : x = c
    · exact .inr ⟨[], r, by simp [hx], by simp, by unfold Lib.indexByte; rw [if_pos (by simp [hx])]; simp⟩
    · have hb : ¬ (x == c) = true := by simpa using hx
      rcases ih with ⟨h1, h2⟩ | ⟨a, b, rfl, h2, h3⟩
      · refine .inl ⟨by unfold Lib.indexByte; rw [if_neg hb, if_pos (by rw [h1]; rfl)], ?_⟩
        simp only [List.mem_cons, not_or]; exact ⟨fun e => hx e.symm, h2⟩
      · refine .inr ⟨x :: a, b, rfl, ?_, ?_⟩
        · simp only [List.mem_cons, not_or]; exact ⟨fun e => hx e.symm, h2⟩
        · unfold Lib.indexByte
          rw [if_neg hb, h3, if_neg (by simp)]
          simp
theorem ext_data (s : ByteArray) (a b : Nat) : (s.extract a b).data.toList = (s.data.toList.take b).drop a := by
  rw [ByteArray.data_extract, Array.toList_extract, List.extract_eq_drop_take', ]
theorem pieces_all : ∀ (k : Nat) (s : ByteArray), s.size ≤ k → (splitP k s).all partB = scan [] s.data.toList
  | 0, s, h => by
    have h0 : s.data.toList = [] := List.length_eq_zero_iff.1 (by rw [← size_len]; omega)
    simp [splitP, partB_L, h0, scan]
  | k + 1, s, h => by
    rcases ix_cases s.data.toList 47 with ⟨h1, h2⟩ | ⟨a, b, h1, h2, h3⟩
    · unfold splitP
      rw [if_pos (by omega), scan_last _ _ h2]
      simp [partB_L]
    · unfold splitP
      have hz := size_len s
      rw [h1] at hz
      simp only [List.length_append, List.length_cons] at hz
      rw [if_neg (by omega), h3]
      have e1 : (s.extract 0 ((a.length : Int)).toNat).data.toList = a := by
        rw [ext_data, h1]; simp
      have e2 : (s.extract (((a.length : Int)).toNat + 1) s.size).data.toList = b := by
        rw [ext_data, size_len s, List.take_length, h1]
        simp
      rw [List.all_cons, partB_L, e1, pieces_all k _ (by rw [size_len, e2]; omega), e2, h1, scan_pre a [] b h2]
      rfl
theorem whole_scan (s : ByteArray) : wholeB s = (scan [] s.data.toList && decide ((s.size : Int) ≤ 254)) := by
  unfold wholeB pieces
  rw [pieces_all s.size s (Nat.le_refl _)]
theorem partL_letter {l : List UInt8} (h : partL l = true) : ∀ c ∈ l, isLetter c = true := by
  unfold partL at h
  simp only [Bool.and_eq_true] at h
  exact List.all_eq_true.1 h.2
theorem partL_nil : partL [] = false := rfl
theorem scan_letters : ∀ (l cur : List UInt8), scan cur l = true → ∀ c ∈ cur ++ l, isLetter c = true ∨ c = 47
  | [], cur, h, c, hc => by
    rw [List.append_nil] at hc
    exact .inl (partL_letter h c hc)
  | x :: r, cur, h, c, hc => by
    unfold scan at h
    split at h
    · rename_i hx
      rw [Bool.and_eq_true] at h
      rcases List.mem_append.1 hc with hc | hc
      · exact .inl (partL_letter h.1 c hc)
      · rcases List.mem_cons.1 hc with hc | hc
        · exact .inr (hc.trans hx)
        · exact scan_letters r [] h.2 c (by simpa using hc)
    · exact scan_letters r (cur ++ [x]) h c (by simpa using hc)
theorem scan_head (r : List UInt8) : scan [] (47 :: r) = false := by
  unfold scan
  rw [if_pos rfl, partL_nil]; rfl
theorem letter_ne : isLetter 0 = false := by decide
theorem scan_nz {l : List UInt8} (h : scan [] l = true) : ∀ c ∈ l, c ≠ 0 := by
  rintro c hc rfl
  rcases scan_letters l [] h 0 (by simpa using hc) with h' | h'
  · rw [letter_ne] at h'; cases h'
  · exact absurd h' (by decide)
def digs : Nat → Nat → List Int
  | 0, _ => []
  | m + 1, n => digs m (n / 8) ++ [((48 + n % 8 : Nat) : Int)]
theorem digs_length : ∀ m n : Nat, (digs m n).length = m
  | 0, _ => rfl
  | m + 1, n => by unfold digs; rw [List.length_append, digs_length]; rfl
theorem digs_range : ∀ (m n : Nat) (x : Int), x ∈ digs m n → 48 ≤ x ∧ x ≤ 55
  | 0, _, _, h => by simp [digs] at h
  | m + 1, n, x, h => by
    unfold digs at h
    rcases List.mem_append.1 h with h | h
    · exact digs_range m _ x h
    · obtain rfl := List.mem_singleton.1 h; omega
def oval (l : List Int) : Int := l.foldl (fun a x => 8 * a + (x - 48)) 0
theorem oval_snoc (l : List Int) (x : Int) : oval (l ++ [x]) = 8 * oval l + (x - 48) := by
  unfold oval; rw [List.foldl_append]; rfl
theorem oval_digs : ∀ m n : Nat, n < 8 ^ m → oval (digs m n) = n
  | 0, n, h => by simp at h; subst h; rfl
  | m + 1, n, h => by
    unfold digs
    rw [oval_snoc, oval_digs m (n / 8) (by rw [Nat.pow_succ] at h; omega)]
    omega
theorem digs_inj (m a b : Nat) (ha : a < 8 ^ m) (hb : b < 8 ^ m) (h : digs m a = digs m b) : a = b := by
  have := oval_digs m a ha
  rw [h, oval_digs m b hb] at this
  omega
/-- a number's field; a text's -/
def numF (m n : Nat) : List Int := digs m n ++ [0]
theorem numF_length (m n : Nat) : (numF m n).length = m + 1 := by unfold numF; rw [List.length_append, digs_length]; rfl
def txtF (w : Nat) (s : List Int) : List Int := s ++ List.replicate (w - s.length) 0
theorem txtF_length (w : Nat) (s : List Int) (h : s.length ≤ w) : (txtF w s).length = w := by unfold txtF; rw [List.length_append, List.length_replicate]; omega
def preF (q : List Int) (n : Nat) : List Int := txtF 100 q ++ (numF 7 420 ++ (numF 7 0 ++ (numF 7 0 ++ (numF 11 n ++ numF 11 0))))
def postF (p : List Int) : List Int := [48] ++ (List.replicate 100 0 ++ ([117, 115, 116, 97, 114, 0] ++ ([48, 48] ++ (List.replicate 32 0 ++ (List.replicate 32 0 ++ (numF 7 0 ++ (numF 7 0 ++ (txtF 155 p ++ List.replicate 12 0))))))))
theorem preF_length (q : List Int) (n : Nat) (h : q.length ≤ 100) : (preF q n).length = 148 := by
  unfold preF; simp only [List.length_append, txtF_length 100 q h, numF_length]
theorem postF_length (p : List Int) (h : p.length ≤ 155) : (postF p).length = 356 := by
  unfold postF; simp only [List.length_append, txtF_length 155 p h, numF_length, List.length_replicate, List.length_cons, List.length_nil]
theorem sum_bd (l : List Int) (h : ∀ x ∈ l, 0 ≤ x ∧ x < 256) : 0 ≤ l.sum ∧ l.sum ≤ 255 * l.length := by
  induction l with
  | nil => simp
  | cons x r ih =>
    have h1 := ih (fun y hy => h y (List.mem_cons_of_mem _ hy))
    have h2 := h x (List.mem_cons_self ..)
    simp only [List.sum_cons, List.length_cons]
    omega
def ckF (q p : List Int) (n : Nat) : Nat := ((preF q n).sum + 256 + (postF p).sum).toNat
def hdr (q p : List Int) (n : Nat) : List Int := preF q n ++ ((digs 6 (ckF q p n) ++ [0, 32]) ++ postF p)
def Bts (l : List Int) : Prop := ∀ x ∈ l, 0 ≤ x ∧ x < 256
instance (l : List Int) : Decidable (Bts l) := inferInstanceAs (Decidable (∀ x ∈ l, 0 ≤ x ∧ x < 256))
theorem Bts.app {a b : List Int} (h1 : Bts a) (h2 : Bts b) : Bts (a ++ b) := fun x hx => (List.mem_append.1 hx).elim (h1 x) (h2 x)
theorem Bts_rep (n : Nat) : Bts (List.replicate n 0) := fun x hx => by obtain rfl := (List.mem_replicate.1 hx).2; decide
theorem Bts_digs (m n : Nat) : Bts (digs m n) := fun x hx => by have := digs_range m n x hx; omega
theorem Bts_numF (m n : Nat) : Bts (numF m n) := (Bts_digs m n).app (fun x hx => by obtain rfl := List.mem_singleton.1 hx; decide)
theorem Bts_txtF (w : Nat) (s : List Int) (h : Bts s) : Bts (txtF w s) := h.app (Bts_rep _)
theorem Bts_preF (q : List Int) (n : Nat) (h : Bts q) : Bts (preF q n) :=
  (Bts_txtF _ _ h).app ((Bts_numF _ _).app ((Bts_numF _ _).app ((Bts_numF _ _).app ((Bts_numF _ _).app (Bts_numF _ _)))))
theorem Bts_postF (p : List Int) (h : Bts p) : Bts (postF p) := by
  unfold postF
  exact Bts.app (by decide) ((Bts_rep _).app (Bts.app (by decide) (Bts.app (by decide) ((Bts_rep _).app ((Bts_rep _).app ((Bts_numF _ _).app ((Bts_numF _ _).app ((Bts_txtF _ _ h).app (Bts_rep _)))))))))
theorem ckF_eq (q p : List Int) (n : Nat) (hq : Bts q) (hp : Bts p) : ((ckF q p n : Nat) : Int) = (preF q n).sum + 256 + (postF p).sum := by
  have h1 := sum_bd _ (Bts_preF q n hq)
  have h2 := sum_bd _ (Bts_postF p hp)
  unfold ckF; omega
theorem ckF_lt (q p : List Int) (n : Nat) (hq : Bts q) (hp : Bts p) (h1 : q.length ≤ 100) (h2 : p.length ≤ 155) : ckF q p n < 8 ^ 6 := by
  have a1 := sum_bd _ (Bts_preF q n hq)
  have a2 := sum_bd _ (Bts_postF p hp)
  rw [preF_length q n h1] at a1
  rw [postF_length p h2] at a2
  have := ckF_eq q p n hq hp
  have : (8 : Nat) ^ 6 = 262144 := by decide
  omega
theorem hdr_length (q p : List Int) (n : Nat) (h1 : q.length ≤ 100) (h2 : p.length ≤ 155) : (hdr q p n).length = 512 := by
  unfold hdr; simp only [List.length_append, preF_length q n h1, postF_length p h2, digs_length, List.length_cons, List.length_nil]
theorem Bts_hdr (q p : List Int) (n : Nat) (hq : Bts q) (hp : Bts p) : Bts (hdr q p n) :=
  (Bts_preF q n hq).app (((Bts_digs _ _).app (by decide)).app (Bts_postF p hp))
theorem mid_of (A B C : List Int) (a b : Nat) (ha : A.length = a) (hb : A.length + B.length = b) : ((A ++ (B ++ C)).take b).drop a = B := by
  subst ha; subst hb
  rw [← List.append_assoc, ← List.length_append, List.take_left', List.drop_left']
  · rfl
  · rfl
theorem hdr_name (q p : List Int) (n : Nat) (h1 : q.length ≤ 100) : (hdr q p n).take 100 = txtF 100 q := by
  unfold hdr preF
  rw [List.append_assoc, List.take_left' (txtF_length 100 q h1)]
theorem hdr_size (q p : List Int) (n : Nat) (h1 : q.length ≤ 100) : ((hdr q p n).take 136).drop 124 = numF 11 n := by
  have e : hdr q p n = (txtF 100 q ++ (numF 7 420 ++ (numF 7 0 ++ numF 7 0))) ++ (numF 11 n ++ (numF 11 0 ++ ((digs 6 (ckF q p n) ++ [0, 32]) ++ postF p))) := by
    unfold hdr preF; simp only [List.append_assoc]
  rw [e]
  exact mid_of _ _ _ 124 136 (by simp only [List.length_append, txtF_length 100 q h1, numF_length]) (by simp only [List.length_append, txtF_length 100 q h1, numF_length])
theorem hdr_pre (q p : List Int) (n : Nat) (h1 : q.length ≤ 100) (h2 : p.length ≤ 155) : ((hdr q p n).take 500).drop 345 = txtF 155 p := by
  have e : hdr q p n = (preF q n ++ ((digs 6 (ckF q p n) ++ [0, 32]) ++ ([48] ++ (List.replicate 100 0 ++ ([117, 115, 116, 97, 114, 0] ++ ([48, 48] ++ (List.replicate 32 0 ++ (List.replicate 32 0 ++ (numF 7 0 ++ numF 7 0))))))))) ++ (txtF 155 p ++ List.replicate 12 0) := by
    unfold hdr postF; simp only [List.append_assoc]
  rw [e]
  exact mid_of _ _ _ 345 500 (by simp only [List.length_append, preF_length q n h1, digs_length, numF_length, List.length_replicate, List.length_cons, List.length_nil]) (by simp only [List.length_append, preF_length q n h1, digs_length, numF_length, List.length_replicate, List.length_cons, List.length_nil, txtF_length 155 p h2])
/-- a header's sum, from a place on -/
def ckFrom : Nat → List Int → Int
  | _, [] => 0
  | i, x :: r => (if 148 ≤ i ∧ i < 156 then 32 else x) + ckFrom (i + 1) r
theorem ckFrom_app : ∀ (a b : List Int) (i : Nat), ckFrom i (a ++ b) = ckFrom i a + ckFrom (i + a.length) b
  | [], b, i => by simp [ckFrom]
  | x :: r, b, i => by
    simp only [List.cons_append, ckFrom, ckFrom_app r b (i + 1), List.length_cons]
    rw [show i + 1 + r.length = i + (r.length + 1) by omega]; omega
theorem ckFrom_out : ∀ (a : List Int) (i : Nat), i + a.length ≤ 148 ∨ 156 ≤ i → ckFrom i a = a.sum
  | [], _, _ => rfl
  | x :: r, i, h => by
    simp only [List.length_cons] at h
    simp only [ckFrom, List.sum_cons, ckFrom_out r (i + 1) (by omega)]
    rw [if_neg (by omega)]
theorem ckFrom_in : ∀ (a : List Int) (i : Nat), 148 ≤ i → i + a.length ≤ 156 → ckFrom i a = 32 * a.length
  | [], _, _, _ => rfl
  | x :: r, i, h, h' => by
    simp only [List.length_cons] at h'
    simp only [ckFrom, List.length_cons, ckFrom_in r (i + 1) (by omega) (by omega)]
    rw [if_pos (by omega)]; omega
theorem ck_three (A M C : List Int) (hA : A.length = 148) (hM : M.length = 8) : ckFrom 0 (A ++ (M ++ C)) = A.sum + 256 + C.sum := by
  rw [ckFrom_app, ckFrom_app, ckFrom_out A 0 (by omega), ckFrom_in M _ (by omega) (by omega), ckFrom_out C _ (by omega), hM]; omega
theorem ck_hdr (q p : List Int) (n : Nat) (hq : Bts q) (hp : Bts p) (h1 : q.length ≤ 100) : ckFrom 0 (hdr q p n) = ckF q p n := by
  unfold hdr
  rw [ck_three _ _ _ (preF_length q n h1) (by simp [digs_length]), ckF_eq q p n hq hp]
theorem hdr_sum (q p : List Int) (n : Nat) (h1 : q.length ≤ 100) : ((hdr q p n).take 156).drop 148 = digs 6 (ckF q p n) ++ [0, 32] := by
  unfold hdr
  exact mid_of _ _ _ 148 156 (preF_length q n h1) (by rw [preF_length q n h1]; simp [digs_length])
/-- path.Split's answer, over bytes -/
def splitL (l : List UInt8) : List UInt8 × List UInt8 × Int :=
  if scan [] l = true ∧ l.length ≤ 254 then
    (if l.length ≤ 100 then ([], l, 0) else
      if Lib.indexByte (l.drop (l.length - 101)) 47 < 0 ∨ 155 < ((l.length - 101 : Nat) : Int) + Lib.indexByte (l.drop (l.length - 101)) 47 then ([], [], 9) else
        (l.take (l.length - 101 + (Lib.indexByte (l.drop (l.length - 101)) 47).toNat), l.drop (l.length - 101 + (Lib.indexByte (l.drop (l.length - 101)) 47).toNat + 1), 0))
  else ([], [], 9)
def joinL (p q : List UInt8) : List UInt8 := if p = [] then q else p ++ 47 :: q
theorem split_ok {l p q : List UInt8} (h : splitL l = (p, q, 0)) : joinL p q = l ∧ q.length ≤ 100 ∧ p.length ≤ 155 ∧ (∀ c ∈ q, c ≠ 0) ∧ ∀ c ∈ p, c ≠ 0 := by
  unfold splitL at h
  split at h
  · rename_i hs
    have hz := scan_nz hs.1
    split at h
    · rename_i h1
      simp only [Prod.mk.injEq] at h
      obtain ⟨rfl, rfl, -⟩ := h
      exact ⟨by simp [joinL], h1, by simp, hz, by simp⟩
    · rename_i h1
      split at h
      · simp at h
      · rename_i h2
        obtain ⟨m, hm⟩ : ∃ m, m = l.length - 101 := ⟨_, rfl⟩
        rw [← hm] at h h2
        simp only [Prod.mk.injEq] at h
        obtain ⟨rfl, rfl, -⟩ := h
        rcases ix_cases (l.drop (m)) 47 with ⟨h3, -⟩ | ⟨a, b, h3, -, h4⟩
        · omega
        · rw [h4] at h2 ⊢
          have e : l = l.take (m) ++ (a ++ 47 :: b) := by rw [← h3, List.take_append_drop]
          have ht : (l.take (m)).length = m := by rw [List.length_take]; omega
          have e1 : l.take (m + ((a.length : Int)).toNat) = l.take (m) ++ a := by
            conv => lhs; rw [e]
            rw [← List.append_assoc, List.take_left' (by simp [ht])]
          have e2 : l.drop (m + ((a.length : Int)).toNat + 1) = b := by
            conv => lhs; rw [e]
            rw [show l.take (m) ++ (a ++ 47 :: b) = (l.take (m) ++ (a ++ [47])) ++ b by simp, List.drop_left' (by simp [ht]; omega)]
          rw [e1, e2]
          have hl : l.length = m + (a.length + 1 + b.length) := by
            conv => lhs; rw [e]
            simp only [List.length_append, List.length_cons, ht]; omega
          refine ⟨?_, by omega, by simp only [List.length_append, ht]; omega, fun c hc => hz c (by rw [e]; simp [hc]), fun c hc => hz c (by rw [e]; rcases List.mem_append.1 hc with hc | hc <;> simp [hc])⟩
          unfold joinL
          rw [if_neg, List.append_assoc]
          · exact e.symm
          · intro he
            rw [List.append_eq_nil_iff] at he
            rw [he.1, he.2, List.nil_append, List.nil_append] at e
            rw [e, scan_head] at hs
            exact absurd hs.1 (by decide)
  · simp at h
theorem split_bad {l p q : List UInt8} {e : Int} (h : splitL l = (p, q, e)) (he : e ≠ 0) : p = [] ∧ q = [] ∧ e = 9 := by
  unfold splitL at h
  split at h
  · split at h
    · simp only [Prod.mk.injEq] at h; exact absurd h.2.2.symm he
    · split at h
      · simp only [Prod.mk.injEq] at h; exact ⟨h.1.symm, h.2.1.symm, h.2.2.symm⟩
      · simp only [Prod.mk.injEq] at h; exact absurd h.2.2.symm he
  · simp only [Prod.mk.injEq] at h; exact ⟨h.1.symm, h.2.1.symm, h.2.2.symm⟩
def ofL (l : List UInt8) : ByteArray := ⟨l.toArray⟩
theorem ofL_data (s : ByteArray) : ofL s.data.toList = s := rfl
theorem data_ofL (l : List UInt8) : (ofL l).data.toList = l := rfl
theorem ba_ext {s t : ByteArray} (h : s.data.toList = t.data.toList) : s = t := by rw [← ofL_data s, h, ofL_data]
def splitS (s : ByteArray) : ByteArray × ByteArray × Int := (ofL (splitL s.data.toList).1, ofL (splitL s.data.toList).2.1, (splitL s.data.toList).2.2)
theorem bytes_len (s : ByteArray) : (bytesOf s).length = s.size := by unfold bytesOf; rw [List.length_map, ← size_len]
theorem Bts_of (s : ByteArray) : Bts (bytesOf s) := by
  intro x hx
  obtain ⟨b, -, rfl⟩ := List.mem_map.1 hx
  have := b.toNat_lt
  omega
theorem bytesOf_inj {s t : ByteArray} (h : bytesOf s = bytesOf t) : s = t := by
  refine ba_ext ?_
  refine List.map_inj_right (f := fun b : UInt8 => (b.toNat : Int)) ?_ |>.1 h
  intro a b hab
  exact UInt8.toNat_inj.1 (Int.natCast_inj.1 hab)
structure SplitOk (s p q : ByteArray) : Prop where
  join : joinL p.data.toList q.data.toList = s.data.toList
  ql : (bytesOf q).length ≤ 100
  pl : (bytesOf p).length ≤ 155
  qz : (0 : Int) ∉ bytesOf q
  pz : (0 : Int) ∉ bytesOf p
theorem nz_of {s : ByteArray} (h : ∀ c ∈ s.data.toList, c ≠ 0) : (0 : Int) ∉ bytesOf s := by
  intro hm
  obtain ⟨b, hb, h0⟩ := List.mem_map.1 hm
  exact h b hb (UInt8.toNat_inj.1 (by simpa using h0))
theorem splitS_ok {s p q : ByteArray} (h : splitS s = (p, q, 0)) : SplitOk s p q := by
  unfold splitS at h
  simp only [Prod.mk.injEq] at h
  obtain ⟨h1, h2, h3⟩ := h
  obtain ⟨j, ql, pl, qz, pz⟩ := split_ok (l := s.data.toList) (p := (splitL s.data.toList).1) (q := (splitL s.data.toList).2.1) (by rw [← h3])
  subst h1; subst h2
  exact ⟨j, by rw [bytes_len, size_len]; exact ql, by rw [bytes_len, size_len]; exact pl, nz_of qz, nz_of pz⟩
theorem trimr_rep (q : List Int) (n : Nat) : trimr (q ++ List.replicate n 0) = trimr q := by
  induction n with
  | zero => simp
  | succ n ih => rw [List.replicate_succ', ← List.append_assoc, trimr_snoc, if_pos rfl, ih]
theorem trimr_nz (q : List Int) (h : (0 : Int) ∉ q) : trimr q = q := by
  rcases List.eq_nil_or_concat q with rfl | ⟨r, x, rfl⟩
  · rfl
  · rw [List.concat_eq_append] at h ⊢
    rw [trimr_snoc, if_neg (fun e => h (by simp [e]))]
theorem trimr_txt (w : Nat) (q : List Int) (h : (0 : Int) ∉ q) : trimr (txtF w q) = q := by unfold txtF; rw [trimr_rep, trimr_nz q h]
/-- header.Put's answer -/
def hput (s : ByteArray) (n : Int) : List Int × Int :=
  if (splitS s).2.2 = 0 then (if n < 0 ∨ 4194304 < n then ([], 8) else (hdr (bytesOf (splitS s).2.1) (bytesOf (splitS s).1) n.toNat, 0)) else ([], (splitS s).2.2)
structure HOk (s p q : ByteArray) (n : Int) (b : List Int) : Prop where
  split : splitS s = (p, q, 0)
  sp : SplitOk s p q
  n0 : 0 ≤ n
  n1 : n ≤ 4194304
  b : b = hdr (bytesOf q) (bytesOf p) n.toNat
theorem hput_ok {s : ByteArray} {n : Int} {b : List Int} (h : hput s n = (b, 0)) : ∃ p q, HOk s p q n b := by
  unfold hput at h
  split at h
  · rename_i h0
    split at h
    · simp at h
    · simp only [Prod.mk.injEq, and_true] at h
      have hs : splitS s = ((splitS s).1, (splitS s).2.1, 0) := by rw [← h0]
      exact ⟨_, _, hs, splitS_ok hs, by omega, by omega, h.symm⟩
  · rename_i h0
    simp only [Prod.mk.injEq] at h
    exact absurd h.2 h0
theorem splitS_err (s : ByteArray) : (splitS s).2.2 = 0 ∨ splitS s = (⟨#[]⟩, ⟨#[]⟩, 9) := by
  by_cases h : (splitS s).2.2 = 0
  · exact .inl h
  · obtain ⟨h1, h2, h3⟩ := split_bad (l := s.data.toList) (p := (splitL s.data.toList).1) (q := (splitL s.data.toList).2.1) (e := (splitL s.data.toList).2.2) rfl h
    refine .inr ?_
    unfold splitS
    rw [h1, h2, h3]; rfl
theorem hput_bad {s : ByteArray} {n : Int} (h : (hput s n).2 ≠ 0) : hput s n = ([], 8) ∨ hput s n = ([], 9) := by
  unfold hput at h ⊢
  rcases splitS_err s with h0 | h0
  · rw [if_pos h0] at h ⊢
    split at h
    · rename_i h1; left; rw [if_pos h1]
    · simp at h
  · rw [h0]; simp
theorem HOk.len {s p q : ByteArray} {n : Int} {b : List Int} (h : HOk s p q n b) : b.length = 512 := by rw [h.b]; exact hdr_length _ _ _ h.sp.ql h.sp.pl
theorem HOk.bts {s p q : ByteArray} {n : Int} {b : List Int} (h : HOk s p q n b) : Bts b := by rw [h.b]; exact Bts_hdr _ _ _ (Bts_of _) (Bts_of _)
theorem HOk.name {s p q : ByteArray} {n : Int} {b : List Int} (h : HOk s p q n b) : b.take 100 = txtF 100 (bytesOf q) := by rw [h.b]; exact hdr_name _ _ _ h.sp.ql
theorem HOk.pre {s p q : ByteArray} {n : Int} {b : List Int} (h : HOk s p q n b) : (b.take 500).drop 345 = txtF 155 (bytesOf p) := by rw [h.b]; exact hdr_pre _ _ _ h.sp.ql h.sp.pl
theorem HOk.size {s p q : ByteArray} {n : Int} {b : List Int} (h : HOk s p q n b) : (b.take 136).drop 124 = numF 11 n.toNat := by rw [h.b]; exact hdr_size _ _ _ h.sp.ql
theorem pow11 : (8 : Nat) ^ 11 = 8589934592 := by decide
theorem HOk.lt {s p q : ByteArray} {n : Int} {b : List Int} (h : HOk s p q n b) : n.toNat < 8 ^ 11 := by have h0 := h.n0; have h1 := h.n1; rw [pow11]; omega
theorem hput_inj {s t : ByteArray} {n m : Int} {b : List Int} (h : hput s n = (b, 0)) (h' : hput t m = (b, 0)) : s = t ∧ n = m := by
  obtain ⟨p, q, h⟩ := hput_ok h
  obtain ⟨p', q', h'⟩ := hput_ok h'
  have e1 : bytesOf q = bytesOf q' := by rw [← trimr_txt 100 _ h.sp.qz, ← trimr_txt 100 _ h'.sp.qz, ← h.name, ← h'.name]
  have e2 : bytesOf p = bytesOf p' := by rw [← trimr_txt 155 _ h.sp.pz, ← trimr_txt 155 _ h'.sp.pz, ← h.pre, ← h'.pre]
  have e3 : digs 11 n.toNat = digs 11 m.toNat := by
    have := h.size.symm.trans h'.size
    unfold numF at this
    exact (List.append_inj this (by rw [digs_length, digs_length])).1
  have e4 := digs_inj 11 _ _ h.lt h'.lt e3
  obtain rfl := bytesOf_inj e1
  obtain rfl := bytesOf_inj e2
  have hn := h.n0
  have hn' := h'.n0
  exact ⟨ba_ext (h.sp.join.symm.trans h'.sp.join), by omega⟩
theorem hput_len {s : ByteArray} {n : Int} {b : List Int} (h : hput s n = (b, 0)) : b.length = 512 := by
  obtain ⟨p, q, h⟩ := hput_ok h; exact h.len
theorem hput_bts (s : ByteArray) (n : Int) : Bts (hput s n).1 := by
  by_cases h : (hput s n).2 = 0
  · obtain ⟨p, q, h⟩ := hput_ok (s := s) (n := n) (b := (hput s n).1) (by rw [← h]); exact h.bts
  · rcases hput_bad h with h | h <;> rw [h] <;> exact fun x hx => by simp at hx
/-- header.Get's answer -/
noncomputable def hget (b : List Int) : ByteArray × Int × Int :=
  open Classical in if b.length < 512 then (⟨#[]⟩, 0, 3) else if h : ∃ t : ByteArray × Int, hput t.1 t.2 = (b, 0) then (h.choose.1, h.choose.2, 0) else (⟨#[]⟩, 0, 2)
theorem hget_short {b : List Int} (h : b.length < 512) : hget b = (⟨#[]⟩, 0, 3) := by unfold hget; rw [if_pos h]
theorem hget_ok {b : List Int} {s : ByteArray} {n : Int} (h : hput s n = (b, 0)) : hget b = (s, n, 0) := by
  unfold hget
  have hx : ∃ t : ByteArray × Int, hput t.1 t.2 = (b, 0) := ⟨(s, n), h⟩
  rw [if_neg (by rw [hput_len h]; decide), dif_pos hx]
  obtain ⟨h1, h2⟩ := hput_inj hx.choose_spec h
  rw [h1, h2]
theorem hget_form {b : List Int} (h : 512 ≤ b.length) (h' : ¬ ∃ t : ByteArray × Int, hput t.1 t.2 = (b, 0)) : hget b = (⟨#[]⟩, 0, 2) := by
  unfold hget; rw [if_neg (by omega), dif_neg h']
theorem hget_cases (b : List Int) : (b.length < 512 ∧ hget b = (⟨#[]⟩, 0, 3)) ∨ (512 ≤ b.length ∧ hget b = (⟨#[]⟩, 0, 2) ∧ ∀ s n, hput s n ≠ (b, 0)) ∨ ∃ s n, hput s n = (b, 0) ∧ hget b = (s, n, 0) := by
  by_cases h : b.length < 512
  · exact .inl ⟨h, hget_short h⟩
  · by_cases h' : ∃ t : ByteArray × Int, hput t.1 t.2 = (b, 0)
    · obtain ⟨t, ht⟩ := h'
      exact .inr (.inr ⟨t.1, t.2, ht, hget_ok ht⟩)
    · exact .inr (.inl ⟨by omega, hget_form (by omega) h', fun s n hs => h' ⟨(s, n), hs⟩⟩)
theorem ckFrom_set : ∀ (l : List Int) (i k : Nat) (v : Int) (h : k < l.length), ckFrom i (l.set k v) = ckFrom i l + (if 148 ≤ i + k ∧ i + k < 156 then 0 else v - l[k])
  | [], _, _, _, h => absurd h (Nat.not_lt_zero _)
  | x :: r, i, 0, v, _ => by
    simp only [List.set_cons_zero, ckFrom, Nat.add_zero, List.getElem_cons_zero]
    split <;> omega
  | x :: r, i, k + 1, v, h => by
    have ih := ckFrom_set r (i + 1) k v (by simpa using h)
    simp only [List.set_cons_succ, ckFrom, List.getElem_cons_succ]
    rw [ih, show i + 1 + k = i + (k + 1) by omega]
    omega
theorem HOk.sum {s p q : ByteArray} {n : Int} {b : List Int} (h : HOk s p q n b) : (b.take 156).drop 148 = digs 6 (ckFrom 0 b).toNat ++ [0, 32] ∧ 0 ≤ ckFrom 0 b ∧ (ckFrom 0 b).toNat < 8 ^ 6 := by
  have e : ckFrom 0 b = (ckF (bytesOf q) (bytesOf p) n.toNat : Nat) := by rw [h.b]; exact ck_hdr _ _ _ (Bts_of _) (Bts_of _) h.sp.ql
  rw [e, Int.toNat_natCast]
  refine ⟨?_, by omega, ckF_lt _ _ _ (Bts_of _) (Bts_of _) h.sp.ql h.sp.pl⟩
  rw [h.b]; exact hdr_sum _ _ _ h.sp.ql
/-- one byte alone breaks a header, or its sum -/
theorem one_byte {s t : ByteArray} {n m : Int} {b : List Int} {k : Nat} {v : Int} (h : hput s n = (b, 0)) (hk : k < b.length) (hv : v ≠ b[k]) (h' : hput t m = (b.set k v, 0)) : False := by
  obtain ⟨p, q, h⟩ := hput_ok h
  obtain ⟨p', q', h'⟩ := hput_ok h'
  obtain ⟨e1, a1, a2⟩ := h.sum
  obtain ⟨e2, b1, b2⟩ := h'.sum
  have hc := ckFrom_set b 0 k v hk
  rw [Nat.zero_add] at hc
  by_cases hin : 148 ≤ k ∧ k < 156
  · rw [if_pos hin, Int.add_zero] at hc
    rw [hc, ← e1] at e2
    have := congrArg (fun l : List Int => l[k - 148]?) e2
    simp only [List.getElem?_drop, List.getElem?_take] at this
    rw [show 148 + (k - 148) = k by omega, if_pos hin.2, if_pos hin.2, List.getElem?_set_self hk, List.getElem?_eq_getElem hk] at this
    exact hv (Option.some.inj this)
  · rw [if_neg hin] at hc
    have e3 : ((b.set k v).take 156).drop 148 = (b.take 156).drop 148 := by
      refine List.ext_getElem? fun i => ?_
      simp only [List.getElem?_drop, List.getElem?_take]
      by_cases hi : 148 + i < 156
      · rw [if_pos hi, if_pos hi, List.getElem?_set_ne (by omega)]
      · rw [if_neg hi, if_neg hi]
    rw [e1, e2] at e3
    have := digs_inj 6 _ _ b2 a2 (List.append_inj_left' e3 rfl)
    omega
theorem Bts.take {l : List Int} (h : Bts l) (n : Nat) : Bts (l.take n) := fun x hx => h x (List.mem_of_mem_take hx)
theorem Bts.drop {l : List Int} (h : Bts l) (n : Nat) : Bts (l.drop n) := fun x hx => h x (List.mem_of_mem_drop hx)
theorem HOk.size_le {s p q : ByteArray} {n : Int} {b : List Int} (ho : HOk s p q n b) : s.size ≤ 256 := by
  have hp := ho.sp.pl
  have hq := ho.sp.ql
  have hj := congrArg List.length ho.sp.join
  rw [bytes_len, size_len] at hp hq
  rw [size_len, ← hj]
  unfold joinL
  split
  · omega
  · rw [List.length_append, List.length_cons]; omega
end Go.Proofs.YtkcmkgkkddgicaaDoor.R

/- What octal, path and header answer: the plain answers of PlA. -/
set_option linter.unusedVariables false
set_option linter.unusedSimpArgs false
namespace Go.Proofs.YtkcmkgkkddgicaaDoor.R
open Go Go.RowKit Go.Proofs.YtkcmkgkkddgicaaDoorW.PrintWords Go.Proofs.YtkcmkgkkddgicaaDoorW.PrintLast Go.Proofs.YtkcmkgkkddgicaaDoorW.PrintMore
theorem w64b {n : Int} (h1 : -9223372036854775808 ≤ n) (h2 : n ≤ 9223372036854775807) : wrap64 n = n := by unfold wrap64; omega
theorem and7 (x : Int) (h0 : 0 ≤ x) (h1 : x < 9223372036854775808) : Go.bits .and .i64 x 7 = x % 8 :=
  bits_mask .i64 63 (by decide) (fun n h0 h1 => IntWalk.i64_in n (by omega)) 3 (by decide) x h0 (by omega)
theorem pow_le11 {m n : Nat} (hm : m ≤ 11) (h : n < 8 ^ m) : n < 8589934592 := by
  have := Nat.pow_le_pow_right (show 0 < 8 by decide) hm
  rw [pow11] at this; omega
theorem octal_Put_l0 : ∀ (m k n : Nat) (T : List Int), n < 8 ^ m → m ≤ 11 → m < k → octal_Put.l0 k (n : Int) (List.replicate m 0 ++ T) ((m : Int) - 1) = some (digs m n ++ T, 0)
  | 0, k, n, T, hn, _, hk => by
    obtain ⟨k, rfl⟩ : ∃ j, k = j + 1 := ⟨k - 1, by omega⟩
    simp only [octal_Put.l0]
    rw [if_neg (by omega), if_pos (by simp at hn; omega)]
    rfl
  | m + 1, k, n, T, hn, hm, hk => by
    obtain ⟨k, rfl⟩ : ∃ j, k = j + 1 := ⟨k - 1, by omega⟩
    have hb := pow_le11 hm hn
    have ih := octal_Put_l0 m k (n / 8) (((48 + n % 8 : Nat) : Int) :: T) (by rw [Nat.pow_succ] at hn; omega) (by omega) (by omega)
    simp only [octal_Put.l0]
    rw [if_pos (by omega), if_pos (by omega), if_pos (by simp only [List.length_append, List.length_replicate]; omega), and7 _ (by omega) (by omega), w64b (by omega) (by omega)]
    have e1 : (n : Int) / 8 = ((n / 8 : Nat) : Int) := by omega
    have e2 : (48 + ((n : Int) % 8) % 256) % 256 = ((48 + n % 8 : Nat) : Int) := by omega
    have e3 : (((m + 1 : Nat) : Int) - 1).toNat = m := by omega
    have e4 : ((m + 1 : Nat) : Int) - 1 - 1 = (m : Int) - 1 := by omega
    have e5 : (List.replicate (m + 1) (0 : Int) ++ T).set m ((48 + n % 8 : Nat) : Int) = List.replicate m 0 ++ (((48 + n % 8 : Nat) : Int) :: T) := by
      rw [List.replicate_succ', List.append_assoc, List.set_append, if_neg (by simp), List.length_replicate, Nat.sub_self]; rfl
    rw [e1, e2, e3, e4, e5, ih]
    simp only [digs, List.append_assoc, List.singleton_append]
theorem octal_Put_eq {m n k : Nat} (h1 : 1 ≤ m) (hm : m ≤ 11) (hn : n < 8 ^ m) (hk : m + 1 < k) : octal_Put.f k (n : Int) ((m + 1 : Nat) : Int) = some (numF m n, 0) := by
  obtain ⟨k, rfl⟩ : ∃ j, k = j + 1 := ⟨k - 1, by omega⟩
  unfold octal_Put.f
  rw [if_neg (by omega), show decide (((m + 1 : Nat) : Int) > 12) = false from decide_eq_false (by omega)]
  simp only [octal_Put.j0]
  rw [if_neg (by decide), if_pos (by omega), if_pos (by omega), w64b (by omega) (by omega), Int.toNat_natCast, List.replicate_succ', show ((m + 1 : Nat) : Int) - 2 = (m : Int) - 1 by omega]
  exact octal_Put_l0 m k n [0] hn hm (by omega)
theorem ref05_Put_l0 : ∀ (m k n j : Nat) (T : List Int), n < 8 ^ m → m ≤ 11 → m < k → j + m ≤ 100 → T.length + m ≤ 1000 → bindleref05_Put.l0 k (n : Int) ((j + m : Nat) : Int) T (j : Int) = some (digs m n ++ T, 0)
  | 0, k, n, j, T, hn, _, hk, _, _ => by
    obtain ⟨k, rfl⟩ : ∃ j, k = j + 1 := ⟨k - 1, by omega⟩
    simp only [bindleref05_Put.l0]
    rw [if_neg (by omega), if_pos (by simp at hn; omega)]
    rfl
  | m + 1, k, n, j, T, hn, hm, hk, hj, hT => by
    obtain ⟨k, rfl⟩ : ∃ j, k = j + 1 := ⟨k - 1, by omega⟩
    have hb := pow_le11 hm hn
    have ih := ref05_Put_l0 m k (n / 8) (j + 1) (((48 + n % 8 : Nat) : Int) :: T)
    simp only [bindleref05_Put.l0, Option.bind_some]
    rw [if_pos (by omega), if_pos (by simp only [List.length_singleton]; omega)]
    have e1 : Int.tdiv (n : Int) 8 = ((n / 8 : Nat) : Int) := by rw [Int.tdiv_eq_ediv_of_nonneg (by omega)]; omega
    have e2 : wrap64 (48 + Int.tmod (n : Int) 8) % 256 = ((48 + n % 8 : Nat) : Int) := by rw [Int.tmod_eq_emod_of_nonneg (by omega), w64b (by omega) (by omega)]; omega
    rw [e1, e2, w64b (by omega) (by omega), w64b (by omega) (by omega), show (j : Int) + 1 = ((j + 1 : Nat) : Int) by omega, show j + (m + 1) = j + 1 + m by omega, List.singleton_append]
    rw [ih (by rw [Nat.pow_succ] at hn; omega) (by omega) (by omega) (by omega) (by simp only [List.length_cons]; omega)]
    simp only [digs, List.append_assoc, List.singleton_append]
theorem ref05_Put_eq {m n k : Nat} (h1 : 1 ≤ m) (hm : m ≤ 11) (hn : n < 8 ^ m) (hk : m + 1 < k) : bindleref05_Put.f k (n : Int) ((m + 1 : Nat) : Int) = some (numF m n, 0) := by
  obtain ⟨k, rfl⟩ : ∃ j, k = j + 1 := ⟨k - 1, by omega⟩
  unfold bindleref05_Put.f
  rw [if_neg (by omega), show decide (((m + 1 : Nat) : Int) > 12) = false from decide_eq_false (by omega)]
  simp only [bindleref05_Put.j0]
  rw [if_neg (by decide), if_neg (by omega), show m + 1 = 1 + m by omega]
  exact ref05_Put_l0 m k n 1 [0] hn hm (by omega) (by omega) (by simp; omega)
theorem rd_at {l : List Int} {i : Nat} (h : i < l.length) : rd l (i : Int) = l[i] := by unfold rd; rw [Int.toNat_natCast, List.getD_eq_getElem?_getD, List.getElem?_eq_getElem h]; rfl
theorem octal_Check_l0 (l : List Int) (hB : Bts l) (hl : l.length ≤ 1000000) : ∀ (d k i : Nat) (acc : Int), i + d = l.length → d < k → 0 ≤ acc → acc ≤ 256 * i →
    octal_Check.l0 k acc l (l.length : Int) (i : Int) = some (acc + ckFrom i (l.drop i))
  | 0, k, i, acc, h, hk, _, _ => by
    obtain ⟨k, rfl⟩ : ∃ j, k = j + 1 := ⟨k - 1, by omega⟩
    simp only [octal_Check.l0]
    rw [if_neg (by omega), List.drop_eq_nil_of_le (by omega)]
    simp [ckFrom]
  | d + 1, k, i, acc, h, hk, h0, h1 => by
    obtain ⟨k, rfl⟩ : ∃ j, k = j + 1 := ⟨k - 1, by omega⟩
    have hi : i < l.length := by omega
    have hb := hB _ (List.getElem_mem hi)
    simp only [octal_Check.l0]
    rw [if_pos (by omega), if_pos (by omega), if_pos (by omega), rd_at hi, w64b (by omega) (by omega), w64b (n := l[i]) (by omega) (by omega), w64b (by omega) (by omega), w64b (by omega) (by omega), List.drop_eq_getElem_cons hi]
    simp only [ckFrom]
    have e : (i : Int) + 1 = ((i + 1 : Nat) : Int) := by omega
    rw [e]
    by_cases h2 : (i : Int) ≥ 148
    · rw [if_pos h2]
      by_cases h3 : (i : Int) < 156
      · rw [if_pos h3, if_pos (by omega), octal_Check_l0 l hB hl d k (i + 1) _ (by omega) (by omega) (by omega) (by omega), Int.add_assoc]
      · rw [if_neg h3, if_neg (by omega), octal_Check_l0 l hB hl d k (i + 1) _ (by omega) (by omega) (by omega) (by omega), Int.add_assoc]
    · rw [if_neg h2, if_neg (by omega), octal_Check_l0 l hB hl d k (i + 1) _ (by omega) (by omega) (by omega) (by omega), Int.add_assoc]
theorem octal_Check_eq {l : List Int} {k : Nat} (hB : Bts l) (hl : l.length ≤ 1000000) (hk : l.length < k) : octal_Check.f k l = some (ckFrom 0 l) := by
  unfold octal_Check.f
  have := octal_Check_l0 l hB hl l.length k 0 0 (by omega) hk (by omega) (by omega)
  rw [List.drop_zero, Int.zero_add] at this
  exact this
theorem ref05_Check_l0 (l : List Int) (hB : Bts l) (hl : l.length ≤ 1000000) : ∀ (d k i : Nat) (acc : Int), i + d = l.length → d < k → 0 ≤ acc → acc ≤ 256 * i →
    bindleref05_Check.l0 k l acc (i : Int) = some (acc + ckFrom i (l.drop i))
  | 0, k, i, acc, h, hk, _, _ => by
    obtain ⟨k, rfl⟩ : ∃ j, k = j + 1 := ⟨k - 1, by omega⟩
    simp only [bindleref05_Check.l0]
    rw [if_neg (by omega), List.drop_eq_nil_of_le (by omega)]
    simp [ckFrom]
  | d + 1, k, i, acc, h, hk, h0, h1 => by
    obtain ⟨k, rfl⟩ : ∃ j, k = j + 1 := ⟨k - 1, by omega⟩
    have hi : i < l.length := by omega
    have hb := hB _ (List.getElem_mem hi)
    simp only [bindleref05_Check.l0]
    rw [if_pos (by omega), if_pos (show 0 ≤ (i : Int) by omega), rd_at hi, w64b (by omega) (by omega), w64b (n := l[i]) (by omega) (by omega), w64b (by omega) (by omega), w64b (by omega) (by omega), List.drop_eq_getElem_cons hi]
    simp only [ckFrom]
    have e : (i : Int) + 1 = ((i + 1 : Nat) : Int) := by omega
    rw [e]
    by_cases h2 : (i : Int) ≥ 148
    · rw [if_pos h2]
      by_cases h3 : (i : Int) ≤ 155
      · rw [if_pos h3, if_pos (by omega), ref05_Check_l0 l hB hl d k (i + 1) _ (by omega) (by omega) (by omega) (by omega), Int.add_assoc]
      · rw [if_neg h3, if_neg (by omega), ref05_Check_l0 l hB hl d k (i + 1) _ (by omega) (by omega) (by omega) (by omega), Int.add_assoc]
    · rw [if_neg h2, if_neg (by omega), ref05_Check_l0 l hB hl d k (i + 1) _ (by omega) (by omega) (by omega) (by omega), Int.add_assoc]
theorem ref05_Check_eq {l : List Int} {k : Nat} (hB : Bts l) (hl : l.length ≤ 1000000) (hk : l.length < k) : bindleref05_Check.f k l = some (ckFrom 0 l) := by
  unfold bindleref05_Check.f
  have := ref05_Check_l0 l hB hl l.length k 0 0 (by omega) hk (by omega) (by omega)
  rw [List.drop_zero, Int.zero_add] at this
  exact this
theorem index_slash (s : ByteArray) : strings_Index.f s (⟨#[47]⟩ : ByteArray) = some (Lib.indexByte s.data.toList 47) := rfl
theorem path_Split_eq (s : ByteArray) (hs : s.size ≤ 9223372036854775807) : path_Split.f s = some (splitS s) := by
  unfold path_Split.f path_whole.f
  rw [if_pos hs, whole_scan]
  simp only [Option.bind_some]
  have hz := size_len s
  unfold splitS splitL
  rw [← hz]
  by_cases h : scan [] s.data.toList = true ∧ s.size ≤ 254
  · rw [if_pos (show (scan [] s.data.toList && decide ((s.size : Int) ≤ 254)) = true by rw [h.1, Bool.true_and]; exact decide_eq_true (by omega))]
    rw [if_pos h]
    by_cases h1 : s.size ≤ 100
    · rw [if_pos (by omega), if_pos h1]; rfl
    · obtain ⟨m, hm⟩ : ∃ m, s.size = m + 101 := ⟨s.size - 101, by omega⟩
      have hm2 : m + 101 ≤ 254 := by omega
      have hge := Lib.indexByte_ge (s.data.toList.drop m) 47
      have e0 : wrap64 (wrap64 (((m + 101 : Nat) : Int) - 100) - 1) = (m : Int) := by rw [w64b (n := ((m + 101 : Nat) : Int) - 100) (by omega) (by omega), w64b (by omega) (by omega)]; omega
      rw [if_neg (by omega), if_neg h1, hm, e0, if_pos (by omega), if_pos (by omega), index_slash, ext_data, Int.toNat_natCast, List.take_of_length_le (by rw [← hz]; omega), show m + 101 - 101 = m by omega]
      simp only [Option.bind_some]
      have hsrc := ix_cases (s.data.toList.drop m) 47
      generalize Lib.indexByte (s.data.toList.drop m) 47 = j at hge hsrc ⊢
      by_cases h2 : j < 0
      · rw [if_pos h2, if_pos (.inl h2)]; rfl
      · have hj : j + m < s.size := by
          rcases hsrc with ⟨h3, -⟩ | ⟨a, b, h3, -, h4⟩
          · omega
          · have := congrArg List.length h3
            rw [List.length_drop, ← hz, List.length_append, List.length_cons] at this
            omega
        rw [if_neg h2, w64b (n := (m : Int) + j) (by omega) (by omega)]
        by_cases h3 : 155 < (m : Int) + j
        · rw [if_pos (by omega), if_pos (.inr h3)]; rfl
        · rw [if_neg (show ¬ (j < 0 ∨ 155 < (m : Int) + j) by omega), if_neg (show ¬ (m : Int) + j > 155 by omega), if_pos (by omega), if_pos (by omega), w64b (n := (m : Int) + j + 1) (by omega) (by omega), if_pos (by omega), if_pos (by omega)]
          congr 2
          · refine ba_ext ?_
            rw [ext_data, data_ofL, List.drop_zero, show ((m : Int) + j).toNat = m + j.toNat by omega]
          · congr 1
            refine ba_ext ?_
            rw [ext_data, data_ofL, List.take_of_length_le (by rw [← hz]; omega), show ((m : Int) + j + 1).toNat = m + j.toNat + 1 by omega]
  · rw [if_neg h, if_neg]
    · rfl
    · simp only [Bool.and_eq_true, decide_eq_true_eq]
      rintro ⟨a, b⟩
      exact h ⟨a, by omega⟩
theorem textR_eq (s : ByteArray) (w : Nat) (h0 : (0 : Int) ∉ bytesOf s) (h1 : (bytesOf s).length ≤ w) (h2 : 1 ≤ w) (h3 : w ≤ 255) : textR s (w : Int) = (txtF w (bytesOf s), 0) := by
  rw [bytes_len] at h1
  unfold textR txtF
  rw [if_neg (by omega), if_neg h0, if_neg (by omega), Int.toNat_natCast, bytes_len]
theorem lay_txt {s : ByteArray} {w : Nat} {r : List Fld} {xs : List Int} (h0 : (0 : Int) ∉ bytesOf s) (h1 : (bytesOf s).length ≤ w) (h2 : 1 ≤ w) (h3 : w ≤ 255) (hx : xs.length ≤ 90000) :
    lay (.txt s (w : Int) :: r) xs = lay r (xs ++ txtF w (bytesOf s)) := by
  simp only [lay]
  rw [textR_eq s w h0 h1 h2 h3, if_pos (by rw [txtF_length _ _ h1]; omega)]
  unfold addF
  rw [if_pos rfl]
theorem lay_num {m n : Nat} {r : List Fld} {xs : List Int} (h1 : 1 ≤ m) (hm : m ≤ 11) (hn : n < 8 ^ m) (hx : xs.length ≤ 90000) :
    lay (.num (n : Int) ((m + 1 : Nat) : Int) :: r) xs = lay r (xs ++ numF m n) := by
  simp only [lay]
  rw [octal_Put_eq h1 hm hn (by omega)]
  simp only [Option.bind_some]
  rw [if_pos (by rw [numF_length]; omega)]
  unfold addF
  rw [if_pos rfl]
theorem lay_nil {w : Nat} {r : List Fld} {xs : List Int} (h2 : 1 ≤ w) (h3 : w ≤ 255) (hx : xs.length ≤ 90000) : lay (.txt ⟨#[]⟩ (w : Int) :: r) xs = lay r (xs ++ List.replicate w 0) :=
  lay_txt (by decide) (show 0 ≤ w from Nat.zero_le _) h2 h3 hx
theorem lay_fields {s p q : ByteArray} (h : SplitOk s p q) (n : Nat) (hn : n ≤ 4194304) : lay (fields p q (n : Int)) [] = some (preF (bytesOf q) n ++ (List.replicate 8 0 ++ postF (bytesOf p))) := by
  have hq := txtF_length 100 (bytesOf q) h.ql
  have hp := txtF_length 155 (bytesOf p) h.pl
  have h11 : n < 8 ^ 11 := by rw [pow11]; omega
  unfold fields
  refine (lay_txt (w := 100) h.qz h.ql (by decide) (by decide) (by decide)).trans ?_
  refine (lay_num (m := 7) (n := 420) (by decide) (by decide) (by decide) (by simp only [List.length_append, List.length_nil, hq, numF_length, List.length_replicate] <;> omega)).trans ?_
  refine (lay_num (m := 7) (n := 0) (by decide) (by decide) (by decide) (by simp only [List.length_append, List.length_nil, hq, numF_length, List.length_replicate] <;> omega)).trans ?_
  refine (lay_num (m := 7) (n := 0) (by decide) (by decide) (by decide) (by simp only [List.length_append, List.length_nil, hq, numF_length, List.length_replicate] <;> omega)).trans ?_
  refine (lay_num (m := 11) (n := n) (by decide) (by decide) h11 (by simp only [List.length_append, List.length_nil, hq, numF_length, List.length_replicate] <;> omega)).trans ?_
  refine (lay_num (m := 11) (n := 0) (by decide) (by decide) (by decide) (by simp only [List.length_append, List.length_nil, hq, numF_length, List.length_replicate] <;> omega)).trans ?_
  refine (lay_nil (w := 8) (by decide) (by decide) (by simp only [List.length_append, List.length_nil, hq, numF_length, List.length_replicate] <;> omega)).trans ?_
  refine (lay_txt (w := 1) (by decide) (by decide) (by decide) (by decide) (by simp only [List.length_append, List.length_nil, hq, numF_length, List.length_replicate] <;> omega)).trans ?_
  rw [show txtF 1 (bytesOf ⟨#[48]⟩) = [48] from rfl]
  refine (lay_nil (w := 100) (by decide) (by decide) (by simp only [List.length_append, List.length_nil, List.length_cons, hq, numF_length, List.length_replicate] <;> omega)).trans ?_
  refine (lay_txt (w := 6) (by decide) (by decide) (by decide) (by decide) (by simp only [List.length_append, List.length_nil, List.length_cons, hq, numF_length, List.length_replicate] <;> omega)).trans ?_
  rw [show txtF 6 (bytesOf ⟨#[117, 115, 116, 97, 114]⟩) = [117, 115, 116, 97, 114, 0] from rfl]
  refine (lay_txt (w := 2) (by decide) (by decide) (by decide) (by decide) (by simp only [List.length_append, List.length_nil, List.length_cons, hq, numF_length, List.length_replicate] <;> omega)).trans ?_
  rw [show txtF 2 (bytesOf ⟨#[48, 48]⟩) = [48, 48] from rfl]
  refine (lay_nil (w := 32) (by decide) (by decide) (by simp only [List.length_append, List.length_nil, List.length_cons, hq, numF_length, List.length_replicate] <;> omega)).trans ?_
  refine (lay_nil (w := 32) (by decide) (by decide) (by simp only [List.length_append, List.length_nil, List.length_cons, hq, numF_length, List.length_replicate] <;> omega)).trans ?_
  refine (lay_num (m := 7) (n := 0) (by decide) (by decide) (by decide) (by simp only [List.length_append, List.length_nil, List.length_cons, hq, numF_length, List.length_replicate] <;> omega)).trans ?_
  refine (lay_num (m := 7) (n := 0) (by decide) (by decide) (by decide) (by simp only [List.length_append, List.length_nil, List.length_cons, hq, numF_length, List.length_replicate] <;> omega)).trans ?_
  refine (lay_txt (w := 155) h.pz h.pl (by decide) (by decide) (by simp only [List.length_append, List.length_nil, List.length_cons, hq, numF_length, List.length_replicate] <;> omega)).trans ?_
  refine (lay_nil (w := 12) (by decide) (by decide) (by simp only [List.length_append, List.length_nil, List.length_cons, hq, hp, numF_length, List.length_replicate] <;> omega)).trans ?_
  simp only [lay, preF, postF, List.nil_append, List.append_assoc]
theorem app_take' {A B : List Int} {n : Nat} (h : A.length = n) : (A ++ B).take n = A := List.take_left' h
theorem Bts_mid (q p : ByteArray) (n : Nat) (M : List Int) (hM : Bts M) : Bts (preF (bytesOf q) n ++ (M ++ postF (bytesOf p))) := (Bts_preF _ _ (Bts_of q)).app (hM.app (Bts_postF _ (Bts_of p)))
theorem header_Put_eq (s : ByteArray) (n : Int) (hs : s.size ≤ 9223372036854775807) : header_Put.f s n = some (hput s n) := by
  unfold header_Put.f hput
  rw [path_Split_eq s hs]
  simp only [Option.bind_some]
  by_cases h0 : (splitS s).2.2 = 0
  · rw [if_pos h0, if_pos h0]
    by_cases h1 : n < 0 ∨ 4194304 < n
    · rw [if_pos h1, if_pos h1]
    · rw [if_neg h1, if_neg h1]
      obtain ⟨j, rfl⟩ : ∃ j : Nat, n = j := ⟨n.toNat, by omega⟩
      have hS : SplitOk s (splitS s).1 (splitS s).2.1 := splitS_ok (by rw [← h0])
      generalize (splitS s).1 = p at hS ⊢
      generalize (splitS s).2.1 = q at hS ⊢
      have lp := preF_length (bytesOf q) j hS.ql
      have lq := postF_length (bytesOf p) hS.pl
      have lb : (preF (bytesOf q) j ++ (List.replicate 8 0 ++ postF (bytesOf p))).length = 512 := by simp only [List.length_append, lp, lq, List.length_replicate]
      rw [lay_fields hS j (by omega)]
      simp only [Option.bind_some]
      rw [octal_Check_eq (Bts_mid q p j _ (Bts_rep 8)) (by omega) (by omega), ck_three _ _ _ lp (List.length_replicate ..), ← ckF_eq _ _ _ (Bts_of q) (Bts_of p)]
      simp only [Option.bind_some]
      have e : octal_Put.f 64 ((ckF (bytesOf q) (bytesOf p) j : Nat) : Int) 7 = some (numF 6 (ckF (bytesOf q) (bytesOf p) j), 0) := octal_Put_eq (m := 6) (by decide) (by decide) (ckF_lt _ _ _ (Bts_of q) (Bts_of p) hS.ql hS.pl) (by decide)
      rw [e]
      simp only [Option.bind_some]
      rw [numF_length, if_pos (by omega), Int.toNat_natCast, app_take' lp]
      have e2 : (preF (bytesOf q) j ++ (List.replicate 8 0 ++ postF (bytesOf p))).drop (149 + (6 + 1)) = postF (bytesOf p) := by
        rw [← List.append_assoc, List.drop_left' (by simp only [List.length_append, lp, List.length_replicate])]
      rw [e2]
      unfold hdr numF
      simp only [List.append_assoc, List.cons_append, List.nil_append]
  · rw [if_neg h0, if_neg h0]
theorem octal_Name_eq {l : List Int} (h : Bts l) : octal_Name.f l = some (if (trimr l).contains 0 = true then ((⟨#[]⟩ : ByteArray), (2 : Int)) else (strOfNums (trimr l), 0)) := by
  unfold octal_Name.f
  rw [if_pos]
  rw [List.all_eq_true]
  intro x hx
  exact decide_eq_true (h x hx)
theorem str_bytes (s : ByteArray) : strOfNums (bytesOf s) = s := by
  refine ba_ext ?_
  rw [strOfNums_data]
  unfold bytesOf
  rw [List.map_map]
  conv => rhs; rw [← List.map_id s.data.toList]
  refine List.map_congr_left fun b _ => ?_
  simp
theorem bytes_str {l : List Int} (h : Bts l) : bytesOf (strOfNums l) = l := by
  unfold bytesOf
  rw [strOfNums_data, List.map_map]
  conv => rhs; rw [← List.map_id l]
  refine List.map_congr_left fun x hx => ?_
  have := h x hx
  simp only [Function.comp_apply, id_eq, UInt8.toNat_ofNat']
  omega
theorem str_eq {a b : List Int} (ha : Bts a) (hb : Bts b) : (strOfNums a).toList = (strOfNums b).toList ↔ a = b := by
  constructor
  · intro h
    rw [ByteArray.toList_eq, ByteArray.toList_eq] at h
    rw [← bytes_str ha, ← bytes_str hb, ba_ext h]
  · rintro rfl; rfl
theorem octal_Name_txt (w : Nat) (s : ByteArray) (h : (0 : Int) ∉ bytesOf s) : octal_Name.f (txtF w (bytesOf s)) = some (s, 0) := by
  rw [octal_Name_eq (Bts_txtF _ _ (Bts_of s)), trimr_txt w _ h, if_neg (by simpa using h), str_bytes]
theorem octal_Name_any {l : List Int} (h : Bts l) : ∃ s e, octal_Name.f l = some (s, e) ∧ s.size ≤ l.length := by
  rw [octal_Name_eq h]
  split
  · exact ⟨_, _, rfl, Nat.zero_le _⟩
  · refine ⟨_, _, rfl, ?_⟩
    rw [strOfNums_size]; exact trimr_le l
theorem oval_bd : ∀ (n : Nat) (l : List Int), l.length = n → (∀ x ∈ l, 48 ≤ x ∧ x ≤ 55) → 0 ≤ oval l ∧ oval l < ((8 ^ n : Nat) : Int)
  | 0, l, h, _ => by
    obtain rfl := List.length_eq_zero_iff.1 h
    exact ⟨by decide, by decide⟩
  | n + 1, l, h, hx => by
    rcases List.eq_nil_or_concat l with rfl | ⟨r, x, rfl⟩
    · simp at h
    · rw [List.concat_eq_append] at h hx ⊢
      have ih := oval_bd n r (by simpa using h) (fun y hy => hx y (List.mem_append_left _ hy))
      have h1 := hx x (List.mem_append_right _ (List.mem_singleton.2 rfl))
      rw [oval_snoc, Nat.pow_succ]
      omega
theorem octal_Get_l0 (l : List Int) (hl : l.length ≤ 11) (hx : ∀ x ∈ l, 48 ≤ x ∧ x ≤ 55) : ∀ (d k i : Nat), i + d = l.length → d < k → octal_Get.l0 k (oval (l.take i)) l (l.length : Int) (i : Int) = some (oval l, 0)
  | 0, k, i, h, hk => by
    obtain ⟨k, rfl⟩ : ∃ j, k = j + 1 := ⟨k - 1, by omega⟩
    simp only [octal_Get.l0]
    rw [if_neg (by omega), List.take_of_length_le (by omega)]
  | d + 1, k, i, h, hk => by
    obtain ⟨k, rfl⟩ : ∃ j, k = j + 1 := ⟨k - 1, by omega⟩
    have hi : i < l.length := by omega
    have hb := hx _ (List.getElem_mem hi)
    have ho := oval_bd i (l.take i) (by rw [List.length_take]; omega) (fun y hy => hx y (List.mem_of_mem_take hy))
    have hp : 8 ^ i ≤ 8589934592 := by rw [← pow11]; exact Nat.pow_le_pow_right (by decide) (by omega)
    simp only [octal_Get.l0]
    rw [if_pos (by omega), if_pos (by omega), if_pos (by omega), rd_at hi, if_neg (by omega), if_neg (by omega), w64b (n := 8 * oval (l.take i)) (by omega) (by omega), w64b (by omega) (by omega), w64b (by omega) (by omega)]
    have e : 8 * oval (l.take i) + (l[i] - 48) % 256 = oval (l.take (i + 1)) := by
      rw [List.take_succ_eq_append_getElem hi, oval_snoc]; omega
    rw [e, show (i : Int) + 1 = ((i + 1 : Nat) : Int) by omega]
    exact octal_Get_l0 l hl hx d k (i + 1) (by omega) (by omega)
theorem octal_Get_eq {n k : Nat} (hn : n < 8 ^ 11) (hk : 13 < k) : octal_Get.f k (numF 11 n) = some ((n : Int), 0) := by
  obtain ⟨k, rfl⟩ : ∃ j, k = j + 1 := ⟨k - 1, by omega⟩
  have hl := numF_length 11 n
  have hd := digs_length 11 n
  unfold octal_Get.f
  rw [hl, if_neg (by decide), if_neg (by decide), show wrap64 (((11 + 1 : Nat) : Int) - 1) = ((11 : Nat) : Int) by rw [w64b (by omega) (by omega)]; omega, if_pos (by decide), if_pos (by decide), rd_at (by omega)]
  have e : (numF 11 n)[11]'(by omega) = 0 := by
    unfold numF
    rw [List.getElem_append_right (by omega)]
    simp [hd]
  rw [e]
  simp only [octal_Get.j0]
  rw [if_neg (by decide), hl, show wrap64 (((11 + 1 : Nat) : Int) - 1) = ((11 : Nat) : Int) by rw [w64b (by omega) (by omega)]; omega, if_pos (by decide), if_pos (by decide), Int.toNat_natCast]
  have e2 : (numF 11 n).take 11 = digs 11 n := by unfold numF; exact List.take_left' hd
  rw [e2]
  have := octal_Get_l0 (digs 11 n) (by omega) (digs_range 11 n) (digs 11 n).length k 0 (by omega) (by omega)
  rw [List.take_zero] at this
  rw [oval_digs 11 n hn] at this
  exact this
theorem octal_Get_l0_any (l : List Int) (hl : l.length ≤ 1000000) : ∀ (d k i : Nat) (acc : Int), i + d = l.length → d < k → ∃ r, octal_Get.l0 k acc l (l.length : Int) (i : Int) = some r
  | 0, k, i, acc, h, hk => by
    obtain ⟨k, rfl⟩ : ∃ j, k = j + 1 := ⟨k - 1, by omega⟩
    simp only [octal_Get.l0]
    rw [if_neg (by omega)]
    exact ⟨_, rfl⟩
  | d + 1, k, i, acc, h, hk => by
    obtain ⟨k, rfl⟩ : ∃ j, k = j + 1 := ⟨k - 1, by omega⟩
    simp only [octal_Get.l0]
    rw [if_pos (by omega), if_pos (by omega), if_pos (by omega)]
    split
    · exact ⟨_, rfl⟩
    · split
      · exact ⟨_, rfl⟩
      · rw [w64b (n := (i : Int) + 1) (by omega) (by omega), show (i : Int) + 1 = ((i + 1 : Nat) : Int) by omega]
        exact octal_Get_l0_any l hl d k (i + 1) _ (by omega) (by omega)
theorem octal_Get_any {l : List Int} {k : Nat} (hl : l.length = 12) (hk : 13 < k) : ∃ r, octal_Get.f k l = some r := by
  obtain ⟨k, rfl⟩ : ∃ j, k = j + 1 := ⟨k - 1, by omega⟩
  unfold octal_Get.f
  rw [hl, if_neg (by decide), if_neg (by decide), show wrap64 (((12 : Nat) : Int) - 1) = ((11 : Nat) : Int) by rw [w64b (by omega) (by omega)]; omega, if_pos (by decide), if_pos (by decide)]
  simp only [octal_Get.j0]
  split
  · exact ⟨_, rfl⟩
  · rw [hl, show wrap64 (((12 : Nat) : Int) - 1) = ((11 : Nat) : Int) by rw [w64b (by omega) (by omega)]; omega, if_pos (by decide), if_pos (by decide), Int.toNat_natCast]
    have ht : (l.take 11).length = 11 := by rw [List.length_take]; omega
    exact octal_Get_l0_any (l.take 11) (by omega) (l.take 11).length k 0 0 (by omega) (by omega)
theorem app_data (a b : ByteArray) : (a ++ b).data.toList = a.data.toList ++ b.data.toList := by simp
theorem join_data {s p q : ByteArray} (h : joinL p.data.toList q.data.toList = s.data.toList) (hp : p.data.toList ≠ []) : (p ++ (⟨#[47]⟩ : ByteArray)) ++ q = s := by
  refine ba_ext ?_
  rw [app_data, app_data, ← h]
  unfold joinL
  rw [if_neg hp]
  simp
theorem one_size : (⟨#[47]⟩ : ByteArray).size = 1 := rfl
theorem path_Join_eq {s p q : ByteArray} (h : splitS s = (p, q, 0)) (hs : SplitOk s p q) : path_Join.f p q = some (s, 0) := by
  have hpl := hs.pl
  have hql := hs.ql
  rw [bytes_len] at hpl hql
  unfold path_Join.f
  by_cases hp : p.data.toList = []
  · have e : s = q := by
      have := hs.join
      unfold joinL at this
      rw [if_pos hp] at this
      exact ba_ext this.symm
    subst e
    rw [if_pos (by rw [ByteArray.toList_eq]; exact hp), path_Split_eq s (by omega), h]
    simp only [Option.bind_some]
    rw [if_pos trivial, if_pos trivial, if_pos trivial]
  · rw [if_neg (by rw [ByteArray.toList_eq]; exact hp), if_pos (by omega), if_pos (by rw [ByteArray.size_append, one_size]; omega), join_data hs.join hp]
    have hz : s.size ≤ 9223372036854775807 := by
      rw [← join_data hs.join hp, ByteArray.size_append, ByteArray.size_append, one_size]; omega
    rw [path_Split_eq s hz, h]
    simp only [Option.bind_some]
    rw [if_pos trivial, if_pos trivial, if_pos trivial]
theorem path_Join_any {p q : ByteArray} (hp : p.size ≤ 10000) (hq : q.size ≤ 10000) : ∃ s e, path_Join.f p q = some (s, e) ∧ s.size ≤ 30000 := by
  unfold path_Join.f
  have hz : ((p ++ (⟨#[47]⟩ : ByteArray)) ++ q).size = p.size + 1 + q.size := by rw [ByteArray.size_append, ByteArray.size_append]; rfl
  have h0 : (⟨#[]⟩ : ByteArray).size = 0 := rfl
  split
  · rw [path_Split_eq q (by omega)]
    simp only [Option.bind_some]
    split
    · split
      · split
        · exact ⟨_, _, rfl, by omega⟩
        · exact ⟨_, _, rfl, by omega⟩
      · exact ⟨_, _, rfl, by omega⟩
    · exact ⟨_, _, rfl, by omega⟩
  · rw [if_pos (by omega), if_pos (by rw [ByteArray.size_append, one_size]; omega), path_Split_eq _ (by omega)]
    simp only [Option.bind_some]
    split
    · split
      · split
        · exact ⟨_, _, rfl, by omega⟩
        · exact ⟨_, _, rfl, by omega⟩
      · exact ⟨_, _, rfl, by omega⟩
    · exact ⟨_, _, rfl, by omega⟩
theorem bytes_Equal_eq {a b : List Int} (ha : Bts a) (hb : Bts b) : bytes_Equal.f a b = some (decide (a = b)) := by
  unfold bytes_Equal.f
  congr 1
  rw [Bool.eq_iff_iff, beq_iff_eq, str_eq ha hb, decide_eq_true_eq]
theorem header_Get_eq' {b : List Int} {k : Nat} (hB : Bts b) (hl : b.length ≤ 140737488351232) (hk : 20 < k) : header_Get.f k b = some (hget b) := by
  obtain ⟨k, rfl⟩ : ∃ j, k = j + 1 := ⟨k - 1, by omega⟩
  unfold header_Get.f
  by_cases h512 : b.length < 512
  · rw [if_pos (by omega), hget_short h512]
  rw [if_neg (by omega), if_pos (by omega)]
  have B1 := hB.take 100
  have B2 := (hB.take 500).drop 345
  have l1 : (b.take 100).length = 100 := by rw [List.length_take]; omega
  have l2 : ((b.take 500).drop 345).length = 155 := by rw [List.length_drop, List.length_take]; omega
  have l3 : ((b.take 136).drop 124).length = 12 := by rw [List.length_drop, List.length_take]; omega
  by_cases hx : ∃ s n, hput s n = (b, 0)
  · obtain ⟨s, n, hx⟩ := hx
    rw [hget_ok hx]
    obtain ⟨p, q, ho⟩ := hput_ok hx
    have hsz : s.size ≤ 9223372036854775807 := by
      have hp := ho.sp.pl
      have hq := ho.sp.ql
      have hj := congrArg List.length ho.sp.join
      rw [bytes_len, size_len] at hp hq
      rw [size_len, ← hj]
      unfold joinL
      split
      · omega
      · rw [List.length_append, List.length_cons]; omega
    rw [ho.name, octal_Name_txt _ _ ho.sp.qz]
    simp only [Option.bind_some]
    rw [if_pos (by decide), if_pos (by omega), ho.pre, octal_Name_txt _ _ ho.sp.pz]
    simp only [Option.bind_some]
    rw [if_pos (by decide), if_pos (by omega), ho.size, octal_Get_eq ho.lt (by omega), path_Join_eq ho.split ho.sp]
    simp only [Option.bind_some]
    rw [if_pos trivial, if_pos trivial, if_pos trivial]
    have hn : ((n.toNat : Nat) : Int) = n := by have := ho.n0; omega
    rw [hn]
    simp only [header_Get.j0]
    rw [if_neg (by decide), header_Put_eq s n hsz, hx]
    simp only [Option.bind_some, if_true]
    rw [bytes_Equal_eq hB hB]
    simp
  · obtain ⟨nm, e1, h1, z1⟩ := octal_Name_any B1
    obtain ⟨pr, e2, h2, z2⟩ := octal_Name_any B2
    obtain ⟨⟨n, e3⟩, h3⟩ := octal_Get_any (k := k + 1) l3 (by omega)
    obtain ⟨s, e4, h4, z4⟩ := path_Join_any (p := pr) (q := nm) (by omega) (by omega)
    rw [hget_form (by omega) (fun ⟨t, ht⟩ => hx ⟨t.1, t.2, ht⟩), h1]
    simp only [Option.bind_some]
    rw [if_pos (by decide), if_pos (by omega), h2]
    simp only [Option.bind_some]
    rw [if_pos (by decide), if_pos (by omega), h3]
    simp only [Option.bind_some]
    rw [h4]
    simp only [Option.bind_some]
    have hj : ∀ x, header_Get.j0 (k + 1) b n s x = some ((⟨#[]⟩ : ByteArray), 0, 2) := by
      intro x
      simp only [header_Get.j0]
      split
      · rfl
      · rw [header_Put_eq s n (by omega)]
        simp only [Option.bind_some]
        split
        · rename_i hz
          rw [bytes_Equal_eq (hput_bts s n) hB]
          simp only [Option.bind_some, decide_eq_true_eq]
          rw [if_neg]
          intro he
          exact hx ⟨s, n, by rw [← he, ← hz]⟩
        · rfl
    rw [hj, hj]
    simp only [ite_self]
theorem header_Get_eq (b : List Int) (h : Bts b) (hl : b.length ≤ 512) : header_Get.f 1000 b = some (hget b) := header_Get_eq' h (by omega) (by decide)
end Go.Proofs.YtkcmkgkkddgicaaDoor.R

/- What the references of octal, path and header answer: the plain answers of PlA. -/
set_option linter.unusedVariables false
set_option linter.unusedSimpArgs false
namespace Go.Proofs.YtkcmkgkkddgicaaDoor.R
open Go Go.RowKit Go.Proofs.YtkcmkgkkddgicaaDoorW.PrintWords Go.Proofs.YtkcmkgkkddgicaaDoorW.PrintLast Go.Proofs.YtkcmkgkkddgicaaDoorW.PrintMore
theorem letter_all : ∀ n < 256, bindleref06_letter.f ((n : Nat) : Int) = some (isLetter (UInt8.ofNat n)) := by decide +kernel
theorem letter_eq (b : UInt8) : bindleref06_letter.f (b.toNat : Int) = some (isLetter b) := by
  rw [letter_all b.toNat b.toNat_lt, UInt8.ofNat_toNat]
theorem bt_get {s : ByteArray} {i : Nat} (h : i < s.data.toList.length) : bt s (i : Int) = ((s.data.toList[i]).toNat : Int) := by
  rw [← rd_bytesOf, rd_at (by rw [bytes_len, size_len]; exact h)]
  simp [bytesOf]
theorem part_l0 (s : ByteArray) (hs : s.size ≤ 140737488351232) : ∀ (d k i : Nat), i + d = s.size → d < k →
    bindleref06_part.l0 k s (i : Int) = some ((s.data.toList.drop i).all isLetter && (decide (1 ≤ s.size) && decide ((s.size : Int) ≤ 100) && !(s.data.toList == [46]) && !(s.data.toList == [46, 46])))
  | 0, k, i, h, hk => by
    obtain ⟨k, rfl⟩ : ∃ j, k = j + 1 := ⟨k - 1, by omega⟩
    have hz := size_len s
    simp only [bindleref06_part.l0]
    rw [if_neg (by omega), List.drop_eq_nil_of_le (by omega), List.all_nil, Bool.true_and, ByteArray.toList_eq]
    by_cases h1 : 1 ≤ s.size
    · rw [if_pos (by omega), decide_eq_true h1, Bool.true_and]
      by_cases h2 : (s.size : Int) ≤ 100
      · rw [if_pos h2, decide_eq_true h2, Bool.true_and]
        by_cases h3 : s.data.toList = [46]
        · rw [if_pos h3, h3]; rfl
        · rw [if_neg h3]
          have h4 : (s.data.toList == [46]) = false := by simpa using h3
          rw [h4]; rfl
      · rw [if_neg h2, decide_eq_false h2]; rfl
    · rw [if_neg (by omega), decide_eq_false h1]; rfl
  | d + 1, k, i, h, hk => by
    obtain ⟨k, rfl⟩ : ∃ j, k = j + 1 := ⟨k - 1, by omega⟩
    have hz := size_len s
    have hi : i < s.data.toList.length := by omega
    simp only [bindleref06_part.l0]
    rw [if_pos (by omega), if_pos (by omega), bt_get hi, letter_eq, List.drop_eq_getElem_cons hi, List.all_cons]
    simp only [Option.bind_some]
    by_cases hc : isLetter s.data.toList[i] = true
    · rw [if_pos hc, hc, Bool.true_and, w64b (by omega) (by omega), show (i : Int) + 1 = ((i + 1 : Nat) : Int) by omega]
      exact part_l0 s hs d k (i + 1) (by omega) (by omega)
    · rw [if_neg hc]
      rw [Bool.not_eq_true] at hc
      rw [hc]; rfl
theorem ref_part_eq {s : ByteArray} {k : Nat} (hs : s.size ≤ 140737488351232) (hk : s.size < k) : bindleref06_part.f k s = some (partL s.data.toList) := by
  unfold bindleref06_part.f
  have h := part_l0 s hs s.size k 0 (by omega) hk
  rw [show ((0 : Nat) : Int) = 0 from rfl] at h
  rw [h, List.drop_zero]
  unfold partL
  rw [← size_len]
  have e : (!(s.data.toList == [])) = decide (1 ≤ s.size) := by
    rw [Bool.eq_iff_iff]
    have hz := size_len s
    rw [decide_eq_true_eq, Bool.not_eq_true', beq_eq_false_iff_ne]
    constructor
    · intro h
      have := List.length_pos_iff.2 h
      omega
    · intro h h'
      rw [h', List.length_nil] at hz
      omega
  rw [e]
  congr 1
  rw [Bool.and_comm]
theorem Parts_l0 (s : ByteArray) (hs : s.size ≤ 140737488351232) : ∀ (d k i from' : Nat), i + d = s.size → from' ≤ i → 2 * d + s.size + 4 < k →
    bindleref06_Parts.l0 k s (from' : Int) (i : Int) = some (scan ((s.data.toList.take i).drop from') (s.data.toList.drop i))
  | 0, k, i, fr, h, hf, hk => by
    obtain ⟨k, rfl⟩ : ∃ j, k = j + 3 := ⟨k - 3, by omega⟩
    have hz := size_len s
    have hd : (s.extract fr i).data.toList = (s.data.toList.take i).drop fr := ext_data s fr i
    have hsz : (s.extract fr i).size ≤ s.size := by rw [size_len, hd, List.length_drop, List.length_take]; omega
    simp only [bindleref06_Parts.l0]
    rw [if_pos (by omega), if_pos (by omega)]
    simp only [bindleref06_Parts.j1]
    rw [if_pos trivial, if_pos (by omega), if_pos (by omega), if_pos (by omega), Int.toNat_natCast, Int.toNat_natCast, ref_part_eq (by omega) (by omega), hd, show s.data.toList.drop i = [] from List.drop_eq_nil_of_le (by omega)]
    simp only [Option.bind_some, scan]
    cases partL ((s.data.toList.take i).drop fr) with
    | false => rfl
    | true =>
      rw [if_pos rfl, w64b (by omega) (by omega)]
      simp only [bindleref06_Parts.l0]
      rw [if_neg (by omega)]
  | d + 1, k, i, fr, h, hf, hk => by
    obtain ⟨k, rfl⟩ : ∃ j, k = j + 2 := ⟨k - 2, by omega⟩
    have hz := size_len s
    have hi : i < s.data.toList.length := by omega
    have hd : (s.extract fr i).data.toList = (s.data.toList.take i).drop fr := ext_data s fr i
    have hsz : (s.extract fr i).size ≤ s.size := by rw [size_len, hd, List.length_drop, List.length_take]; omega
    simp only [bindleref06_Parts.l0]
    rw [if_pos (by omega), if_neg (by omega), if_pos (by omega), if_pos (by omega), bt_get hi]
    simp only [bindleref06_Parts.j1]
    rw [List.drop_eq_getElem_cons hi]
    simp only [scan]
    rw [w64b (n := (i : Int) + 1) (by omega) (by omega), show (i : Int) + 1 = ((i + 1 : Nat) : Int) by omega]
    by_cases hc : s.data.toList[i] = 47
    · rw [if_pos (by rw [hc]; rfl), if_pos hc, if_pos (by omega), if_pos (by omega), if_pos (by omega), Int.toNat_natCast, Int.toNat_natCast, ref_part_eq (by omega) (by omega), hd]
      simp only [Option.bind_some]
      cases partL ((s.data.toList.take i).drop fr) with
      | false => rfl
      | true =>
        rw [if_pos rfl, Parts_l0 s hs d k (i + 1) (i + 1) (by omega) (by omega) (by omega), List.drop_eq_nil_of_le (by rw [List.length_take]; omega), Bool.true_and]
    · rw [if_neg (by simp only [beq_iff_eq]; intro e; exact hc (UInt8.toNat_inj.1 (show (s.data.toList[i]).toNat = 47 by omega))), if_neg hc, Parts_l0 s hs d k (i + 1) fr (by omega) (by omega) (by omega), List.take_succ_eq_append_getElem hi, List.drop_append_of_le_length (by rw [List.length_take]; omega)]
theorem Parts_eq {s : ByteArray} {k : Nat} (hs : s.size ≤ 140737488351232) (hk : 3 * s.size + 4 < k) : bindleref06_Parts.f k s = some (scan [] s.data.toList) := by
  unfold bindleref06_Parts.f
  have h := Parts_l0 s hs s.size k 0 0 (by omega) (by omega) (by omega)
  rw [show ((0 : Nat) : Int) = 0 from rfl] at h
  rw [h]; rfl
theorem ix_cons (c : UInt8) (r : List UInt8) : Lib.indexByte (c :: r) 47 = if c = 47 then 0 else if Lib.indexByte r 47 = -1 then -1 else Lib.indexByte r 47 + 1 := by
  rw [Lib.indexByte]
  by_cases h : c = 47
  · rw [if_pos (by simp [h]), if_pos h]
  · rw [if_neg (by simpa using h), if_neg h]
    by_cases h2 : Lib.indexByte r 47 = -1
    · rw [if_pos (by simp [h2]), if_pos h2]
    · rw [if_neg (by simpa using h2), if_neg h2]
/-- the tail of the split, from a place on -/
def splitAt' (l : List UInt8) (m : Nat) : List UInt8 × List UInt8 × Int :=
  if Lib.indexByte (l.drop m) 47 < 0 ∨ 155 < (m : Int) + Lib.indexByte (l.drop m) 47 then ([], [], 9) else
    (l.take (m + (Lib.indexByte (l.drop m) 47).toNat), l.drop (m + (Lib.indexByte (l.drop m) 47).toNat + 1), 0)
theorem splitAt_hit (l : List UInt8) (m : Nat) (h : m < l.length) (hc : l[m] = 47) : splitAt' l m = if 155 < (m : Int) then ([], [], 9) else (l.take m, l.drop (m + 1), 0) := by
  unfold splitAt'
  rw [List.drop_eq_getElem_cons h, ix_cons, if_pos hc]
  by_cases h2 : 155 < (m : Int)
  · rw [if_pos (.inr (by omega)), if_pos h2]
  · rw [if_neg (by omega), if_neg h2]; rfl
theorem splitAt_miss (l : List UInt8) (m : Nat) (h : m < l.length) (hc : ¬ l[m] = 47) : splitAt' l m = splitAt' l (m + 1) := by
  unfold splitAt'
  rw [List.drop_eq_getElem_cons h, ix_cons, if_neg hc]
  have hge := Lib.indexByte_ge (l.drop (m + 1)) 47
  generalize Lib.indexByte (l.drop (m + 1)) 47 = j at hge ⊢
  by_cases h2 : j = -1
  · rw [if_pos h2, if_pos (.inl (by decide)), if_pos (.inl (by omega))]
  · rw [if_neg h2]
    by_cases h3 : 155 < (m : Int) + (j + 1)
    · rw [if_pos (.inr h3), if_pos (.inr (by omega))]
    · rw [if_neg (by omega), if_neg (by omega), show m + (j + 1).toNat = m + 1 + j.toNat by omega]
def triS (t : List UInt8 × List UInt8 × Int) : ByteArray × ByteArray × Int := (ofL t.1, ofL t.2.1, t.2.2)
theorem Split_l0 (s : ByteArray) (hs : s.size ≤ 254) (m : Nat) (hm : s.size = m + 101) : ∀ (d k i : Nat), i + d = s.size → 2 * d + 2 < k →
    bindleref06_Split.l0 k s (i : Int) = some (triS (splitAt' s.data.toList (max i m)))
  | 0, k, i, h, hk => by
    obtain ⟨k, rfl⟩ : ∃ j, k = j + 1 := ⟨k - 1, by omega⟩
    have hz := size_len s
    simp only [bindleref06_Split.l0]
    rw [if_neg (by omega), show max i m = i by omega]
    unfold splitAt'
    rw [show s.data.toList.drop i = [] from List.drop_eq_nil_of_le (by omega), if_pos (.inl (by decide))]
    rfl
  | d + 1, k, i, h, hk => by
    obtain ⟨k, rfl⟩ : ∃ j, k = j + 2 := ⟨k - 2, by omega⟩
    have hz := size_len s
    have hi : i < s.data.toList.length := by omega
    simp only [bindleref06_Split.l0]
    rw [if_pos (by omega), if_pos (by omega), bt_get hi]
    simp only [bindleref06_Split.j2]
    rw [w64b (n := (s.size : Int) - i) (by omega) (by omega), w64b (n := (s.size : Int) - i - 1) (by omega) (by omega), w64b (n := (i : Int) + 1) (by omega) (by omega)]
    have ih := Split_l0 s hs m hm d k (i + 1) (by omega) (by omega)
    rw [show ((i + 1 : Nat) : Int) = (i : Int) + 1 by omega] at ih
    by_cases hc : s.data.toList[i] = 47
    · rw [if_pos (by rw [hc]; rfl)]
      by_cases h1 : m ≤ i
      · rw [if_pos (decide_eq_true (by omega)), show max i m = i by omega, splitAt_hit _ _ hi hc]
        by_cases h2 : (i : Int) > 155
        · rw [if_pos h2, if_pos h2]; rfl
        · rw [if_neg h2, if_neg h2, if_pos (by omega), if_pos (by omega), if_pos (by omega), if_pos (by omega)]
          unfold triS
          congr 2
          · refine ba_ext ?_
            rw [ext_data, data_ofL, List.drop_zero, Int.toNat_natCast]
          · congr 1
            refine ba_ext ?_
            rw [ext_data, data_ofL, hz, List.take_length, show ((i : Int) + 1).toNat = i + 1 by omega]
      · rw [if_neg (by simp only [decide_eq_true_eq]; omega), ih, show max (i + 1) m = m by omega, show max i m = m by omega]
    · rw [if_neg (fun e => hc (UInt8.toNat_inj.1 (show (s.data.toList[i]).toNat = 47 by omega))), if_neg (by decide), ih]
      by_cases h1 : m ≤ i
      · rw [show max i m = i by omega, show max (i + 1) m = i + 1 by omega, splitAt_miss _ _ hi hc]
      · rw [show max (i + 1) m = m by omega, show max i m = m by omega]
theorem splitL_at (l : List UInt8) (m : Nat) (hm : l.length = m + 101) (h : scan [] l = true ∧ l.length ≤ 254) : splitL l = splitAt' l m := by
  unfold splitL splitAt'
  rw [if_pos h, if_neg (by omega), show l.length - 101 = m by omega]
theorem ref_Split_eq {s : ByteArray} {k : Nat} (hs : s.size ≤ 140737488351232) (hk : 3 * s.size + 4 < k) : bindleref06_Split.f k s = some (splitS s) := by
  obtain ⟨k, rfl⟩ : ∃ j, k = j + 1 := ⟨k - 1, by omega⟩
  have hz := size_len s
  have hb : splitS s = triS (splitL s.data.toList) := rfl
  unfold bindleref06_Split.f
  rw [Parts_eq hs hk, hb]
  simp only [Option.bind_some, bindleref06_Split.j0]
  by_cases h1 : scan [] s.data.toList = true
  · rw [if_pos h1]
    by_cases h2 : s.size ≤ 254
    · rw [if_neg (by simp only [decide_eq_true_eq]; omega)]
      by_cases h3 : s.size ≤ 100
      · rw [if_pos (by omega)]
        unfold splitL
        rw [if_pos ⟨h1, by omega⟩, if_pos (by omega)]; rfl
      · rw [if_neg (by omega)]
        obtain ⟨m, hm⟩ : ∃ m, s.size = m + 101 := ⟨s.size - 101, by omega⟩
        have h := Split_l0 s h2 m hm s.size k 0 (by omega) (by omega)
        rw [show ((0 : Nat) : Int) = 0 from rfl, show max 0 m = m by omega] at h
        rw [h, splitL_at _ m (by omega) ⟨h1, by omega⟩]
    · rw [if_pos (by simp only [decide_eq_true_eq]; omega)]
      unfold splitL
      rw [if_neg (by omega)]; rfl
  · rw [if_neg h1, if_pos trivial]
    unfold splitL
    rw [if_neg (fun h => h1 h.1)]; rfl
theorem ref_text {l : List Int} {s : ByteArray} {w : Nat} (h0 : (0 : Int) ∉ bytesOf s) (h1 : (bytesOf s).length ≤ w) (h2 : 1 ≤ w) (h3 : w ≤ 255) (hx : l.length ≤ 90000) :
    bindleref07_text.f l s (w : Int) = some (l ++ txtF w (bytesOf s)) := by
  have hl := h1
  rw [bytes_len] at hl
  unfold bindleref07_text.f bindleref05_Text.f
  rw [if_pos (by omega), textR_eq s w h0 h1 h2 h3]
  simp only [Option.bind_some, List.nil_append, List.length_nil]
  rw [if_pos (by omega), if_pos (by rw [txtF_length _ _ h1]; omega)]
theorem ref_text_nil {l : List Int} {w : Nat} (h2 : 1 ≤ w) (h3 : w ≤ 255) (hx : l.length ≤ 90000) : bindleref07_text.f l ⟨#[]⟩ (w : Int) = some (l ++ List.replicate w 0) :=
  ref_text (by decide) (show 0 ≤ w from Nat.zero_le _) h2 h3 hx
theorem ref_num {l : List Int} {m n k : Nat} (h1 : 1 ≤ m) (hm : m ≤ 11) (hn : n < 8 ^ m) (hk : 13 < k) (hx : l.length ≤ 90000) :
    bindleref07_number.f k l (n : Int) ((m + 1 : Nat) : Int) = some (l ++ numF m n) := by
  unfold bindleref07_number.f
  rw [ref05_Put_eq h1 hm hn (by omega)]
  simp only [Option.bind_some, List.nil_append, List.length_nil]
  rw [if_pos (by omega), if_pos (by rw [numF_length]; omega)]
theorem ref_sum_l0 (S : List Int) (hS : S.length = 8) : ∀ (d k i : Nat) (b : List Int), i + d = 8 → d < k → 156 ≤ b.length →
    bindleref07_Put.l0 k b S (i : Int) = some (b.take (148 + i) ++ (S.drop i ++ b.drop 156), 0)
  | 0, k, i, b, h, hk, hb => by
    obtain ⟨k, rfl⟩ : ∃ j, k = j + 1 := ⟨k - 1, by omega⟩
    simp only [bindleref07_Put.l0]
    rw [if_neg (by omega), show S.drop i = [] from List.drop_eq_nil_of_le (by omega), show 148 + i = 156 by omega, List.nil_append, List.take_append_drop]
  | d + 1, k, i, b, h, hk, hb => by
    obtain ⟨k, rfl⟩ : ∃ j, k = j + 1 := ⟨k - 1, by omega⟩
    have hi : i < S.length := by omega
    simp only [bindleref07_Put.l0]
    rw [if_pos (by omega), if_pos (by omega), if_pos (by omega), w64b (n := 148 + (i : Int)) (by omega) (by omega), if_pos (by omega), if_pos (by omega), w64b (n := (i : Int) + 1) (by omega) (by omega), rd_at hi,
      show (148 + (i : Int)).toNat = 148 + i by omega, show (i : Int) + 1 = ((i + 1 : Nat) : Int) by omega, ref_sum_l0 S hS d k (i + 1) _ (by omega) (by omega) (by rw [List.length_set]; omega), List.drop_eq_getElem_cons hi]
    congr 2
    have e1 : (b.set (148 + i) S[i]).drop 156 = b.drop 156 := by
      rw [List.drop_set, if_pos (by omega)]
    have e2 : (b.set (148 + i) S[i]).take (148 + (i + 1)) = b.take (148 + i) ++ [S[i]] := by
      rw [show 148 + (i + 1) = 148 + i + 1 by omega, List.take_succ_eq_append_getElem (by rw [List.length_set]; omega), List.getElem_set_self, List.take_set_of_le (by omega)]
    rw [e1, e2, List.append_assoc]; rfl
theorem ref_fields {s p q : ByteArray} (h : SplitOk s p q) (n k : Nat) (hn : n ≤ 4194304) (hk : 1000 ≤ k) :
    bindleref07_Put.j0 (k + 1) (n : Int) p q false = some (hdr (bytesOf q) (bytesOf p) n, 0) := by
  have hq := txtF_length 100 (bytesOf q) h.ql
  have hp := txtF_length 155 (bytesOf p) h.pl
  have h11 : n < 8 ^ 11 := by rw [pow11]; omega
  simp only [bindleref07_Put.j0]
  rw [if_neg (by decide)]
  refine (congrArg (Option.bind · _) (ref_text (w := 100) (l := []) h.qz h.ql (by decide) (by decide) (by decide))).trans ?_
  simp only [Option.bind_some]
  refine (congrArg (Option.bind · _) (ref_num (m := 7) (n := 420) (by decide) (by decide) (by decide) (by omega) (by simp only [List.length_append, List.length_nil, hq, numF_length, List.length_replicate] <;> omega))).trans ?_
  simp only [Option.bind_some]
  refine (congrArg (Option.bind · _) (ref_num (m := 7) (n := 0) (by decide) (by decide) (by decide) (by omega) (by simp only [List.length_append, List.length_nil, hq, numF_length, List.length_replicate] <;> omega))).trans ?_
  simp only [Option.bind_some]
  refine (congrArg (Option.bind · _) (ref_num (m := 7) (n := 0) (by decide) (by decide) (by decide) (by omega) (by simp only [List.length_append, List.length_nil, hq, numF_length, List.length_replicate] <;> omega))).trans ?_
  simp only [Option.bind_some]
  refine (congrArg (Option.bind · _) (ref_num (m := 11) (n := n) (by decide) (by decide) h11 (by omega) (by simp only [List.length_append, List.length_nil, hq, numF_length, List.length_replicate] <;> omega))).trans ?_
  simp only [Option.bind_some]
  refine (congrArg (Option.bind · _) (ref_num (m := 11) (n := 0) (by decide) (by decide) (by decide) (by omega) (by simp only [List.length_append, List.length_nil, hq, numF_length, List.length_replicate] <;> omega))).trans ?_
  simp only [Option.bind_some]
  refine (congrArg (Option.bind · _) (ref_text (w := 8) (by decide) (by decide) (by decide) (by decide) (by simp only [List.length_append, List.length_nil, hq, numF_length, List.length_replicate] <;> omega))).trans ?_
  simp only [Option.bind_some]
  rw [show txtF 8 (bytesOf ⟨#[32, 32, 32, 32, 32, 32, 32, 32]⟩) = List.replicate 8 32 from rfl]
  refine (congrArg (Option.bind · _) (ref_text (w := 1) (by decide) (by decide) (by decide) (by decide) (by simp only [List.length_append, List.length_nil, hq, numF_length, List.length_replicate] <;> omega))).trans ?_
  simp only [Option.bind_some]
  rw [show txtF 1 (bytesOf ⟨#[48]⟩) = [48] from rfl]
  refine (congrArg (Option.bind · _) (ref_text_nil (w := 100) (by decide) (by decide) (by simp only [List.length_append, List.length_nil, List.length_cons, hq, numF_length, List.length_replicate] <;> omega))).trans ?_
  simp only [Option.bind_some]
  refine (congrArg (Option.bind · _) (ref_text (w := 6) (by decide) (by decide) (by decide) (by decide) (by simp only [List.length_append, List.length_nil, List.length_cons, hq, numF_length, List.length_replicate] <;> omega))).trans ?_
  simp only [Option.bind_some]
  rw [show txtF 6 (bytesOf ⟨#[117, 115, 116, 97, 114]⟩) = [117, 115, 116, 97, 114, 0] from rfl]
  refine (congrArg (Option.bind · _) (ref_text (w := 2) (by decide) (by decide) (by decide) (by decide) (by simp only [List.length_append, List.length_nil, List.length_cons, hq, numF_length, List.length_replicate] <;> omega))).trans ?_
  simp only [Option.bind_some]
  rw [show txtF 2 (bytesOf ⟨#[48, 48]⟩) = [48, 48] from rfl]
  refine (congrArg (Option.bind · _) (ref_text_nil (w := 32) (by decide) (by decide) (by simp only [List.length_append, List.length_nil, List.length_cons, hq, numF_length, List.length_replicate] <;> omega))).trans ?_
  simp only [Option.bind_some]
  refine (congrArg (Option.bind · _) (ref_text_nil (w := 32) (by decide) (by decide) (by simp only [List.length_append, List.length_nil, List.length_cons, hq, numF_length, List.length_replicate] <;> omega))).trans ?_
  simp only [Option.bind_some]
  refine (congrArg (Option.bind · _) (ref_num (m := 7) (n := 0) (by decide) (by decide) (by decide) (by omega) (by simp only [List.length_append, List.length_nil, List.length_cons, hq, numF_length, List.length_replicate] <;> omega))).trans ?_
  simp only [Option.bind_some]
  refine (congrArg (Option.bind · _) (ref_num (m := 7) (n := 0) (by decide) (by decide) (by decide) (by omega) (by simp only [List.length_append, List.length_nil, List.length_cons, hq, numF_length, List.length_replicate] <;> omega))).trans ?_
  simp only [Option.bind_some]
  refine (congrArg (Option.bind · _) (ref_text (w := 155) h.pz h.pl (by decide) (by decide) (by simp only [List.length_append, List.length_nil, List.length_cons, hq, numF_length, List.length_replicate] <;> omega))).trans ?_
  simp only [Option.bind_some]
  refine (congrArg (Option.bind · _) (ref_text_nil (w := 12) (by decide) (by decide) (by simp only [List.length_append, List.length_nil, List.length_cons, hq, hp, numF_length, List.length_replicate] <;> omega))).trans ?_
  simp only [Option.bind_some]
  have lp := preF_length (bytesOf q) n h.ql
  have lq := postF_length (bytesOf p) h.pl
  have lb : (preF (bytesOf q) n ++ (List.replicate 8 32 ++ postF (bytesOf p))).length = 512 := by simp only [List.length_append, lp, lq, List.length_replicate]
  generalize eb : (((((((((((((((((([] ++ txtF 100 (bytesOf q)) ++ numF 7 420) ++ numF 7 0) ++ numF 7 0) ++ numF 11 n) ++ numF 11 0) ++ List.replicate 8 32) ++ [48]) ++ List.replicate 100 0) ++ [117, 115, 116, 97, 114, 0]) ++ [48, 48]) ++ List.replicate 32 0) ++ List.replicate 32 0) ++ numF 7 0) ++ numF 7 0) ++ txtF 155 (bytesOf p)) ++ List.replicate 12 0) : List Int) = b
  have hb : b = preF (bytesOf q) n ++ (List.replicate 8 32 ++ postF (bytesOf p)) := by
    rw [← eb]
    simp only [preF, postF, List.nil_append, List.append_assoc]
  clear eb
  subst hb
  have B8 : Bts (List.replicate 8 32) := fun x hx => by obtain rfl := (List.mem_replicate.1 hx).2; decide
  rw [ref05_Check_eq (Bts_mid q p n _ B8) (by omega) (by omega), ck_three _ _ _ lp (List.length_replicate ..), ← ckF_eq _ _ _ (Bts_of q) (Bts_of p)]
  simp only [Option.bind_some]
  refine (congrArg (Option.bind · _) (ref_num (m := 6) (l := []) (by decide) (by decide) (ckF_lt _ _ _ (Bts_of q) (Bts_of p) h.ql h.pl) (by omega) (by decide))).trans ?_
  simp only [Option.bind_some, List.nil_append]
  rw [numF_length, if_pos (by decide)]
  have := ref_sum_l0 (numF 6 (ckF (bytesOf q) (bytesOf p) n) ++ [32]) (by rw [List.length_append, numF_length]; rfl) 8 k 0 _ (by omega) (by omega) (by rw [lb]; decide)
  rw [show ((0 : Nat) : Int) = 0 from rfl] at this
  rw [this, List.drop_zero, app_take' (by omega)]
  have e2 : (preF (bytesOf q) n ++ (List.replicate 8 32 ++ postF (bytesOf p))).drop 156 = postF (bytesOf p) := by
    rw [← List.append_assoc, List.drop_left' (by simp only [List.length_append, lp, List.length_replicate])]
  rw [e2]
  unfold hdr numF
  simp only [List.append_assoc, List.cons_append, List.nil_append]
theorem ref07_Put_eq {s : ByteArray} {n : Int} {k : Nat} (hs : s.size ≤ 140737488351232) (hk : 3 * s.size + 2000 < k) : bindleref07_Put.f k s n = some (hput s n) := by
  obtain ⟨k, rfl⟩ : ∃ j, k = j + 1 := ⟨k - 1, by omega⟩
  unfold bindleref07_Put.f hput
  rw [ref_Split_eq hs (by omega)]
  simp only [Option.bind_some]
  by_cases h0 : (splitS s).2.2 = 0
  · rw [if_pos h0, if_pos h0]
    have hS : SplitOk s (splitS s).1 (splitS s).2.1 := splitS_ok (by rw [← h0])
    by_cases h1 : n < 0
    · rw [if_pos h1, if_pos (.inl h1)]
      simp only [bindleref07_Put.j0]
      rw [if_pos trivial]
    · rw [if_neg h1]
      by_cases h2 : 4194304 < n
      · rw [if_pos (.inr h2), decide_eq_true (show n > 4194304 from h2)]
        simp only [bindleref07_Put.j0]
        rw [if_pos trivial]
      · rw [if_neg (by omega), decide_eq_false (show ¬ n > 4194304 from h2)]
        obtain ⟨j, rfl⟩ : ∃ j : Nat, n = j := ⟨n.toNat, by omega⟩
        rw [ref_fields hS j k (by omega) (by omega), Int.toNat_natCast]
  · rw [if_neg h0, if_neg h0]
theorem Name_l1_any (l : List Int) (hl : l.length ≤ 1000000) (n : Nat) (hn : n ≤ l.length) : ∀ (d k i : Nat), i + d = l.length → d < k → ∃ s e, bindleref05_Name.l1 k l (n : Int) (i : Int) = some (s, e) ∧ s.size ≤ l.length
  | 0, k, i, h, hk => by
    obtain ⟨k, rfl⟩ : ∃ j, k = j + 1 := ⟨k - 1, by omega⟩
    simp only [bindleref05_Name.l1]
    rw [if_neg (by omega), if_pos (by omega), if_pos (by omega)]
    exact ⟨_, _, rfl, by rw [strOfNums_size, List.length_take]; omega⟩
  | d + 1, k, i, h, hk => by
    obtain ⟨k, rfl⟩ : ∃ j, k = j + 1 := ⟨k - 1, by omega⟩
    simp only [bindleref05_Name.l1]
    rw [if_pos (by omega), if_pos (by omega)]
    split
    · rw [w64b (by omega) (by omega), show (i : Int) + 1 = ((i + 1 : Nat) : Int) by omega]
      exact Name_l1_any l hl n hn d k (i + 1) (by omega) (by omega)
    · exact ⟨_, _, rfl, Nat.zero_le _⟩
theorem Name_l0_any (l : List Int) (hl : l.length ≤ 1000000) : ∀ (d k i : Nat), i + d = l.length → d + l.length + 4 < k → ∃ s e, bindleref05_Name.l0 k l (i : Int) = some (s, e) ∧ s.size ≤ l.length
  | 0, k, i, h, hk => by
    obtain ⟨k, rfl⟩ : ∃ j, k = j + 2 := ⟨k - 2, by omega⟩
    simp only [bindleref05_Name.l0]
    rw [if_neg (by omega)]
    simp only [bindleref05_Name.j1]
    exact Name_l1_any l hl i (by omega) 0 k i (by omega) (by omega)
  | d + 1, k, i, h, hk => by
    obtain ⟨k, rfl⟩ : ∃ j, k = j + 2 := ⟨k - 2, by omega⟩
    simp only [bindleref05_Name.l0]
    rw [if_pos (by omega), if_pos (by omega)]
    split
    · simp only [bindleref05_Name.j1]
      exact Name_l1_any l hl i (by omega) (d + 1) k i (by omega) (by omega)
    · rw [w64b (by omega) (by omega), show (i : Int) + 1 = ((i + 1 : Nat) : Int) by omega]
      exact Name_l0_any l hl d (k + 1) (i + 1) (by omega) (by omega)
theorem ref_Name_any {l : List Int} {k : Nat} (hl : l.length ≤ 1000) (hk : 3000 < k) : ∃ s e, bindleref05_Name.f k l = some (s, e) ∧ s.size ≤ l.length :=
  Name_l0_any l (by omega) l.length k 0 (by omega) (by omega)
theorem Name_l1_zero (l : List Int) (hl : l.length ≤ 1000000) (n : Nat) (hn : n ≤ l.length) (hz : ∀ (i : Nat) (h : i < l.length), n ≤ i → l[i] = 0) : ∀ (d k i : Nat), i + d = l.length → n ≤ i → d < k → bindleref05_Name.l1 k l (n : Int) (i : Int) = some (strOfNums (l.take n), 0)
  | 0, k, i, h, _, hk => by
    obtain ⟨k, rfl⟩ : ∃ j, k = j + 1 := ⟨k - 1, by omega⟩
    simp only [bindleref05_Name.l1]
    rw [if_neg (by omega), if_pos (by omega), if_pos (by omega), Int.toNat_natCast]
  | d + 1, k, i, h, hi, hk => by
    obtain ⟨k, rfl⟩ : ∃ j, k = j + 1 := ⟨k - 1, by omega⟩
    have hlt : i < l.length := by omega
    simp only [bindleref05_Name.l1]
    rw [if_pos (by omega), if_pos (by omega), rd_at hlt, if_pos (hz i hlt hi), w64b (by omega) (by omega), show (i : Int) + 1 = ((i + 1 : Nat) : Int) by omega]
    exact Name_l1_zero l hl n hn hz d k (i + 1) (by omega) (by omega) (by omega)
theorem Name_l0_txt (l : List Int) (hl : l.length ≤ 1000000) (n : Nat) (hn : n ≤ l.length) (hz : ∀ (i : Nat) (h : i < l.length), n ≤ i → l[i] = 0) (hnz : ∀ (i : Nat) (h : i < l.length), i < n → l[i] ≠ 0) :
    ∀ (d k i : Nat), i + d = n → d + l.length + 4 < k → bindleref05_Name.l0 k l (i : Int) = some (strOfNums (l.take n), 0)
  | 0, k, i, h, hk => by
    obtain ⟨k, rfl⟩ : ∃ j, k = j + 2 := ⟨k - 2, by omega⟩
    obtain rfl : i = n := by omega
    simp only [bindleref05_Name.l0]
    by_cases hlt : i < l.length
    · rw [if_pos (by omega), if_pos (by omega), rd_at hlt, if_pos (hz i hlt (Nat.le_refl _))]
      simp only [bindleref05_Name.j1]
      exact Name_l1_zero l hl i hn hz (l.length - i) k i (by omega) (Nat.le_refl _) (by omega)
    · rw [if_neg (by omega)]
      simp only [bindleref05_Name.j1]
      exact Name_l1_zero l hl i hn hz (l.length - i) k i (by omega) (Nat.le_refl _) (by omega)
  | d + 1, k, i, h, hk => by
    obtain ⟨k, rfl⟩ : ∃ j, k = j + 1 := ⟨k - 1, by omega⟩
    have hlt : i < l.length := by omega
    simp only [bindleref05_Name.l0]
    rw [if_pos (by omega), if_pos (by omega), rd_at hlt, if_neg (hnz i hlt (by omega)), w64b (by omega) (by omega), show (i : Int) + 1 = ((i + 1 : Nat) : Int) by omega]
    exact Name_l0_txt l hl n hn hz hnz d k (i + 1) (by omega) (by omega)
theorem ref_Name_txt {w k : Nat} {s : ByteArray} (h : (0 : Int) ∉ bytesOf s) (hl : (bytesOf s).length ≤ w) (hw : w ≤ 1000) (hk : 3000 < k) : bindleref05_Name.f k (txtF w (bytesOf s)) = some (s, 0) := by
  have e : bindleref05_Name.f k (txtF w (bytesOf s)) = some (strOfNums ((txtF w (bytesOf s)).take (bytesOf s).length), 0) := by
    refine Name_l0_txt _ ?_ _ ?_ ?_ ?_ (bytesOf s).length k 0 ?_ ?_
    · rw [txtF_length _ _ hl]; omega
    · rw [txtF_length _ _ hl]; omega
    · intro i hi h1
      have e0 : (txtF w (bytesOf s))[i]? = (List.replicate (w - (bytesOf s).length) (0 : Int))[i - (bytesOf s).length]? := by unfold txtF; rw [List.getElem?_append_right h1]
      rw [List.getElem?_eq_getElem hi, List.getElem?_replicate] at e0
      split at e0
      · exact Option.some.inj e0
      · cases e0
    · intro i hi h1 h0
      have e0 : (txtF w (bytesOf s))[i]? = (bytesOf s)[i]? := by unfold txtF; rw [List.getElem?_append_left h1]
      rw [List.getElem?_eq_getElem hi, List.getElem?_eq_getElem h1, h0] at e0
      exact h (by rw [Option.some.inj e0]; exact List.getElem_mem h1)
    · omega
    · rw [txtF_length _ _ hl]; omega
  rw [e]
  unfold txtF
  rw [app_take' rfl, str_bytes]
theorem ref05_Put_l0_any : ∀ (d k : Nat) (n w : Int) (j : Nat) (T : List Int), (w = ((j + d : Nat) : Int)) → d < k → j + d ≤ 100 → T.length + d ≤ 1000 → ∃ r, bindleref05_Put.l0 k n w T (j : Int) = some r
  | 0, k, n, w, j, T, hw, hk, _, _ => by
    obtain ⟨k, rfl⟩ : ∃ j, k = j + 1 := ⟨k - 1, by omega⟩
    simp only [bindleref05_Put.l0]
    rw [if_neg (by omega)]
    split <;> exact ⟨_, rfl⟩
  | d + 1, k, n, w, j, T, hw, hk, hj, hT => by
    obtain ⟨k, rfl⟩ : ∃ j, k = j + 1 := ⟨k - 1, by omega⟩
    simp only [bindleref05_Put.l0, Option.bind_some]
    rw [if_pos (by omega), if_pos (by simp only [List.length_singleton]; omega), w64b (n := (j : Int) + 1) (by omega) (by omega), show (j : Int) + 1 = ((j + 1 : Nat) : Int) by omega]
    exact ref05_Put_l0_any d k _ w (j + 1) _ (by omega) (by omega) (by omega) (by simp only [List.length_append, List.length_singleton]; omega)
theorem ref05_Put_any {k : Nat} (n : Int) (hk : 20 < k) : ∃ r, bindleref05_Put.f k n ((12 : Nat) : Int) = some r := by
  obtain ⟨k, rfl⟩ : ∃ j, k = j + 1 := ⟨k - 1, by omega⟩
  unfold bindleref05_Put.f
  rw [if_neg (by decide), show decide (((12 : Nat) : Int) > 12) = false from rfl]
  simp only [bindleref05_Put.j0]
  rw [if_neg (by decide)]
  split
  · exact ⟨_, rfl⟩
  · exact ref05_Put_l0_any 11 k n _ 1 [0] (by omega) (by omega) (by omega) (by decide)
theorem ref_Get_l0_any (l : List Int) (hl : l.length = 12) : ∀ (d k i : Nat) (acc : Int), i + d = 11 → d + 30 < k → ∃ r, bindleref05_Get.l0 k l acc (i : Int) = some r
  | 0, k, i, acc, h, hk => by
    obtain ⟨k, rfl⟩ : ∃ j, k = j + 1 := ⟨k - 1, by omega⟩
    simp only [bindleref05_Get.l0]
    rw [w64b (n := (i : Int) + 1) (by omega) (by omega), if_neg (by omega), hl]
    obtain ⟨r, hr⟩ := ref05_Put_any (k := k) acc (by omega)
    rw [hr]
    simp only [Option.bind_some]
    split
    · split <;> exact ⟨_, rfl⟩
    · exact ⟨_, rfl⟩
  | d + 1, k, i, acc, h, hk => by
    obtain ⟨k, rfl⟩ : ∃ j, k = j + 1 := ⟨k - 1, by omega⟩
    simp only [bindleref05_Get.l0]
    rw [w64b (n := (i : Int) + 1) (by omega) (by omega), if_pos (by omega), if_pos (by omega), if_pos (by omega), if_pos (by omega), show (i : Int) + 1 = ((i + 1 : Nat) : Int) by omega]
    exact ref_Get_l0_any l hl d k (i + 1) _ (by omega) (by omega)
theorem ref_Get_any {l : List Int} {k : Nat} (hl : l.length = 12) (hk : 100 < k) : ∃ r, bindleref05_Get.f k l = some r :=
  ref_Get_l0_any l hl 11 k 0 0 (by omega) (by omega)
theorem ref_Get_l0 (n : Nat) (hn : n < 8 ^ 11) : ∀ (d k i : Nat), i + d = 11 → d + 30 < k → bindleref05_Get.l0 k (numF 11 n) (oval ((digs 11 n).take i)) (i : Int) = some ((n : Int), 0)
  | 0, k, i, h, hk => by
    obtain ⟨k, rfl⟩ : ∃ j, k = j + 1 := ⟨k - 1, by omega⟩
    have hd := digs_length 11 n
    simp only [bindleref05_Get.l0]
    rw [numF_length, w64b (n := (i : Int) + 1) (by omega) (by omega), if_neg (by omega), List.take_of_length_le (by omega), oval_digs 11 n hn, ref05_Put_eq (by decide) (by decide) hn (by omega)]
    simp only [Option.bind_some]
    rw [if_pos trivial, if_pos trivial]
  | d + 1, k, i, h, hk => by
    obtain ⟨k, rfl⟩ : ∃ j, k = j + 1 := ⟨k - 1, by omega⟩
    have hd := digs_length 11 n
    have hi : i < (digs 11 n).length := by omega
    have hb := digs_range 11 n _ (List.getElem_mem hi)
    have ho := oval_bd i ((digs 11 n).take i) (by rw [List.length_take]; omega) (fun y hy => digs_range 11 n y (List.mem_of_mem_take hy))
    have hp : 8 ^ i ≤ 8589934592 := by rw [← pow11]; exact Nat.pow_le_pow_right (by decide) (by omega)
    have hr : rd (numF 11 n) (i : Int) = (digs 11 n)[i] := by
      rw [rd_at (by rw [numF_length]; omega)]
      unfold numF
      rw [List.getElem_append_left hi]
    simp only [bindleref05_Get.l0]
    rw [numF_length, hr, w64b (n := (i : Int) + 1) (by omega) (by omega), if_pos (by omega), if_pos (by omega), if_pos (by omega), if_pos (by omega), Int.tmod_eq_emod_of_nonneg (by omega), w64b (n := 8 * oval _) (by omega) (by omega), w64b (n := (digs 11 n)[i] % 8) (by omega) (by omega), w64b (by omega) (by omega)]
    have e : 8 * oval ((digs 11 n).take i) + (digs 11 n)[i] % 8 = oval ((digs 11 n).take (i + 1)) := by
      rw [List.take_succ_eq_append_getElem hi, oval_snoc]; omega
    rw [e, show (i : Int) + 1 = ((i + 1 : Nat) : Int) by omega]
    exact ref_Get_l0 n hn d k (i + 1) (by omega) (by omega)
theorem ref_Get_eq {n k : Nat} (hn : n < 8 ^ 11) (hk : 100 < k) : bindleref05_Get.f k (numF 11 n) = some ((n : Int), 0) := by
  have := ref_Get_l0 n hn 11 k 0 (by omega) (by omega)
  rw [List.take_zero] at this
  exact this
theorem ref_Join_eq {s p q : ByteArray} {k : Nat} (h : splitS s = (p, q, 0)) (hs : SplitOk s p q) (hk : 3000 < k) : bindleref06_Join.f k p q = some (s, 0) := by
  have hpl := hs.pl
  have hql := hs.ql
  rw [bytes_len] at hpl hql
  unfold bindleref06_Join.f
  by_cases hp : p.data.toList = []
  · have e : s = q := by
      have := hs.join
      unfold joinL at this
      rw [if_pos hp] at this
      exact ba_ext this.symm
    subst e
    rw [if_pos (by rw [ByteArray.toList_eq]; exact hp), ref_Split_eq (by omega) (by omega), h]
    simp only [Option.bind_some]
    rw [if_pos trivial, if_pos trivial, if_pos trivial]
  · have hz : s.size ≤ 256 := by
      rw [← join_data hs.join hp, ByteArray.size_append, ByteArray.size_append, one_size]; omega
    rw [if_neg (by rw [ByteArray.toList_eq]; exact hp), if_pos (by omega), if_pos (by rw [ByteArray.size_append, one_size]; omega), join_data hs.join hp, ref_Split_eq (by omega) (by omega), h]
    simp only [Option.bind_some]
    rw [if_pos trivial, if_pos trivial, if_pos trivial]
theorem ref_Join_any {p q : ByteArray} {k : Nat} (hp : p.size ≤ 1000) (hq : q.size ≤ 1000) (hk : 10000 < k) : ∃ s e, bindleref06_Join.f k p q = some (s, e) ∧ s.size ≤ 3000 := by
  unfold bindleref06_Join.f
  have hz : ((p ++ (⟨#[47]⟩ : ByteArray)) ++ q).size = p.size + 1 + q.size := by rw [ByteArray.size_append, ByteArray.size_append]; rfl
  have h0 : (⟨#[]⟩ : ByteArray).size = 0 := rfl
  split
  · rw [ref_Split_eq (s := q) (by omega) (by omega)]
    simp only [Option.bind_some]
    split
    · split
      · split
        · exact ⟨_, _, rfl, by omega⟩
        · exact ⟨_, _, rfl, by omega⟩
      · exact ⟨_, _, rfl, by omega⟩
    · exact ⟨_, _, rfl, by omega⟩
  · rw [if_pos (by omega), if_pos (by rw [ByteArray.size_append, one_size]; omega), ref_Split_eq (by omega) (by omega)]
    simp only [Option.bind_some]
    split
    · split
      · split
        · exact ⟨_, _, rfl, by omega⟩
        · exact ⟨_, _, rfl, by omega⟩
      · exact ⟨_, _, rfl, by omega⟩
    · exact ⟨_, _, rfl, by omega⟩
theorem ref07_Get_eq {b : List Int} {k : Nat} (hB : Bts b) (hl : b.length ≤ 140737488351232) (hk : 20000 < k) : bindleref07_Get.f k b = some (hget b) := by
  unfold bindleref07_Get.f
  by_cases h512 : b.length < 512
  · rw [if_pos (by omega), hget_short h512]
  rw [if_neg (by omega), if_pos (by omega)]
  have B1 := hB.take 100
  have B2 := (hB.take 500).drop 345
  have l1 : (b.take 100).length = 100 := by rw [List.length_take]; omega
  have l2 : ((b.take 500).drop 345).length = 155 := by rw [List.length_drop, List.length_take]; omega
  have l3 : ((b.take 136).drop 124).length = 12 := by rw [List.length_drop, List.length_take]; omega
  by_cases hx : ∃ s n, hput s n = (b, 0)
  · obtain ⟨s, n, hx⟩ := hx
    rw [hget_ok hx]
    obtain ⟨p, q, ho⟩ := hput_ok hx
    have hsz : s.size ≤ 1000 := by
      have hp := ho.sp.pl
      have hq := ho.sp.ql
      have hj := congrArg List.length ho.sp.join
      rw [bytes_len, size_len] at hp hq
      rw [size_len, ← hj]
      unfold joinL
      split
      · omega
      · rw [List.length_append, List.length_cons]; omega
    rw [ho.name, ref_Name_txt ho.sp.qz ho.sp.ql (by decide) (by omega)]
    simp only [Option.bind_some]
    rw [if_pos (by decide), if_pos (by omega), ho.pre, ref_Name_txt ho.sp.pz ho.sp.pl (by decide) (by omega)]
    simp only [Option.bind_some]
    rw [if_pos (by decide), if_pos (by omega), ho.size, ref_Get_eq ho.lt (by omega), ref_Join_eq ho.split ho.sp (by omega)]
    simp only [Option.bind_some]
    have hn : ((n.toNat : Nat) : Int) = n := by have := ho.n0; omega
    rw [if_pos trivial, hn, ref07_Put_eq (by omega) (by omega), hx]
    simp only [Option.bind_some]
    rw [if_pos trivial, if_pos trivial]
  · obtain ⟨nm, e1, h1, z1⟩ := ref_Name_any (l := b.take 100) (k := k) (by omega) (by omega)
    obtain ⟨pr, e2, h2, z2⟩ := ref_Name_any (l := (b.take 500).drop 345) (k := k) (by omega) (by omega)
    obtain ⟨⟨n, e3⟩, h3⟩ := ref_Get_any (k := k) l3 (by omega)
    obtain ⟨s, e4, h4, z4⟩ := ref_Join_any (k := k) (p := pr) (q := nm) (by omega) (by omega) (by omega)
    rw [hget_form (by omega) (fun ⟨t, ht⟩ => hx ⟨t.1, t.2, ht⟩), h1]
    simp only [Option.bind_some]
    rw [if_pos (by decide), if_pos (by omega), h2]
    simp only [Option.bind_some]
    rw [if_pos (by decide), if_pos (by omega), h3]
    simp only [Option.bind_some]
    rw [h4]
    simp only [Option.bind_some]
    split
    · rw [ref07_Put_eq (by omega) (by omega)]
      simp only [Option.bind_some]
      split
      · rename_i hz
        rw [if_neg]
        intro he
        exact hx ⟨s, n, by rw [← (str_eq (hput_bts s n) hB).1 he, ← hz]⟩
      · rfl
    · rfl
end Go.Proofs.YtkcmkgkkddgicaaDoor.R
