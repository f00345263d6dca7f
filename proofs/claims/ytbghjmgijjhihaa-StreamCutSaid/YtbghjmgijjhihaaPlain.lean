/-
  The plain law of layer 6: what is unpacked, one text behind the other, out of bytes; no program in sight.
-/
import Derived.Below
namespace Go.Proofs.Ytbghjmgijjhihaa

/-- The first text of some bytes, how many bytes it takes, and the error: 0 none, 2 no bytes are said, 3 too few. -/
def unpackL : List UInt8 → List UInt8 × Nat × Int
  | b0 :: b1 :: r => if 256 * b0.toNat + b1.toNat = 0 then ([], 0, 2) else if r.length < 256 * b0.toNat + b1.toNat then ([], 0, 3) else (r.take (256 * b0.toNat + b1.toNat), 256 * b0.toNat + b1.toNat + 2, 0)
  | _ => ([], 0, 3)

/-- All texts that are whole, and what is left (none, if the stream is wrong). -/
def drain : Nat → List UInt8 → List (List UInt8) × Option (List UInt8)
  | 0, x => ([], some x)
  | f + 1, x => if (unpackL x).2.2 = 3 then ([], some x) else if (unpackL x).2.2 = 2 then ([], none) else
      ((unpackL x).1 :: (drain f (x.drop (unpackL x).2.1)).1, (drain f (x.drop (unpackL x).2.1)).2)

theorem unpackL_cases (x : List UInt8) : ((unpackL x).2.2 = 3 ∧ (unpackL x).1 = [] ∧ (unpackL x).2.1 = 0) ∨ ((unpackL x).2.2 = 2 ∧ (unpackL x).1 = [] ∧ (unpackL x).2.1 = 0) ∨
    ((unpackL x).2.2 = 0 ∧ 3 ≤ (unpackL x).2.1 ∧ (unpackL x).2.1 ≤ x.length ∧ (unpackL x).2.1 ≤ 65537 ∧ (unpackL x).1 = (x.drop 2).take ((unpackL x).2.1 - 2)) := by
  match x with
  | [] => exact .inl ⟨rfl, rfl, rfl⟩
  | [_] => exact .inl ⟨rfl, rfl, rfl⟩
  | b0 :: b1 :: r =>
    have h0 := b0.toNat_lt
    have h1 := b1.toNat_lt
    simp only [unpackL]
    by_cases c1 : 256 * b0.toNat + b1.toNat = 0
    · rw [if_pos c1]; exact .inr (.inl ⟨rfl, rfl, rfl⟩)
    · rw [if_neg c1]
      by_cases c2 : r.length < 256 * b0.toNat + b1.toNat
      · rw [if_pos c2]; exact .inl ⟨rfl, rfl, rfl⟩
      · rw [if_neg c2]
        refine .inr (.inr ⟨rfl, by show 3 ≤ _ + 2; omega, ?_, ?_, ?_⟩)
        · simp only [List.length_cons]; omega
        · show _ + 2 ≤ 65537; omega
        · simp

theorem drain_cut (f : Nat) (x : List UInt8) (h : (unpackL x).2.2 = 3) : drain (f + 1) x = ([], some x) := by
  simp only [drain]; rw [if_pos h]
theorem drain_form (f : Nat) (x : List UInt8) (h : (unpackL x).2.2 = 2) : drain (f + 1) x = ([], none) := by
  simp only [drain]; rw [if_neg (by omega), if_pos h]
theorem drain_more (f : Nat) (x : List UInt8) (h : (unpackL x).2.2 = 0) :
    drain (f + 1) x = ((unpackL x).1 :: (drain f (x.drop (unpackL x).2.1)).1, (drain f (x.drop (unpackL x).2.1)).2) := by
  simp only [drain]; rw [if_neg (by omega), if_neg (by omega)]

/-- What a reader does with bytes: the texts, the error, what waits, whether it failed. -/
def feedL (R : List UInt8) (failed : Bool) (s : List UInt8) : List (List UInt8) × Int × List UInt8 × Bool :=
  if failed = true then ([], 2, R, true) else if 200000 < R.length + s.length then ([], 4, R, false) else
    match (drain (R.length + s.length + 1) (R ++ s)).2 with
    | some r => ((drain (R.length + s.length + 1) (R ++ s)).1, 0, r, false)
    | none => ([], 2, [], true)

theorem feedL_failed (R s : List UInt8) : feedL R true s = ([], 2, R, true) := if_pos rfl
theorem feedL_full (R s : List UInt8) (h : 200000 < R.length + s.length) : feedL R false s = ([], 4, R, false) := by
  unfold feedL; rw [if_neg (by simp), if_pos h]
theorem feedL_some (R s r : List UInt8) (L : List (List UInt8)) (h : ¬ 200000 < R.length + s.length) (hd : drain (R.length + s.length + 1) (R ++ s) = (L, some r)) : feedL R false s = (L, 0, r, false) := by
  unfold feedL; rw [if_neg (by simp), if_neg h, hd]
theorem feedL_none (R s : List UInt8) (L : List (List UInt8)) (h : ¬ 200000 < R.length + s.length) (hd : drain (R.length + s.length + 1) (R ++ s) = (L, none)) : feedL R false s = ([], 2, [], true) := by
  unfold feedL; rw [if_neg (by simp), if_neg h, hd]

/-! ### More fuel than bytes is no matter; a stream that is cut -/
theorem drain_fuel : ∀ (f g : Nat) (x : List UInt8), x.length < f → x.length < g → drain f x = drain g x := by
  intro f
  induction f with
  | zero => intro g x h; omega
  | succ f ih =>
    intro g x hf hg
    obtain ⟨g, rfl⟩ : ∃ k, g = k + 1 := ⟨g - 1, by omega⟩
    rcases unpackL_cases x with ⟨h, _⟩ | ⟨h, _⟩ | ⟨h, h3, hl, _⟩
    · rw [drain_cut f x h, drain_cut g x h]
    · rw [drain_form f x h, drain_form g x h]
    · rw [drain_more f x h, drain_more g x h, ih g (x.drop (unpackL x).2.1) (by rw [List.length_drop]; omega) (by rw [List.length_drop]; omega)]

theorem unpackL_more (x y : List UInt8) (h : (unpackL x).2.2 = 0) : unpackL (x ++ y) = unpackL x := by
  match x, h with
  | [], h => simp [unpackL] at h
  | [_], h => simp [unpackL] at h
  | b0 :: b1 :: r, h =>
    simp only [List.cons_append, unpackL] at h ⊢
    by_cases c1 : 256 * b0.toNat + b1.toNat = 0
    · rw [if_pos c1] at h; simp at h
    · rw [if_neg c1] at h ⊢
      by_cases c2 : r.length < 256 * b0.toNat + b1.toNat
      · rw [if_pos c2] at h; simp at h
      · rw [if_neg c1, if_neg c2, if_neg (by rw [List.length_append]; omega), List.take_append_of_le_length (by omega)]
theorem unpackL_form (x y : List UInt8) (h : (unpackL x).2.2 = 2) : (unpackL (x ++ y)).2.2 = 2 := by
  match x, h with
  | [], h => simp [unpackL] at h
  | [_], h => simp [unpackL] at h
  | b0 :: b1 :: r, h =>
    simp only [List.cons_append, unpackL] at h ⊢
    by_cases c1 : 256 * b0.toNat + b1.toNat = 0
    · rw [if_pos c1]
    · rw [if_neg c1] at h
      by_cases c2 : r.length < 256 * b0.toNat + b1.toNat
      · rw [if_pos c2] at h; simp at h
      · rw [if_neg c2] at h; simp at h

/-- A stream fed in two parts: the first part's texts, then those of what was left and the second. -/
theorem drain_append : ∀ (f : Nat) (x y : List UInt8) (L : List (List UInt8)) (q : List UInt8), x.length < f → drain f x = (L, some q) → ∀ g, (x ++ y).length < g → ∀ k, (q ++ y).length < k →
    drain g (x ++ y) = (L ++ (drain k (q ++ y)).1, (drain k (q ++ y)).2) := by
  intro f
  induction f with
  | zero => intro x y L q h; omega
  | succ f ih =>
    intro x y L q hf hd g hg k hk
    obtain ⟨g, rfl⟩ : ∃ j, g = j + 1 := ⟨g - 1, by omega⟩
    rcases unpackL_cases x with ⟨h, _⟩ | ⟨h, _⟩ | ⟨h, h3, hl, _⟩
    · rw [drain_cut f x h] at hd
      injection hd with e1 e2
      injection e2 with e2
      subst e1 e2
      rw [drain_fuel (g + 1) k (x ++ y) hg hk]
      simp
    · rw [drain_form f x h] at hd
      injection hd with _ e2
      exact absurd e2 (by simp)
    · rw [drain_more f x h] at hd
      have hm := unpackL_more x y h
      rw [drain_more g (x ++ y) (by rw [hm]; exact h), hm, List.drop_append_of_le_length hl]
      obtain ⟨M, hM⟩ : ∃ M, drain f (x.drop (unpackL x).2.1) = M := ⟨_, rfl⟩
      obtain ⟨M1, M2⟩ := M
      rw [hM] at hd
      injection hd with e1 e2
      subst e1
      rw [List.length_append] at hg
      rw [ih (x.drop (unpackL x).2.1) y M1 q (by rw [List.length_drop]; omega) (by rw [hM]; exact congrArg _ e2) g (by rw [List.length_append, List.length_drop]; omega) k hk]
      simp

/-- A stream whose whole is not wrong has no wrong beginning. -/
theorem drain_prefix : ∀ (f : Nat) (x y : List UInt8), x.length < f → ∀ g, (x ++ y).length < g → (drain g (x ++ y)).2 ≠ none → (drain f x).2 ≠ none := by
  intro f
  induction f with
  | zero => intro x y h; omega
  | succ f ih =>
    intro x y hf g hg hd
    obtain ⟨g, rfl⟩ : ∃ j, g = j + 1 := ⟨g - 1, by omega⟩
    rcases unpackL_cases x with ⟨h, _⟩ | ⟨h, _⟩ | ⟨h, h3, hl, _⟩
    · rw [drain_cut f x h]; simp
    · rw [drain_form g (x ++ y) (unpackL_form x y h)] at hd
      exact absurd rfl hd
    · rw [drain_more f x h]
      have hm := unpackL_more x y h
      rw [drain_more g (x ++ y) (by rw [hm]; exact h), hm, List.drop_append_of_le_length hl] at hd
      rw [List.length_append] at hg
      exact ih (x.drop (unpackL x).2.1) y (by rw [List.length_drop]; omega) g (by rw [List.length_append, List.length_drop]; omega) hd

/-! ### What is packed -/
def packL (s : List UInt8) : List UInt8 := UInt8.ofNat (s.length / 256) :: UInt8.ofNat (s.length % 256) :: s
theorem unpack_pack (s y : List UInt8) (h1 : 1 ≤ s.length) (h2 : s.length ≤ 65535) : unpackL (packL s ++ y) = (s, s.length + 2, 0) := by
  have e0 : (UInt8.ofNat (s.length / 256)).toNat = s.length / 256 := by simp; omega
  have e1 : (UInt8.ofNat (s.length % 256)).toNat = s.length % 256 := by simp
  have e : 256 * (s.length / 256) + s.length % 256 = s.length := by omega
  simp only [packL, List.cons_append, unpackL, e0, e1, e]
  rw [if_neg (by omega), if_neg (by rw [List.length_append]; omega), List.take_append_of_le_length (by omega), List.take_length]

/-- All of some texts, packed. -/
def packs : List (List UInt8) → List UInt8
  | [] => []
  | s :: l => packL s ++ packs l
theorem packs_snoc (l : List (List UInt8)) (s : List UInt8) : packs (l ++ [s]) = packs l ++ packL s := by
  induction l with
  | nil => simp [packs]
  | cons a l ih => simp [packs, ih]
theorem packL_length (s : List UInt8) : (packL s).length = s.length + 2 := rfl
theorem drain_packs : ∀ (l : List (List UInt8)) (g : Nat), (∀ s ∈ l, 1 ≤ s.length ∧ s.length ≤ 65535) → (packs l).length < g → drain g (packs l) = (l, some []) := by
  intro l
  induction l with
  | nil =>
    intro g _ hg
    obtain ⟨g, rfl⟩ : ∃ j, g = j + 1 := ⟨g - 1, by simp [packs] at hg; omega⟩
    exact drain_cut g [] rfl
  | cons s l ih =>
    intro g hl hg
    obtain ⟨g, rfl⟩ : ∃ j, g = j + 1 := ⟨g - 1, by omega⟩
    obtain ⟨h1, h2⟩ := hl s (by simp)
    have hu := unpack_pack s (packs l) h1 h2
    have hlen : (packL s ++ packs l).length < g + 1 := hg
    rw [List.length_append, packL_length] at hlen
    show drain (g + 1) (packL s ++ packs l) = _
    have hdrop : (packL s ++ packs l).drop (s.length + 2) = packs l := by
      rw [← packL_length s, List.drop_left]
    rw [drain_more g _ (by rw [hu]), hu]
    show (s :: (drain g ((packL s ++ packs l).drop (s.length + 2))).1, (drain g ((packL s ++ packs l).drop (s.length + 2))).2) = _
    rw [hdrop, ih g (fun t ht => hl t (by simp [ht])) (by omega)]

end Go.Proofs.Ytbghjmgijjhihaa
