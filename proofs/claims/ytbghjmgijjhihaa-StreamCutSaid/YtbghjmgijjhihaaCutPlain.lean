/-
  The plain law of StreamCut: however packed texts are cut, feeding the pieces gives the texts, in their order; no program in sight.
-/
import Derived.Test.YtbghjmgijjhihaaPlain
namespace Go.Proofs.Ytbghjmgijjhihaa

/-- Of the bytes x all is told, and nothing is left: the texts are 'rest'. -/
def Left (x : List UInt8) (rest : List (List UInt8)) : Prop := ∃ F, x.length < F ∧ drain F x = (rest, some [])

theorem Left.start (l : List (List UInt8)) (h : ∀ s ∈ l, 1 ≤ s.length ∧ s.length ≤ 65535) : Left (packs l) l :=
  ⟨(packs l).length + 1, by omega, drain_packs l _ h (by omega)⟩

/-- What waits behind a feed is too short to be told. -/
theorem drain_stuck : ∀ (f : Nat) (x r : List UInt8), x.length < f → (drain f x).2 = some r → (unpackL r).2.2 = 3 ∧ r.length ≤ x.length := by
  intro f
  induction f with
  | zero => intro x r h; omega
  | succ f ih =>
    intro x r hf hd
    rcases unpackL_cases x with ⟨h, _⟩ | ⟨h, _⟩ | ⟨h, h3, hl, _⟩
    · rw [drain_cut f x h] at hd
      injection hd with hd
      subst hd
      exact ⟨h, Nat.le_refl _⟩
    · rw [drain_form f x h] at hd
      cases hd
    · rw [drain_more f x h] at hd
      obtain ⟨i1, i2⟩ := ih (x.drop (unpackL x).2.1) r (by rw [List.length_drop]; omega) hd
      rw [List.length_drop] at i2
      exact ⟨i1, by omega⟩

/-- One piece is fed. -/
theorem Left.feed {R c y : List UInt8} {rest : List (List UInt8)} (h : Left (R ++ (c ++ y)) rest) (hb : R.length + c.length ≤ 200000) :
    ∃ (L : List (List UInt8)) (R' : List UInt8) (rest' : List (List UInt8)), feedL R false c = (L, 0, R', false) ∧ (unpackL R').2.2 = 3 ∧ Left (R' ++ y) rest' ∧ rest = L ++ rest' ∧ R'.length ≤ R.length + c.length := by
  obtain ⟨F, hF, hd⟩ := h
  rw [← List.append_assoc] at hF hd
  have hne := drain_prefix (R.length + c.length + 1) (R ++ c) y (by rw [List.length_append]; omega) F hF (by rw [hd]; simp)
  obtain ⟨D, hD⟩ : ∃ D, drain (R.length + c.length + 1) (R ++ c) = D := ⟨_, rfl⟩
  obtain ⟨L, q⟩ := D
  rw [hD] at hne
  cases q with
  | none => exact absurd rfl hne
  | some r =>
    obtain ⟨st1, st2⟩ := drain_stuck (R.length + c.length + 1) (R ++ c) r (by rw [List.length_append]; omega) (by rw [hD])
    rw [List.length_append] at st2
    have ha := drain_append (R.length + c.length + 1) (R ++ c) y L r (by rw [List.length_append]; omega) hD F hF ((r ++ y).length + 1) (by omega)
    rw [hd] at ha
    injection ha with e1 e2
    refine ⟨L, r, (drain ((r ++ y).length + 1) (r ++ y)).1, feedL_some R c r L (by omega) hD, st1, ⟨(r ++ y).length + 1, by omega, ?_⟩, e1, st2⟩
    exact Prod.ext rfl e2.symm

/-- At the end nothing waits, and all is told. -/
theorem Left.done {R : List UInt8} {rest : List (List UInt8)} (h : Left R rest) (hs : (unpackL R).2.2 = 3) : R = [] ∧ rest = [] := by
  obtain ⟨F, hF, hd⟩ := h
  obtain ⟨F, rfl⟩ : ∃ k, F = k + 1 := ⟨F - 1, by omega⟩
  rw [drain_cut F R hs] at hd
  injection hd with e1 e2
  injection e2 with e2
  exact ⟨e2, e1.symm⟩

end Go.Proofs.Ytbghjmgijjhihaa
