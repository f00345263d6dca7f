/-
  The contract of the statements' own 'live' of layer 12, over the translation: true.
-/
import Derived.Test.YtfkippkfdepbkaaCheckP
namespace Go.Proofs.Ytfkippkfdepbkaa
open Go.RowKit

def twoT (i : Nat) : Int := if i = 0 then 0 else 10
def twoC (c : Int) (i : Nat) : Int := if i = 0 then 5 else c
theorem two_reads (w : World) (c : Int) : Rd (w.alloc (.cells #[.int .i64 0, .int .i64 5, .int .i64 10, .int .i64 c] 43)) (w.alloc (.cells #[.int .i64 0, .int .i64 5, .int .i64 10, .int .i64 c] 43)).heap.size (some ⟨w.heap.size, 0, none⟩) 2 twoT (twoC c) := by
  refine fun _ => ⟨_, 0, rfl, by simp, fun i hi => ?_⟩
  match i, hi with
  | 0, _ => exact ⟨by go_simp; rfl, by go_simp; rfl⟩
  | 1, _ => exact ⟨by go_simp; rfl, by go_simp; rfl⟩
theorem two_times (c : Int) (h0 : 0 ≤ c) (h1 : c ≤ 100) : ∀ i, i < 2 → timeOk (twoT i) (twoC c i) := by
  intro i hi
  match i, hi with
  | 0, _ => exact ⟨by decide, by decide, by show (0 : Int) ≤ 5; decide, by show (5 : Int) ≤ 1099511627776; decide⟩
  | 1, _ => exact ⟨by decide, by decide, h0, Int.le_trans h1 (by decide)⟩
theorem two_fit : (∀ j, j + 1 < 2 → pairOk 100000 (twoT j) (twoT (j + 1)) (twoC 16 j) (twoC 16 (j + 1))) := by
  intro j hj
  obtain rfl : j = 0 := by omega
  exact ⟨by decide, by decide, by decide, by decide⟩
theorem two_part : (∃ j, j + 1 < 2 ∧ ¬ pairOk 100000 (twoT j) (twoT (j + 1)) (twoC 17 j) (twoC 17 (j + 1))) :=
  ⟨0, by omega, fun h => absurd h.2.2.1 (by decide)⟩

set_option maxHeartbeats 1000000 in
theorem live_any (w : World) : Calls Try.prog 9 #[] w fun e w' => e = .returned (.bool true) ∧ Below w.heap.size w w' := by
  have H1 : Hid (mostP 100000 9 = (10, 0)) := by show _ = _; decide
  have H2 : Hid (leastP 100000 11 = (10, 0)) := by show _ = _; decide
  have H3 : Hid (windowP 0 5 6 = (11, 0)) := by show _ = _; decide
  have H4 : Hid (mostP (-1) 0 = (0, 1)) := by show _ = _; decide
  go_enter Try.func9, Try.ntmps9
  go_wp2_with fail
  refine (most_any _ _ _ _ _ H1).mono ?_
  rintro e w1 ⟨rfl, rfl⟩
  go_wp2_with fail
  refine (least_any _ _ _ _ _ H2).mono ?_
  rintro e w1 ⟨rfl, rfl⟩
  go_wp2_with fail
  refine (window_any _ _ _ _ _ _ H3).mono ?_
  rintro e w1 ⟨rfl, rfl⟩
  go_wp2_with fail
  refine (most_any _ _ _ _ _ H4).mono ?_
  rintro e w1 ⟨rfl, rfl⟩
  go_wp2_with fail
  refine (check_pairs 100000 0 _ 2 _ twoT (twoC 16) _ (by omega) (by omega) (by omega) (two_reads _ _) (two_times _ (by omega) (by omega)) (.inl ⟨two_fit, rfl⟩)).mono ?_
  rintro e w1 ⟨rfl, b1⟩
  go_wp2_with fail
  refine (check_pairs 100000 8 _ 2 _ twoT (twoC 17) _ (by omega) (by omega) (by omega) (two_reads _ _) (two_times _ (by omega) (by omega)) (.inr ⟨two_part, rfl⟩)).mono ?_
  rintro e w2 ⟨rfl, b2⟩
  go_wp2_with fail
  go_ret
  have s1 := b1.size
  simp at s1
  exact ⟨rfl, (((Below.refl _ _).alloc (Nat.le_refl _) _).trans (b1.mono (by simp))).trans (((Below.refl _ _).alloc (by omega) _).trans (b2.mono (by simp; omega)))⟩

end Go.Proofs.Ytfkippkfdepbkaa
