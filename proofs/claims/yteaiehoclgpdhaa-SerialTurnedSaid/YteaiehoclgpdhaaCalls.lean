/-
  The contracts of package serial's functions (may, Add, Compare, Later) over the translation: what each returns, and that below the heap's size at the call nothing has turned.
-/
import Derived.Test.YteaiehoclgpdhaaRows
import Derived.WalkKit
import Derived.WalkSpells
import Derived.WalkLawsBesides

namespace Go.Proofs.Yteaiehoclgpdhaa
open Go.RowKit

theorem hid {p : Prop} (h : p) : Hid p := h

set_option maxHeartbeats 400000 in
theorem may_yes (b off len : Nat) (zs : List Int) (w : World) (hb : len ≤ 9) (hc : ∀ j, j < len → w.cell? ⟨b, off + j, none⟩ = some (.int .i64 (zs.getD j 0)))
    (hz : ∀ j, j < len → 0 ≤ zs.getD j 0 ∧ zs.getD j 0 ≤ 4294967295) :
    Calls Try.prog 15 #[.slice (some ⟨b, off, none⟩) len len] w fun e w' => e = .returned (.bool true) ∧ w = w' := by
  have HC := hid hc
  have HZ := hid hz
  clear hc hz
  go_enter Try.func15, Try.ntmps15
  go_wp2
  go_loop [7] (fun i => ∃ k : Nat, k ≤ len ∧ i = .int .i64 k) (fun i => len - (intOf i).toNat)
  case atStart => exact ⟨0, Nat.zero_le _, rfl⟩
  case round =>
    obtain ⟨k, hk, rfl⟩ := hrel
    by_cases hlt : k < len
    · obtain ⟨h1, h2⟩ := HZ.out k hlt
      have hcell := HC.out k hlt
      generalize zs.getD k 0 = z at h1 h2 hcell
      go_wp2
      go_round
      case rel => exact ⟨k + 1, by omega, by go_num⟩
      case measure => simp [intOf]; omega
    · go_wp2
      go_ret
      exact ⟨rfl, rfl⟩

set_option maxHeartbeats 400000 in
theorem may_no (b off len : Nat) (zs : List Int) (w : World) (hb : len ≤ 9) (hc : ∀ j, j < len → w.cell? ⟨b, off + j, none⟩ = some (.int .i64 (zs.getD j 0)))
    (hz : ∃ j, j < len ∧ ¬ (0 ≤ zs.getD j 0 ∧ zs.getD j 0 ≤ 4294967295)) :
    Calls Try.prog 15 #[.slice (some ⟨b, off, none⟩) len len] w fun e w' => e = .returned (.bool false) ∧ w = w' := by
  have HC := hid hc
  have HZ := hid hz
  clear hc hz
  go_enter Try.func15, Try.ntmps15
  go_wp2
  go_loop [7] (fun i => ∃ k : Nat, k ≤ len ∧ i = .int .i64 k ∧ Hid (∀ j, j < k → 0 ≤ zs.getD j 0 ∧ zs.getD j 0 ≤ 4294967295)) (fun i => len - (intOf i).toNat)
  case atStart => exact ⟨0, Nat.zero_le _, rfl, fun j hj => absurd hj (by omega)⟩
  case round =>
    obtain ⟨k, hk, rfl, hall⟩ := hrel
    by_cases hlt : k < len
    · have hcell := HC.out k hlt
      by_cases hin : 0 ≤ zs.getD k 0 ∧ zs.getD k 0 ≤ 4294967295
      · have hall' : Hid (∀ j, j < k + 1 → 0 ≤ zs.getD j 0 ∧ zs.getD j 0 ≤ 4294967295) := by
          intro j hj
          by_cases h : j = k
          · subst h; exact hin
          · exact hall.out j (by omega)
        obtain ⟨h1, h2⟩ := hin
        generalize zs.getD k 0 = z at h1 h2 hcell
        go_wp2
        go_round
        case rel => exact ⟨k + 1, by omega, by go_num, hall'⟩
        case measure => simp [intOf]; omega
      · generalize zs.getD k 0 = z at hin hcell
        by_cases h1 : z < 0
        · go_wp2
          go_ret
          exact ⟨rfl, rfl⟩
        · have h2 : 4294967295 < z := by omega
          clear hin
          go_wp2
          go_ret
          exact ⟨rfl, rfl⟩
    · exfalso
      obtain ⟨j, hj, hn⟩ := HZ.out
      exact hn (hall.out j (by omega))

theorem one_cell (w : World) (a : Int) : ∀ j, j < 1 → (w.alloc (.cells #[.int .i64 a] 3)).cell? ⟨w.heap.size, 0 + j, none⟩ = some (.int .i64 ([a].getD j 0)) := by
  intro j hj
  obtain rfl : j = 0 := by omega
  go_simp

theorem mask32 (n : Int) : bits .and .i64 n 4294967295 = n % 4294967296 := by
  have hm : (BitVec.ofInt 64 4294967295).toNat = 2 ^ 32 - 1 := by decide
  have key : (BitVec.ofInt 64 n &&& BitVec.ofInt 64 4294967295).toNat = (n % ((2 ^ 64 : Nat) : Int)).toNat % 2 ^ 32 := by
    rw [BitVec.toNat_and, BitVec.toNat_ofInt, hm, Nat.and_two_pow_sub_one_eq_mod]
  show IntKind.i64.wrap ((BitVec.ofInt 64 n &&& BitVec.ofInt 64 4294967295).toNat : Nat) = n % 4294967296
  rw [key, IntKind.wrap_i64]
  omega

set_option maxHeartbeats 400000 in
theorem add_yes (a n : Int) (w : World) (h0 : 0 ≤ a) (h1 : a ≤ 4294967295) (h2 : 0 ≤ n) (h3 : n ≤ 2147483647) :
    Calls Try.prog 8 #[.int .i64 a, .int .i64 n] w fun e w' => e = .returned (.tuple #[.int .i64 ((a + n) % 4294967296), .int .i64 0]) ∧ Below w.heap.size w w' := by
  have hm := mask32
  go_enter Try.func8, Try.ntmps8
  go_wp2_with (go_at_call 15; refine (may_yes _ _ _ [a] _ (by omega) (one_cell _ _) (by simp; omega)).mono ?_; rintro e w' ⟨rfl, rfl⟩)
  go_ret2
  exact ⟨rfl, (Below.refl _ _).alloc (Nat.le_refl _) _⟩

set_option maxHeartbeats 400000 in
theorem add_no (a n : Int) (w : World) (h : a < 0 ∨ 4294967295 < a ∨ n < 0 ∨ 2147483647 < n) :
    Calls Try.prog 8 #[.int .i64 a, .int .i64 n] w fun e w' => e = .returned (.tuple #[.int .i64 0, .int .i64 1]) ∧ Below w.heap.size w w' := by
  by_cases ha : 0 ≤ a ∧ a ≤ 4294967295
  · obtain ⟨h0, h1⟩ := ha
    by_cases hn : n < 0
    · clear h
      go_enter Try.func8, Try.ntmps8
      go_wp2_with (go_at_call 15; refine (may_yes _ _ _ [a] _ (by omega) (one_cell _ _) (by simp; omega)).mono ?_; rintro e w' ⟨rfl, rfl⟩)
      go_ret2
      exact ⟨rfl, (Below.refl _ _).alloc (Nat.le_refl _) _⟩
    · have hn' : 2147483648 ≤ n := by omega
      clear h
      go_enter Try.func8, Try.ntmps8
      go_wp2_with (go_at_call 15; refine (may_yes _ _ _ [a] _ (by omega) (one_cell _ _) (by simp; omega)).mono ?_; rintro e w' ⟨rfl, rfl⟩)
      go_ret2
      exact ⟨rfl, (Below.refl _ _).alloc (Nat.le_refl _) _⟩
  · have HA := hid ha
    clear h ha
    go_enter Try.func8, Try.ntmps8
    go_wp2_with (go_at_call 15; refine (may_no _ _ _ [a] _ (by omega) (one_cell _ _) ⟨0, by omega, HA.out⟩).mono ?_; rintro e w' ⟨rfl, rfl⟩)
    go_ret2
    exact ⟨rfl, (Below.refl _ _).alloc (Nat.le_refl _) _⟩

theorem two_cells (w : World) (a b : Int) : ∀ j, j < 2 → (w.alloc (.cells #[.int .i64 a, .int .i64 b] 3)).cell? ⟨w.heap.size, 0 + j, none⟩ = some (.int .i64 ([a, b].getD j 0)) := by
  intro j hj
  match j, hj with
  | 0, _ => go_simp
  | 1, _ => go_simp

set_option maxHeartbeats 400000 in
theorem cmp_no (a b : Int) (w : World) (h : a < 0 ∨ 4294967295 < a ∨ b < 0 ∨ 4294967295 < b) :
    Calls Try.prog 11 #[.int .i64 a, .int .i64 b] w fun e w' => e = .returned (.tuple #[.int .i64 0, .int .i64 1]) ∧ Below w.heap.size w w' := by
  have HA : Hid (∃ j, j < 2 ∧ ¬ (0 ≤ [a, b].getD j 0 ∧ [a, b].getD j 0 ≤ 4294967295)) := by
    by_cases ha : 0 ≤ a ∧ a ≤ 4294967295
    · exact ⟨1, by omega, by simp; omega⟩
    · exact ⟨0, by omega, ha⟩
  clear h
  go_enter Try.func11, Try.ntmps11
  go_wp2_with (go_at_call 15; refine (may_no _ _ _ [a, b] _ (by omega) (two_cells _ _ _) HA.out).mono ?_; rintro e w' ⟨rfl, rfl⟩)
  go_ret2
  exact ⟨rfl, (Below.refl _ _).alloc (Nat.le_refl _) _⟩

theorem both (a b : Int) (h0 : 0 ≤ a) (h1 : a ≤ 4294967295) (h2 : 0 ≤ b) (h3 : b ≤ 4294967295) : ∀ j, j < 2 → 0 ≤ [a, b].getD j 0 ∧ [a, b].getD j 0 ≤ 4294967295 := by
  intro j hj
  match j, hj with
  | 0, _ => exact ⟨h0, h1⟩
  | 1, _ => exact ⟨h2, h3⟩

set_option maxHeartbeats 400000 in
theorem cmp_same (a b : Int) (w : World) (h0 : 0 ≤ a) (h1 : a ≤ 4294967295) (h2 : 0 ≤ b) (h3 : b ≤ 4294967295) (h : (b - a) % 4294967296 = 0) :
    Calls Try.prog 11 #[.int .i64 a, .int .i64 b] w fun e w' => e = .returned (.tuple #[.int .i64 0, .int .i64 0]) ∧ Below w.heap.size w w' := by
  have HB := hid (both a b h0 h1 h2 h3)
  have hm := mask32
  go_enter Try.func11, Try.ntmps11
  go_wp2_with (go_at_call 15; refine (may_yes _ _ _ [a, b] _ (by omega) (two_cells _ _ _) HB.out).mono ?_; rintro e w' ⟨rfl, rfl⟩)
  go_ret2
  exact ⟨rfl, (Below.refl _ _).alloc (Nat.le_refl _) _⟩

set_option maxHeartbeats 400000 in
theorem cmp_before (a b : Int) (w : World) (h0 : 0 ≤ a) (h1 : a ≤ 4294967295) (h2 : 0 ≤ b) (h3 : b ≤ 4294967295) (h : 0 < (b - a) % 4294967296) (h' : (b - a) % 4294967296 < 2147483648) :
    Calls Try.prog 11 #[.int .i64 a, .int .i64 b] w fun e w' => e = .returned (.tuple #[.int .i64 (-1), .int .i64 0]) ∧ Below w.heap.size w w' := by
  have HB := hid (both a b h0 h1 h2 h3)
  have hm := mask32
  have ht : ((b - a) % 4294967296 == 0) = false := by simp; omega
  go_enter Try.func11, Try.ntmps11
  go_wp2_with (go_at_call 15; refine (may_yes _ _ _ [a, b] _ (by omega) (two_cells _ _ _) HB.out).mono ?_; rintro e w' ⟨rfl, rfl⟩)
  go_ret2
  exact ⟨rfl, (Below.refl _ _).alloc (Nat.le_refl _) _⟩

set_option maxHeartbeats 400000 in
theorem cmp_after (a b : Int) (w : World) (h0 : 0 ≤ a) (h1 : a ≤ 4294967295) (h2 : 0 ≤ b) (h3 : b ≤ 4294967295) (h : 2147483648 < (b - a) % 4294967296) :
    Calls Try.prog 11 #[.int .i64 a, .int .i64 b] w fun e w' => e = .returned (.tuple #[.int .i64 1, .int .i64 0]) ∧ Below w.heap.size w w' := by
  have HB := hid (both a b h0 h1 h2 h3)
  have hm := mask32
  have ht : ((b - a) % 4294967296 == 0) = false := by simp; omega
  go_enter Try.func11, Try.ntmps11
  go_wp2_with (go_at_call 15; refine (may_yes _ _ _ [a, b] _ (by omega) (two_cells _ _ _) HB.out).mono ?_; rintro e w' ⟨rfl, rfl⟩)
  go_ret2
  exact ⟨rfl, (Below.refl _ _).alloc (Nat.le_refl _) _⟩

set_option maxHeartbeats 400000 in
theorem cmp_none (a b : Int) (w : World) (h0 : 0 ≤ a) (h1 : a ≤ 4294967295) (h2 : 0 ≤ b) (h3 : b ≤ 4294967295) (h : (b - a) % 4294967296 = 2147483648) :
    Calls Try.prog 11 #[.int .i64 a, .int .i64 b] w fun e w' => e = .returned (.tuple #[.int .i64 0, .int .i64 5]) ∧ Below w.heap.size w w' := by
  have HB := hid (both a b h0 h1 h2 h3)
  have hm := mask32
  go_enter Try.func11, Try.ntmps11
  go_wp2_with (go_at_call 15; refine (may_yes _ _ _ [a, b] _ (by omega) (two_cells _ _ _) HB.out).mono ?_; rintro e w' ⟨rfl, rfl⟩)
  go_ret2
  exact ⟨rfl, (Below.refl _ _).alloc (Nat.le_refl _) _⟩

/-! ### What the functions answer, in plain numbers -/
def addP (a n : Int) : Int × Int := if 0 ≤ a ∧ a ≤ 4294967295 ∧ 0 ≤ n ∧ n ≤ 2147483647 then ((a + n) % 4294967296, 0) else (0, 1)
def cmpP (a b : Int) : Int × Int :=
  if 0 ≤ a ∧ a ≤ 4294967295 ∧ 0 ≤ b ∧ b ≤ 4294967295 then
    if (b - a) % 4294967296 = 0 then (0, 0) else if (b - a) % 4294967296 < 2147483648 then (-1, 0) else if 2147483648 < (b - a) % 4294967296 then (1, 0) else (0, 5)
  else (0, 1)
def laterB (a b : Int) : Bool := decide (cmpP a b = (1, 0))

theorem addP_yes (a n : Int) (h0 : 0 ≤ a) (h1 : a ≤ 4294967295) (h2 : 0 ≤ n) (h3 : n ≤ 2147483647) : addP a n = ((a + n) % 4294967296, 0) := if_pos ⟨h0, h1, h2, h3⟩
theorem addP_no (a n : Int) (h : a < 0 ∨ 4294967295 < a ∨ n < 0 ∨ 2147483647 < n) : addP a n = (0, 1) := if_neg (by omega)
theorem addP_cases (a n : Int) : (0 ≤ a ∧ a ≤ 4294967295 ∧ 0 ≤ n ∧ n ≤ 2147483647 ∧ addP a n = ((a + n) % 4294967296, 0)) ∨ ((a < 0 ∨ 4294967295 < a ∨ n < 0 ∨ 2147483647 < n) ∧ addP a n = (0, 1)) := by
  by_cases h : 0 ≤ a ∧ a ≤ 4294967295 ∧ 0 ≤ n ∧ n ≤ 2147483647
  · obtain ⟨h0, h1, h2, h3⟩ := h
    exact .inl ⟨h0, h1, h2, h3, addP_yes a n h0 h1 h2 h3⟩
  · exact .inr ⟨by omega, addP_no a n (by omega)⟩
theorem cmpP_cases (a b : Int) : ((a < 0 ∨ 4294967295 < a ∨ b < 0 ∨ 4294967295 < b) ∧ cmpP a b = (0, 1)) ∨ (0 ≤ a ∧ a ≤ 4294967295 ∧ 0 ≤ b ∧ b ≤ 4294967295 ∧
    (((b - a) % 4294967296 = 0 ∧ cmpP a b = (0, 0)) ∨ (0 < (b - a) % 4294967296 ∧ (b - a) % 4294967296 < 2147483648 ∧ cmpP a b = (-1, 0)) ∨ (2147483648 < (b - a) % 4294967296 ∧ cmpP a b = (1, 0)) ∨ ((b - a) % 4294967296 = 2147483648 ∧ cmpP a b = (0, 5)))) := by
  unfold cmpP
  by_cases h : 0 ≤ a ∧ a ≤ 4294967295 ∧ 0 ≤ b ∧ b ≤ 4294967295
  · obtain ⟨h0, h1, h2, h3⟩ := h
    refine .inr ⟨h0, h1, h2, h3, ?_⟩
    rw [if_pos ⟨h0, h1, h2, h3⟩]
    by_cases c1 : (b - a) % 4294967296 = 0
    · exact .inl ⟨c1, if_pos c1⟩
    · rw [if_neg c1]
      by_cases c2 : (b - a) % 4294967296 < 2147483648
      · exact .inr (.inl ⟨by omega, c2, if_pos c2⟩)
      · rw [if_neg c2]
        by_cases c3 : 2147483648 < (b - a) % 4294967296
        · exact .inr (.inr (.inl ⟨c3, if_pos c3⟩))
        · exact .inr (.inr (.inr ⟨by omega, if_neg c3⟩))
  · exact .inl ⟨by omega, if_neg h⟩

/-! ### The contracts, one a function: the caller names the answer and says why it is the one -/
def Gives (v : Value) (B : Nat) (w : World) (e : Ending) (w' : World) : Prop := e = .returned v ∧ Below B w w'

theorem add_any (a n x er : Int) (w : World) (H : Hid (addP a n = (x, er))) :
    Calls Try.prog 8 #[.int .i64 a, .int .i64 n] w (Gives (.tuple #[.int .i64 x, .int .i64 er]) w.heap.size w) := by
  have h := H.out
  rcases addP_cases a n with ⟨h0, h1, h2, h3, h4⟩ | ⟨h0, h4⟩ <;> rw [h4] at h <;> injection h with ha hb <;> subst ha hb
  · exact add_yes a n w h0 h1 h2 h3
  · exact add_no a n w h0

theorem cmp_any (a b x er : Int) (w : World) (H : Hid (cmpP a b = (x, er))) :
    Calls Try.prog 11 #[.int .i64 a, .int .i64 b] w (Gives (.tuple #[.int .i64 x, .int .i64 er]) w.heap.size w) := by
  have h := H.out
  rcases cmpP_cases a b with ⟨h0, h4⟩ | ⟨h0, h1, h2, h3, h4⟩
  · rw [h4] at h; injection h with ha hb; subst ha hb
    exact cmp_no a b w h0
  · rcases h4 with ⟨c, h4⟩ | ⟨c, c', h4⟩ | ⟨c, h4⟩ | ⟨c, h4⟩ <;> rw [h4] at h <;> injection h with ha hb <;> subst ha hb
    · exact cmp_same a b w h0 h1 h2 h3 c
    · exact cmp_before a b w h0 h1 h2 h3 c c'
    · exact cmp_after a b w h0 h1 h2 h3 c
    · exact cmp_none a b w h0 h1 h2 h3 c

theorem later_eq (a b x er : Int) (h : cmpP a b = (x, er)) : laterB a b = (decide (x = 1) && decide (er = 0)) := by
  unfold laterB
  rw [h]
  by_cases h1 : x = 1 <;> by_cases h2 : er = 0 <;> simp [h1, h2]

set_option maxHeartbeats 400000 in
theorem later_any (a b : Int) (t : Bool) (w : World) (H : Hid (laterB a b = t)) :
    Calls Try.prog 13 #[.int .i64 a, .int .i64 b] w (Gives (.bool t) w.heap.size w) := by
  have HT := H
  clear H
  rcases cmpP_cases a b with ⟨h0, h4⟩ | ⟨h0, h1, h2, h3, h4⟩
  · have HC := hid h4
    obtain rfl : false = t := by rw [← HT.out, later_eq a b _ _ h4]; simp
    clear h4 h0 HT
    unfold Gives
    go_enter Try.func13, Try.ntmps13
    go_wp2_with (go_at_call 11; refine (cmp_any _ _ _ _ _ HC).mono ?_; rintro e w1 ⟨rfl, hb⟩)
    go_ret
    exact ⟨rfl, hb⟩
  · rcases h4 with ⟨c, h4⟩ | ⟨c, c', h4⟩ | ⟨c, h4⟩ | ⟨c, h4⟩
    · have HC := hid h4
      obtain rfl : false = t := by rw [← HT.out, later_eq a b _ _ h4]; simp
      clear h4 HT
      unfold Gives
      go_enter Try.func13, Try.ntmps13
      go_wp2_with (go_at_call 11; refine (cmp_any _ _ _ _ _ HC).mono ?_; rintro e w1 ⟨rfl, hb⟩)
      go_ret
      exact ⟨rfl, hb⟩
    · have HC := hid h4
      obtain rfl : false = t := by rw [← HT.out, later_eq a b _ _ h4]; simp
      clear h4 HT
      unfold Gives
      go_enter Try.func13, Try.ntmps13
      go_wp2_with (go_at_call 11; refine (cmp_any _ _ _ _ _ HC).mono ?_; rintro e w1 ⟨rfl, hb⟩)
      go_ret
      exact ⟨rfl, hb⟩
    · have HC := hid h4
      obtain rfl : true = t := by rw [← HT.out, later_eq a b _ _ h4]; simp
      clear h4 HT
      unfold Gives
      go_enter Try.func13, Try.ntmps13
      go_wp2_with (go_at_call 11; refine (cmp_any _ _ _ _ _ HC).mono ?_; rintro e w1 ⟨rfl, hb⟩)
      go_ret
      exact ⟨rfl, hb⟩
    · have HC := hid h4
      obtain rfl : false = t := by rw [← HT.out, later_eq a b _ _ h4]; simp
      clear h4 HT
      unfold Gives
      go_enter Try.func13, Try.ntmps13
      go_wp2_with (go_at_call 11; refine (cmp_any _ _ _ _ _ HC).mono ?_; rintro e w1 ⟨rfl, hb⟩)
      go_ret
      exact ⟨rfl, hb⟩

end Go.Proofs.Yteaiehoclgpdhaa
