/-
  The contracts of package drift's Most, Least and Window, and of the reference's, over the translation: what each returns; no memory is touched.
-/
import Derived.Test.YtfkippkfdepbkaaRows
import Derived.WalkKit
import Derived.WalkSpells
import Derived.WalkLawsBesides
namespace Go.Proofs.Ytfkippkfdepbkaa
open Go.RowKit

theorem hid {p : Prop} (h : p) : Hid p := h
def Is (v : Value) (w : World) (e : Ending) (w' : World) : Prop := e = .returned v ∧ w = w'

/-! ### The plain functions -/
def upP (a b : Int) : Int := (a + b - 1) / b
def mostP (r l : Int) : Int × Int := if 0 ≤ r ∧ r ≤ 100000 ∧ 0 ≤ l ∧ l ≤ 1099511627776 then (upP (1000000 * l) (1000000 - r), 0) else (0, 1)
def leastP (r l : Int) : Int × Int := if 0 ≤ r ∧ r ≤ 100000 ∧ 0 ≤ l ∧ l ≤ 1099511627776 then (1000000 * l / (1000000 + r), 0) else (0, 1)
def windowP (r x t : Int) : Int × Int := if 0 ≤ r ∧ r ≤ 100000 ∧ 0 ≤ x ∧ x ≤ 2147483647 ∧ 0 ≤ t ∧ t ≤ 2147483647 then (upP ((1000000 + r) * (x + t)) (1000000 - r), 0) else (0, 1)

theorem div_le (a b : Int) (ha : 0 ≤ a) : a / b ≤ a := Int.ediv_le_self b ha
theorem div_pos (a b : Int) (ha : 0 ≤ a) (hb : 1 ≤ b) : 0 ≤ a / b := Int.ediv_nonneg ha (by omega)
theorem tdiv_pos (a b : Int) (ha : 0 ≤ a) : a.tdiv b = a / b := Int.tdiv_eq_ediv_of_nonneg ha
theorem tmod_pos (a b : Int) (ha : 0 ≤ a) : a.tmod b = a % b := Int.tmod_eq_emod_of_nonneg ha
/-- Rounded up: one more, if something is left. -/
theorem up_left (a b : Int) (_ha : 0 ≤ a) (hb : 1 ≤ b) (h : 0 < a % b) : upP a b = a / b + 1 := by
  unfold upP
  have e := Int.mul_ediv_add_emod a b
  have l := Int.emod_lt_of_pos a (show 0 < b by omega)
  rw [show a + b - 1 = (a % b - 1) + b * (a / b + 1) by rw [Int.mul_add]; omega, Int.add_mul_ediv_left _ _ (by omega), Int.ediv_eq_zero_of_lt (by omega) (by omega)]
  omega
theorem up_whole (a b : Int) (_ha : 0 ≤ a) (hb : 1 ≤ b) (h : ¬ 0 < a % b) : upP a b = a / b := by
  unfold upP
  have e := Int.mul_ediv_add_emod a b
  have l := Int.emod_nonneg a (show b ≠ 0 by omega)
  rw [show a + b - 1 = (b - 1) + b * (a / b) by omega, Int.add_mul_ediv_left _ _ (by omega), Int.ediv_eq_zero_of_lt (by omega) (by omega)]
  omega
theorem up_pos (a b : Int) (ha : 0 ≤ a) (hb : 1 ≤ b) : 0 ≤ upP a b := div_pos _ _ (by omega) hb
theorem up_le (a b : Int) (ha : 0 ≤ a) (hb : 1 ≤ b) : upP a b ≤ a + b - 1 := div_le _ _ (by omega)

/-! ### The walks -/
set_option maxHeartbeats 400000 in
theorem within_yes (n m : Int) (w : World) (h0 : 0 ≤ n) (h1 : n ≤ m) : Calls Try.prog 19 #[.int .i64 n, .int .i64 m] w (Is (.bool true) w) := by
  unfold Is
  go_enter Try.func19, Try.ntmps19
  go_wp2
  go_ret
  exact ⟨rfl, rfl⟩

set_option maxHeartbeats 400000 in
theorem within_no (n m : Int) (w : World) (h : n < 0 ∨ m < n) : Calls Try.prog 19 #[.int .i64 n, .int .i64 m] w (Is (.bool false) w) := by
  unfold Is
  by_cases h0 : n < 0
  · clear h
    go_enter Try.func19, Try.ntmps19
    go_wp2
    go_ret
    exact ⟨rfl, rfl⟩
  · have h1 : decide (n ≤ m) = false := by simp; omega
    clear h
    go_enter Try.func19, Try.ntmps19
    go_wp2
    go_ret
    exact ⟨rfl, rfl⟩

set_option maxHeartbeats 400000 in
theorem rates_yes (n : Int) (w : World) (h0 : 0 ≤ n) (h1 : n ≤ 100000) : Calls Try.prog 20 #[.int .i64 n] w (Is (.bool true) w) := by
  unfold Is
  go_enter Try.func20, Try.ntmps20
  go_wp2
  go_ret
  exact ⟨rfl, rfl⟩

set_option maxHeartbeats 400000 in
theorem rates_no (n : Int) (w : World) (h : n < 0 ∨ 100000 < n) : Calls Try.prog 20 #[.int .i64 n] w (Is (.bool false) w) := by
  unfold Is
  by_cases h0 : n < 0
  · clear h
    go_enter Try.func20, Try.ntmps20
    go_wp2
    go_ret
    exact ⟨rfl, rfl⟩
  · have h1 : decide (n ≤ 100000) = false := by simp; omega
    clear h
    go_enter Try.func20, Try.ntmps20
    go_wp2
    go_ret
    exact ⟨rfl, rfl⟩

set_option maxHeartbeats 400000 in
theorem time_yes (n : Int) (w : World) (h0 : 0 ≤ n) (h1 : n ≤ 1099511627776) : Calls Try.prog 21 #[.int .i64 n] w (Is (.bool true) w) := by
  unfold Is
  go_enter Try.func21, Try.ntmps21
  go_wp2
  go_ret
  exact ⟨rfl, rfl⟩

set_option maxHeartbeats 400000 in
theorem time_no (n : Int) (w : World) (h : n < 0 ∨ 1099511627776 < n) : Calls Try.prog 21 #[.int .i64 n] w (Is (.bool false) w) := by
  unfold Is
  by_cases h0 : n < 0
  · clear h
    go_enter Try.func21, Try.ntmps21
    go_wp2
    go_ret
    exact ⟨rfl, rfl⟩
  · have h1 : decide (n ≤ 1099511627776) = false := by simp; omega
    clear h
    go_enter Try.func21, Try.ntmps21
    go_wp2
    go_ret
    exact ⟨rfl, rfl⟩

set_option maxHeartbeats 400000 in
theorem up_any (a b : Int) (w : World) (h0 : 0 ≤ a) (h1 : a ≤ 4611686018427387904) (h2 : 1 ≤ b) (h3 : b ≤ 9223372036854775807) : Calls Try.prog 22 #[.int .i64 a, .int .i64 b] w (Is (.int .i64 (upP a b)) w) := by
  unfold Is
  have t1 := tdiv_pos a b h0
  have t2 := tmod_pos a b h0
  have d0 := div_pos a b h0 h2
  have d1 := div_le a b h0
  have m0 := Int.emod_nonneg a (show b ≠ 0 by omega)
  have m1 := Int.emod_lt_of_pos a (show 0 < b by omega)
  by_cases c : 0 < a % b
  · have U := hid (up_left a b h0 h2 c)
    generalize a / b = q at t1 d0 d1 U
    generalize a % b = m at t2 m0 m1 c
    go_enter Try.func22, Try.ntmps22
    go_wp2
    go_ret
    exact ⟨by rw [U.out]; rfl, rfl⟩
  · have U := hid (up_whole a b h0 h2 c)
    have c' : a % b ≤ 0 := by omega
    generalize a / b = q at t1 d0 d1 U
    generalize a % b = m at t2 m0 m1 c'
    clear c
    go_enter Try.func22, Try.ntmps22
    go_wp2
    go_ret
    exact ⟨by rw [U.out]; rfl, rfl⟩

/-! ### Most -/
theorem mostP_yes (r l : Int) (h0 : 0 ≤ r) (h1 : r ≤ 100000) (h2 : 0 ≤ l) (h3 : l ≤ 1099511627776) : mostP r l = (upP (1000000 * l) (1000000 - r), 0) := if_pos ⟨h0, h1, h2, h3⟩
theorem mostP_no (r l : Int) (h : r < 0 ∨ 100000 < r ∨ l < 0 ∨ 1099511627776 < l) : mostP r l = (0, 1) := if_neg (by omega)
theorem leastP_yes (r l : Int) (h0 : 0 ≤ r) (h1 : r ≤ 100000) (h2 : 0 ≤ l) (h3 : l ≤ 1099511627776) : leastP r l = (1000000 * l / (1000000 + r), 0) := if_pos ⟨h0, h1, h2, h3⟩
theorem leastP_no (r l : Int) (h : r < 0 ∨ 100000 < r ∨ l < 0 ∨ 1099511627776 < l) : leastP r l = (0, 1) := if_neg (by omega)
theorem windowP_yes (r x t : Int) (h0 : 0 ≤ r) (h1 : r ≤ 100000) (h2 : 0 ≤ x) (h3 : x ≤ 2147483647) (h4 : 0 ≤ t) (h5 : t ≤ 2147483647) : windowP r x t = (upP ((1000000 + r) * (x + t)) (1000000 - r), 0) := if_pos ⟨h0, h1, h2, h3, h4, h5⟩
theorem windowP_no (r x t : Int) (h : r < 0 ∨ 100000 < r ∨ x < 0 ∨ 2147483647 < x ∨ t < 0 ∨ 2147483647 < t) : windowP r x t = (0, 1) := if_neg (by omega)

set_option maxHeartbeats 400000 in
theorem most_yes (r l : Int) (w : World) (h0 : 0 ≤ r) (h1 : r ≤ 100000) (h2 : 0 ≤ l) (h3 : l ≤ 1099511627776) : Calls Try.prog 13 #[.int .i64 r, .int .i64 l] w (Is (.tuple #[.int .i64 (upP (1000000 * l) (1000000 - r)), .int .i64 0]) w) := by
  unfold Is
  have t1 := tdiv_pos (1000000 * l + (1000000 - r) - 1) (1000000 - r) (by omega)
  have d0 := up_pos (1000000 * l) (1000000 - r) (by omega) (by omega)
  have d1 := up_le (1000000 * l) (1000000 - r) (by omega) (by omega)
  have U := hid (show (1000000 * l + (1000000 - r) - 1) / (1000000 - r) = upP (1000000 * l) (1000000 - r) from rfl)
  rw [U.out] at t1
  generalize upP (1000000 * l) (1000000 - r) = q at t1 d0 d1
  clear U
  go_enter Try.func13, Try.ntmps13
  go_wp2_with fail
  refine (within_yes _ _ _ (by omega) (by omega)).mono ?_
  rintro e w1 ⟨rfl, rfl⟩
  go_wp2_with fail
  refine (within_yes _ _ _ (by omega) (by omega)).mono ?_
  rintro e w1 ⟨rfl, rfl⟩
  go_wp2_with fail
  go_ret2
  exact ⟨rfl, rfl⟩

set_option maxHeartbeats 800000 in
theorem most_no (r l : Int) (w : World) (h : r < 0 ∨ 100000 < r ∨ l < 0 ∨ 1099511627776 < l) : Calls Try.prog 13 #[.int .i64 r, .int .i64 l] w (Is (.tuple #[.int .i64 0, .int .i64 1]) w) := by
  unfold Is
  by_cases c0 : r < 0 ∨ 100000 < r
  · have HC := hid c0
    clear h c0
    go_enter Try.func13, Try.ntmps13
    go_wp2_with fail
    refine (within_no _ _ _ HC.out).mono ?_
    rintro e w1 ⟨rfl, rfl⟩
    go_wp2_with fail
    go_ret2
    exact ⟨rfl, rfl⟩
  · have r0 : 0 ≤ r := by omega
    have r1 : r ≤ 100000 := by omega
    clear c0
    have HC : Hid (l < 0 ∨ 1099511627776 < l) := by show _ ∨ _; omega
    clear h
    go_enter Try.func13, Try.ntmps13
    go_wp2_with fail
    refine (within_yes _ _ _ (by omega) (by omega)).mono ?_
    rintro e w1 ⟨rfl, rfl⟩
    go_wp2_with fail
    refine (within_no _ _ _ HC.out).mono ?_
    rintro e w1 ⟨rfl, rfl⟩
    go_wp2_with fail
    go_ret2
    exact ⟨rfl, rfl⟩

theorem most_any (r l v er : Int) (w : World) (H : Hid (mostP r l = (v, er))) : Calls Try.prog 13 #[.int .i64 r, .int .i64 l] w (Is (.tuple #[.int .i64 v, .int .i64 er]) w) := by
  have h := H.out
  by_cases c : 0 ≤ r ∧ r ≤ 100000 ∧ 0 ≤ l ∧ l ≤ 1099511627776
  · obtain ⟨h0, h1, h2, h3⟩ := c
    rw [mostP_yes r l h0 h1 h2 h3] at h; injection h with ha hb; subst ha hb
    exact most_yes r l w h0 h1 h2 h3
  · rw [mostP_no r l (by omega)] at h; injection h with ha hb; subst ha hb
    exact most_no r l w (by omega)

set_option maxHeartbeats 800000 in
theorem mostR_yes (r l : Int) (w : World) (h0 : 0 ≤ r) (h1 : r ≤ 100000) (h2 : 0 ≤ l) (h3 : l ≤ 1099511627776) : Calls Try.prog 14 #[.int .i64 r, .int .i64 l] w (Is (.tuple #[.int .i64 (upP (1000000 * l) (1000000 - r)), .int .i64 0]) w) := by
  unfold Is
  go_enter Try.func14, Try.ntmps14
  go_wp2_with fail
  refine (rates_yes _ _ (by omega) (by omega)).mono ?_
  rintro e w1 ⟨rfl, rfl⟩
  go_wp2_with fail
  refine (time_yes _ _ (by omega) (by omega)).mono ?_
  rintro e w1 ⟨rfl, rfl⟩
  go_wp2_with fail
  refine (up_any _ _ _ (by omega) (by omega) (by omega) (by omega)).mono ?_
  rintro e w1 ⟨rfl, rfl⟩
  go_wp2_with fail
  go_ret2
  exact ⟨rfl, rfl⟩

set_option maxHeartbeats 800000 in
theorem mostR_no (r l : Int) (w : World) (h : r < 0 ∨ 100000 < r ∨ l < 0 ∨ 1099511627776 < l) : Calls Try.prog 14 #[.int .i64 r, .int .i64 l] w (Is (.tuple #[.int .i64 0, .int .i64 1]) w) := by
  unfold Is
  by_cases c0 : r < 0 ∨ 100000 < r
  · have HC := hid c0
    clear h c0
    go_enter Try.func14, Try.ntmps14
    go_wp2_with fail
    refine (rates_no _ _ HC.out).mono ?_
    rintro e w1 ⟨rfl, rfl⟩
    go_wp2_with fail
    go_ret2
    exact ⟨rfl, rfl⟩
  · have r0 : 0 ≤ r := by omega
    have r1 : r ≤ 100000 := by omega
    clear c0
    have HC : Hid (l < 0 ∨ 1099511627776 < l) := by show _ ∨ _; omega
    clear h
    go_enter Try.func14, Try.ntmps14
    go_wp2_with fail
    refine (rates_yes _ _ (by omega) (by omega)).mono ?_
    rintro e w1 ⟨rfl, rfl⟩
    go_wp2_with fail
    refine (time_no _ _ HC.out).mono ?_
    rintro e w1 ⟨rfl, rfl⟩
    go_wp2_with fail
    go_ret2
    exact ⟨rfl, rfl⟩

theorem mostR_any (r l v er : Int) (w : World) (H : Hid (mostP r l = (v, er))) : Calls Try.prog 14 #[.int .i64 r, .int .i64 l] w (Is (.tuple #[.int .i64 v, .int .i64 er]) w) := by
  have h := H.out
  by_cases c : 0 ≤ r ∧ r ≤ 100000 ∧ 0 ≤ l ∧ l ≤ 1099511627776
  · obtain ⟨h0, h1, h2, h3⟩ := c
    rw [mostP_yes r l h0 h1 h2 h3] at h; injection h with ha hb; subst ha hb
    exact mostR_yes r l w h0 h1 h2 h3
  · rw [mostP_no r l (by omega)] at h; injection h with ha hb; subst ha hb
    exact mostR_no r l w (by omega)

set_option maxHeartbeats 800000 in
theorem least_yes (r l : Int) (w : World) (h0 : 0 ≤ r) (h1 : r ≤ 100000) (h2 : 0 ≤ l) (h3 : l ≤ 1099511627776) : Calls Try.prog 15 #[.int .i64 r, .int .i64 l] w (Is (.tuple #[.int .i64 (1000000 * l / (1000000 + r)), .int .i64 0]) w) := by
  unfold Is
  have t1 := tdiv_pos (1000000 * l) (1000000 + r) (by omega)
  have d0 := div_pos (1000000 * l) (1000000 + r) (by omega) (by omega)
  have d1 := div_le (1000000 * l) (1000000 + r) (by omega)
  generalize 1000000 * l / (1000000 + r) = q at t1 d0 d1 ⊢
  go_enter Try.func15, Try.ntmps15
  go_wp2_with fail
  refine (within_yes _ _ _ (by omega) (by omega)).mono ?_
  rintro e w1 ⟨rfl, rfl⟩
  go_wp2_with fail
  refine (within_yes _ _ _ (by omega) (by omega)).mono ?_
  rintro e w1 ⟨rfl, rfl⟩
  go_wp2_with fail
  go_ret2
  exact ⟨rfl, rfl⟩

set_option maxHeartbeats 800000 in
theorem least_no (r l : Int) (w : World) (h : r < 0 ∨ 100000 < r ∨ l < 0 ∨ 1099511627776 < l) : Calls Try.prog 15 #[.int .i64 r, .int .i64 l] w (Is (.tuple #[.int .i64 0, .int .i64 1]) w) := by
  unfold Is
  by_cases c0 : r < 0 ∨ 100000 < r
  · have HC := hid c0
    clear h c0
    go_enter Try.func15, Try.ntmps15
    go_wp2_with fail
    refine (within_no _ _ _ HC.out).mono ?_
    rintro e w1 ⟨rfl, rfl⟩
    go_wp2_with fail
    go_ret2
    exact ⟨rfl, rfl⟩
  · have r0 : 0 ≤ r := by omega
    have r1 : r ≤ 100000 := by omega
    clear c0
    have HC : Hid (l < 0 ∨ 1099511627776 < l) := by show _ ∨ _; omega
    clear h
    go_enter Try.func15, Try.ntmps15
    go_wp2_with fail
    refine (within_yes _ _ _ (by omega) (by omega)).mono ?_
    rintro e w1 ⟨rfl, rfl⟩
    go_wp2_with fail
    refine (within_no _ _ _ HC.out).mono ?_
    rintro e w1 ⟨rfl, rfl⟩
    go_wp2_with fail
    go_ret2
    exact ⟨rfl, rfl⟩

theorem least_any (r l v er : Int) (w : World) (H : Hid (leastP r l = (v, er))) : Calls Try.prog 15 #[.int .i64 r, .int .i64 l] w (Is (.tuple #[.int .i64 v, .int .i64 er]) w) := by
  have h := H.out
  by_cases c : 0 ≤ r ∧ r ≤ 100000 ∧ 0 ≤ l ∧ l ≤ 1099511627776
  · obtain ⟨h0, h1, h2, h3⟩ := c
    rw [leastP_yes r l h0 h1 h2 h3] at h; injection h with ha hb; subst ha hb
    exact least_yes r l w h0 h1 h2 h3
  · rw [leastP_no r l (by omega)] at h; injection h with ha hb; subst ha hb
    exact least_no r l w (by omega)

set_option maxHeartbeats 800000 in
theorem leastR_yes (r l : Int) (w : World) (h0 : 0 ≤ r) (h1 : r ≤ 100000) (h2 : 0 ≤ l) (h3 : l ≤ 1099511627776) : Calls Try.prog 16 #[.int .i64 r, .int .i64 l] w (Is (.tuple #[.int .i64 (1000000 * l / (1000000 + r)), .int .i64 0]) w) := by
  unfold Is
  have t1 := tdiv_pos (1000000 * l) (1000000 + r) (by omega)
  have d0 := div_pos (1000000 * l) (1000000 + r) (by omega) (by omega)
  have d1 := div_le (1000000 * l) (1000000 + r) (by omega)
  generalize 1000000 * l / (1000000 + r) = q at t1 d0 d1 ⊢
  go_enter Try.func16, Try.ntmps16
  go_wp2_with fail
  refine (rates_yes _ _ (by omega) (by omega)).mono ?_
  rintro e w1 ⟨rfl, rfl⟩
  go_wp2_with fail
  refine (time_yes _ _ (by omega) (by omega)).mono ?_
  rintro e w1 ⟨rfl, rfl⟩
  go_wp2_with fail
  go_ret2
  exact ⟨rfl, rfl⟩

set_option maxHeartbeats 800000 in
theorem leastR_no (r l : Int) (w : World) (h : r < 0 ∨ 100000 < r ∨ l < 0 ∨ 1099511627776 < l) : Calls Try.prog 16 #[.int .i64 r, .int .i64 l] w (Is (.tuple #[.int .i64 0, .int .i64 1]) w) := by
  unfold Is
  by_cases c0 : r < 0 ∨ 100000 < r
  · have HC := hid c0
    clear h c0
    go_enter Try.func16, Try.ntmps16
    go_wp2_with fail
    refine (rates_no _ _ HC.out).mono ?_
    rintro e w1 ⟨rfl, rfl⟩
    go_wp2_with fail
    go_ret2
    exact ⟨rfl, rfl⟩
  · have r0 : 0 ≤ r := by omega
    have r1 : r ≤ 100000 := by omega
    clear c0
    have HC : Hid (l < 0 ∨ 1099511627776 < l) := by show _ ∨ _; omega
    clear h
    go_enter Try.func16, Try.ntmps16
    go_wp2_with fail
    refine (rates_yes _ _ (by omega) (by omega)).mono ?_
    rintro e w1 ⟨rfl, rfl⟩
    go_wp2_with fail
    refine (time_no _ _ HC.out).mono ?_
    rintro e w1 ⟨rfl, rfl⟩
    go_wp2_with fail
    go_ret2
    exact ⟨rfl, rfl⟩

theorem leastR_any (r l v er : Int) (w : World) (H : Hid (leastP r l = (v, er))) : Calls Try.prog 16 #[.int .i64 r, .int .i64 l] w (Is (.tuple #[.int .i64 v, .int .i64 er]) w) := by
  have h := H.out
  by_cases c : 0 ≤ r ∧ r ≤ 100000 ∧ 0 ≤ l ∧ l ≤ 1099511627776
  · obtain ⟨h0, h1, h2, h3⟩ := c
    rw [leastP_yes r l h0 h1 h2 h3] at h; injection h with ha hb; subst ha hb
    exact leastR_yes r l w h0 h1 h2 h3
  · rw [leastP_no r l (by omega)] at h; injection h with ha hb; subst ha hb
    exact leastR_no r l w (by omega)

theorem prod_bd (a b : Int) (h0 : 0 ≤ a) (h1 : a ≤ 1100000) (h2 : 0 ≤ b) (h3 : b ≤ 4294967294) : 0 ≤ a * b ∧ a * b ≤ 4724464023400000 :=
  ⟨Int.mul_nonneg h0 h2, by have := Int.mul_le_mul h1 h3 h2 (by omega); omega⟩

set_option maxHeartbeats 800000 in
theorem window_yes (r x t : Int) (w : World) (h0 : 0 ≤ r) (h1 : r ≤ 100000) (h2 : 0 ≤ x) (h3 : x ≤ 2147483647) (h4 : 0 ≤ t) (h5 : t ≤ 2147483647) : Calls Try.prog 17 #[.int .i64 r, .int .i64 x, .int .i64 t] w (Is (.tuple #[.int .i64 (upP ((1000000 + r) * (x + t)) (1000000 - r)), .int .i64 0]) w) := by
  unfold Is
  obtain ⟨b0, b1⟩ := prod_bd (1000000 + r) (x + t) (by omega) (by omega) (by omega) (by omega)
  obtain ⟨p, hp⟩ : ∃ p, (1000000 + r) * (x + t) = p := ⟨_, rfl⟩
  rw [hp] at b0 b1 ⊢
  have t1 := tdiv_pos (p + (1000000 - r) - 1) (1000000 - r) (by omega)
  have d0 := up_pos p (1000000 - r) (by omega) (by omega)
  have d1 := up_le p (1000000 - r) (by omega) (by omega)
  have U := hid (show (p + (1000000 - r) - 1) / (1000000 - r) = upP p (1000000 - r) from rfl)
  rw [U.out] at t1
  generalize upP p (1000000 - r) = q at t1 d0 d1 ⊢
  clear U
  go_enter Try.func17, Try.ntmps17
  go_wp2_with fail
  refine (within_yes _ _ _ (by omega) (by omega)).mono ?_
  rintro e w1 ⟨rfl, rfl⟩
  go_wp2_with fail
  refine (within_yes _ _ _ (by omega) (by omega)).mono ?_
  rintro e w1 ⟨rfl, rfl⟩
  go_wp2_with fail
  refine (within_yes _ _ _ (by omega) (by omega)).mono ?_
  rintro e w1 ⟨rfl, rfl⟩
  go_wp2_with fail
  go_ret2
  exact ⟨rfl, rfl⟩

set_option maxHeartbeats 800000 in
theorem window_no (r x t : Int) (w : World) (h : r < 0 ∨ 100000 < r ∨ x < 0 ∨ 2147483647 < x ∨ t < 0 ∨ 2147483647 < t) : Calls Try.prog 17 #[.int .i64 r, .int .i64 x, .int .i64 t] w (Is (.tuple #[.int .i64 0, .int .i64 1]) w) := by
  unfold Is
  by_cases c0 : r < 0 ∨ 100000 < r
  · have HC := hid c0
    clear h c0
    go_enter Try.func17, Try.ntmps17
    go_wp2_with fail
    refine (within_no _ _ _ HC.out).mono ?_
    rintro e w1 ⟨rfl, rfl⟩
    go_wp2_with fail
    go_ret2
    exact ⟨rfl, rfl⟩
  · have r0 : 0 ≤ r := by omega
    have r1 : r ≤ 100000 := by omega
    clear c0
    by_cases c1 : x < 0 ∨ 2147483647 < x
    · have HC := hid c1
      clear h c1
      go_enter Try.func17, Try.ntmps17
      go_wp2_with fail
      refine (within_yes _ _ _ (by omega) (by omega)).mono ?_
      rintro e w1 ⟨rfl, rfl⟩
      go_wp2_with fail
      refine (within_no _ _ _ HC.out).mono ?_
      rintro e w1 ⟨rfl, rfl⟩
      go_wp2_with fail
      go_ret2
      exact ⟨rfl, rfl⟩
    · have x0 : 0 ≤ x := by omega
      have x1 : x ≤ 2147483647 := by omega
      clear c1
      have HC : Hid (t < 0 ∨ 2147483647 < t) := by show _ ∨ _; omega
      clear h
      go_enter Try.func17, Try.ntmps17
      go_wp2_with fail
      refine (within_yes _ _ _ (by omega) (by omega)).mono ?_
      rintro e w1 ⟨rfl, rfl⟩
      go_wp2_with fail
      refine (within_yes _ _ _ (by omega) (by omega)).mono ?_
      rintro e w1 ⟨rfl, rfl⟩
      go_wp2_with fail
      refine (within_no _ _ _ HC.out).mono ?_
      rintro e w1 ⟨rfl, rfl⟩
      go_wp2_with fail
      go_ret2
      exact ⟨rfl, rfl⟩

theorem window_any (r x t v er : Int) (w : World) (H : Hid (windowP r x t = (v, er))) : Calls Try.prog 17 #[.int .i64 r, .int .i64 x, .int .i64 t] w (Is (.tuple #[.int .i64 v, .int .i64 er]) w) := by
  have h := H.out
  by_cases c : 0 ≤ r ∧ r ≤ 100000 ∧ 0 ≤ x ∧ x ≤ 2147483647 ∧ 0 ≤ t ∧ t ≤ 2147483647
  · obtain ⟨h0, h1, h2, h3, h4, h5⟩ := c
    rw [windowP_yes r x t h0 h1 h2 h3 h4 h5] at h; injection h with ha hb; subst ha hb
    exact window_yes r x t w h0 h1 h2 h3 h4 h5
  · rw [windowP_no r x t (by omega)] at h; injection h with ha hb; subst ha hb
    exact window_no r x t w (by omega)

set_option maxHeartbeats 800000 in
theorem windowR_yes (r x t : Int) (w : World) (h0 : 0 ≤ r) (h1 : r ≤ 100000) (h2 : 0 ≤ x) (h3 : x ≤ 2147483647) (h4 : 0 ≤ t) (h5 : t ≤ 2147483647) : Calls Try.prog 18 #[.int .i64 r, .int .i64 x, .int .i64 t] w (Is (.tuple #[.int .i64 (upP ((1000000 + r) * (x + t)) (1000000 - r)), .int .i64 0]) w) := by
  unfold Is
  obtain ⟨b0, b1⟩ := prod_bd (1000000 + r) (x + t) (by omega) (by omega) (by omega) (by omega)
  obtain ⟨p, hp⟩ : ∃ p, (1000000 + r) * (x + t) = p := ⟨_, rfl⟩
  rw [hp] at b0 b1 ⊢
  go_enter Try.func18, Try.ntmps18
  go_wp2_with fail
  refine (rates_yes _ _ (by omega) (by omega)).mono ?_
  rintro e w1 ⟨rfl, rfl⟩
  go_wp2_with fail
  refine (up_any _ _ _ (by omega) (by omega) (by omega) (by omega)).mono ?_
  rintro e w1 ⟨rfl, rfl⟩
  go_wp2_with fail
  go_ret2
  exact ⟨rfl, rfl⟩

set_option maxHeartbeats 800000 in
theorem windowR_no (r x t : Int) (w : World) (h : r < 0 ∨ 100000 < r ∨ x < 0 ∨ 2147483647 < x ∨ t < 0 ∨ 2147483647 < t) : Calls Try.prog 18 #[.int .i64 r, .int .i64 x, .int .i64 t] w (Is (.tuple #[.int .i64 0, .int .i64 1]) w) := by
  unfold Is
  by_cases c0 : r < 0 ∨ 100000 < r
  · have HC := hid c0
    clear h c0
    go_enter Try.func18, Try.ntmps18
    go_wp2_with fail
    refine (rates_no _ _ HC.out).mono ?_
    rintro e w1 ⟨rfl, rfl⟩
    go_wp2_with fail
    go_ret2
    exact ⟨rfl, rfl⟩
  · have r0 : 0 ≤ r := by omega
    have r1 : r ≤ 100000 := by omega
    clear c0
    by_cases c1 : x < 0
    · clear h
      go_enter Try.func18, Try.ntmps18
      go_wp2_with fail
      refine (rates_yes _ _ (by omega) (by omega)).mono ?_
      rintro e w1 ⟨rfl, rfl⟩
      go_wp2_with fail
      go_ret2
      exact ⟨rfl, rfl⟩
    · have x0 : 0 ≤ x := by omega
      clear c1
      by_cases d1 : 2147483647 < x
      · clear h
        go_enter Try.func18, Try.ntmps18
        go_wp2_with fail
        refine (rates_yes _ _ (by omega) (by omega)).mono ?_
        rintro e w1 ⟨rfl, rfl⟩
        go_wp2_with fail
        go_ret2
        exact ⟨rfl, rfl⟩
      · have x1 : x ≤ 2147483647 := by omega
        clear d1
        by_cases c2 : t < 0
        · clear h
          go_enter Try.func18, Try.ntmps18
          go_wp2_with fail
          refine (rates_yes _ _ (by omega) (by omega)).mono ?_
          rintro e w1 ⟨rfl, rfl⟩
          go_wp2_with fail
          go_ret2
          exact ⟨rfl, rfl⟩
        · have t0 : 0 ≤ t := by omega
          clear c2
          have t1 : 2147483647 < t := by omega
          clear h
          go_enter Try.func18, Try.ntmps18
          go_wp2_with fail
          refine (rates_yes _ _ (by omega) (by omega)).mono ?_
          rintro e w1 ⟨rfl, rfl⟩
          go_wp2_with fail
          go_ret2
          exact ⟨rfl, rfl⟩

theorem windowR_any (r x t v er : Int) (w : World) (H : Hid (windowP r x t = (v, er))) : Calls Try.prog 18 #[.int .i64 r, .int .i64 x, .int .i64 t] w (Is (.tuple #[.int .i64 v, .int .i64 er]) w) := by
  have h := H.out
  by_cases c : 0 ≤ r ∧ r ≤ 100000 ∧ 0 ≤ x ∧ x ≤ 2147483647 ∧ 0 ≤ t ∧ t ≤ 2147483647
  · obtain ⟨h0, h1, h2, h3, h4, h5⟩ := c
    rw [windowP_yes r x t h0 h1 h2 h3 h4 h5] at h; injection h with ha hb; subst ha hb
    exact windowR_yes r x t w h0 h1 h2 h3 h4 h5
  · rw [windowP_no r x t (by omega)] at h; injection h with ha hb; subst ha hb
    exact windowR_no r x t w (by omega)

end Go.Proofs.Ytfkippkfdepbkaa
