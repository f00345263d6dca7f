/-
  The walks of the statements DriftBounds, DriftWide and DriftWindow: each returns true, and below the heap's size at the call nothing has turned.
-/
import Derived.Test.YtfkippkfdepbkaaLive
namespace Go.Proofs.Ytfkippkfdepbkaa
open Go.RowKit

set_option maxHeartbeats 800000 in
theorem bounds_walk (r l x : Int) (w : World) :
    Calls Try.prog 4 #[.int .i64 r, .int .i64 l, .int .i64 x] w fun e w' => e = .returned (.bool true) ∧ Below w.heap.size w w' := by
  obtain ⟨a, e1, HA⟩ : ∃ a e, Hid (mostP r l = (a, e)) := ⟨_, _, rfl⟩
  obtain ⟨b, e2, HB⟩ : ∃ a e, Hid (leastP r l = (a, e)) := ⟨_, _, rfl⟩
  obtain ⟨c, e3, HC⟩ : ∃ a e, Hid (windowP r x l = (a, e)) := ⟨_, _, rfl⟩
  go_enter Try.func4, Try.ntmps4
  go_wp2_with fail
  refine (most_any _ _ _ _ _ HA).mono ?_
  rintro e w1 ⟨rfl, rfl⟩
  go_wp2_with fail
  refine (mostR_any _ _ _ _ _ HA).mono ?_
  rintro e w1 ⟨rfl, rfl⟩
  go_wp2_with fail
  refine (least_any _ _ _ _ _ HB).mono ?_
  rintro e w1 ⟨rfl, rfl⟩
  go_wp2_with fail
  refine (leastR_any _ _ _ _ _ HB).mono ?_
  rintro e w1 ⟨rfl, rfl⟩
  go_wp2_with fail
  refine (window_any _ _ _ _ _ _ HC).mono ?_
  rintro e w1 ⟨rfl, rfl⟩
  go_wp2_with fail
  refine (windowR_any _ _ _ _ _ _ HC).mono ?_
  rintro e w1 ⟨rfl, rfl⟩
  go_wp2_with fail
  refine (live_any _).mono ?_
  rintro e w9 ⟨rfl, b9⟩
  go_wp2_with fail
  go_ret
  exact ⟨rfl, b9⟩

/-! ### The plain laws -/
theorem mul_split (a b : Int) (l : Int) : l * (a + b) = a * l + l * b := by rw [Int.mul_add, Int.mul_comm l a]
theorem least_le (r l : Int) (h0 : 0 ≤ r) (h2 : 0 ≤ l) : 1000000 * l / (1000000 + r) ≤ l := by
  apply Int.ediv_le_of_le_mul (by omega)
  rw [mul_split]
  have := Int.mul_nonneg h2 h0
  omega
theorem up_ge (X s q : Int) (hs : 1 ≤ s) (h : q * s ≤ X) : q ≤ upP X s := by
  unfold upP
  exact Int.le_ediv_of_mul_le (by omega) (by omega)
/-- Rounded up is the least number that serves. -/
theorem up_le_of (X s q : Int) (hs : 1 ≤ s) (h : X ≤ q * s) : upP X s ≤ q := by
  unfold upP
  have : (X + s - 1) / s < q + 1 := by
    apply Int.ediv_lt_of_lt_mul (by omega)
    rw [Int.add_mul]
    omega
  omega
theorem le_up_mul (X s : Int) (hs : 1 ≤ s) : X ≤ upP X s * s := by
  unfold upP
  have e := Int.mul_ediv_add_emod (X + s - 1) s
  have l := Int.emod_lt_of_pos (X + s - 1) (show 0 < s by omega)
  rw [Int.mul_comm]
  omega
theorem most_ge (r l : Int) (h0 : 0 ≤ r) (h1 : r ≤ 100000) (h2 : 0 ≤ l) : l ≤ upP (1000000 * l) (1000000 - r) := by
  apply up_ge _ _ _ (by omega)
  rw [Int.mul_sub, Int.mul_comm l 1000000]
  have := Int.mul_nonneg h2 h0
  omega
theorem least_mono (r v l : Int) (h0 : 0 ≤ r) (hv : r ≤ v) (h2 : 0 ≤ l) : 1000000 * l / (1000000 + v) ≤ 1000000 * l / (1000000 + r) := by
  apply Int.le_ediv_of_mul_le (by omega)
  have hq := div_pos (1000000 * l) (1000000 + v) (by omega) (by omega)
  have e := Int.ediv_mul_le (1000000 * l) (show (1000000 + v) ≠ 0 by omega)
  have m := Int.mul_le_mul_of_nonneg_left (show 1000000 + r ≤ 1000000 + v by omega) hq
  omega
theorem up_mono (X Y s t : Int) (hX : 0 ≤ X) (hXY : X ≤ Y) (ht : 1 ≤ t) (hst : t ≤ s) : upP X s ≤ upP Y t := by
  apply up_le_of _ _ _ (by omega)
  have h := le_up_mul Y t ht
  have hq := up_pos Y t (by omega) ht
  have m := Int.mul_le_mul_of_nonneg_left hst hq
  omega
theorem up_right (q s : Int) (hs : 1 ≤ s) : upP (s * q) s = q := by
  have h1 := up_le_of (s * q) s q hs (by rw [Int.mul_comm]; omega)
  have h2 := up_ge (s * q) s q hs (by rw [Int.mul_comm]; omega)
  omega
theorem most_right (l : Int) (h2 : 0 ≤ l) (h3 : l ≤ 1099511627776) : mostP 0 l = (l, 0) := by
  rw [mostP_yes 0 l (by omega) (by omega) h2 h3]
  have := up_right l 1000000 (by omega)
  rw [show (1000000 : Int) - 0 = 1000000 from rfl, this]
theorem least_right (l : Int) (h2 : 0 ≤ l) (h3 : l ≤ 1099511627776) : leastP 0 l = (l, 0) := by
  rw [leastP_yes 0 l (by omega) (by omega) h2 h3]
  rw [show (1000000 : Int) + 0 = 1000000 from rfl, Int.mul_ediv_cancel_left _ (by omega)]
theorem window_right (x t : Int) (h2 : 0 ≤ x) (h3 : x ≤ 2147483647) (h4 : 0 ≤ t) (h5 : t ≤ 2147483647) : windowP 0 x t = (x + t, 0) := by
  rw [windowP_yes 0 x t (by omega) (by omega) h2 h3 h4 h5]
  have := up_right (x + t) 1000000 (by omega)
  rw [show (1000000 : Int) - 0 = 1000000 from rfl, show (1000000 : Int) + 0 = 1000000 from rfl, this]
theorem window_mono (r v x y t : Int) (h0 : 0 ≤ r) (hv : r ≤ v) (h1 : v ≤ 100000) (hx : 0 ≤ x) (hy : x ≤ y) (ht : 0 ≤ t) :
    upP ((1000000 + r) * (x + t)) (1000000 - r) ≤ upP ((1000000 + v) * (y + t)) (1000000 - v) :=
  up_mono _ _ _ _ (Int.mul_nonneg (by omega) (by omega)) (Int.mul_le_mul (by omega) (by omega) (by omega) (by omega)) (by omega) (by omega)

/-- What DriftWide asks of the two bounds. -/
theorem wide_facts (r v l : Int) (h0 : 0 ≤ r) (h1 : r ≤ 100000) (k1 : v ≤ 100000) (h2 : 0 ≤ l) (h3 : l ≤ 1099511627776) :
    ∃ a b c d, leastP r l = (a, 0) ∧ mostP r l = (b, 0) ∧ (0 ≤ v → leastP v l = (c, 0)) ∧ (0 ≤ v → mostP v l = (d, 0)) ∧ a ≤ l ∧ l ≤ b ∧ (r ≤ v → c ≤ a ∧ b ≤ d) := by
  refine ⟨_, _, _, _, leastP_yes r l h0 h1 h2 h3, mostP_yes r l h0 h1 h2 h3, fun k0 => leastP_yes v l k0 k1 h2 h3, fun k0 => mostP_yes v l k0 k1 h2 h3, least_le r l h0 h2, most_ge r l h0 h1 h2, fun hv => ⟨least_mono r v l h0 hv h2, ?_⟩⟩
  exact up_mono _ _ _ _ (by omega) (Int.le_refl _) (by omega) (by omega)

set_option maxHeartbeats 1600000 in
theorem wide_walk (r v l : Int) (w : World) :
    Calls Try.prog 6 #[.int .i64 r, .int .i64 v, .int .i64 l] w fun e w' => e = .returned (.bool true) ∧ Below w.heap.size w w' := by
  by_cases hb : 0 ≤ r ∧ r ≤ 100000 ∧ 0 ≤ l ∧ l ≤ 1099511627776
  · obtain ⟨h0, h1, h2, h3⟩ := hb
    by_cases hv : 0 ≤ v ∧ v ≤ 100000
    · obtain ⟨k0, k1⟩ := hv
      obtain ⟨a, b, c, d, g1, g2, g3, g4, f1, f2, f3⟩ := wide_facts r v l h0 h1 k1 h2 h3
      by_cases hz : r = 0
      · subst hz
        have H1 := hid (least_right l h2 h3)
        have H2 := hid (most_right l h2 h3)
        have H3 := hid (g3 k0)
        have H4 := hid (g4 k0)
        obtain rfl : l = a := by have := g1.symm.trans (least_right l h2 h3); injection this with h _; exact h.symm
        obtain rfl : l = b := by have := g2.symm.trans (most_right l h2 h3); injection this with h _; exact h.symm
        obtain ⟨q1, q2⟩ := f3 k0
        clear g1 g2 g3 g4 f3 f1 f2
        have hr0 : ¬ v < 0 := by omega
        go_enter Try.func6, Try.ntmps6
        go_wp2_with fail
        refine (least_any _ _ _ _ _ H1).mono ?_
        rintro e w1 ⟨rfl, rfl⟩
        go_wp2_with fail
        refine (most_any _ _ _ _ _ H2).mono ?_
        rintro e w1 ⟨rfl, rfl⟩
        go_wp2_with fail
        refine (least_any _ _ _ _ _ H3).mono ?_
        rintro e w1 ⟨rfl, rfl⟩
        go_wp2_with fail
        refine (most_any _ _ _ _ _ H4).mono ?_
        rintro e w1 ⟨rfl, rfl⟩
        go_wp2_with fail
        refine (live_any _).mono ?_
        rintro e w9 ⟨rfl, b9⟩
        go_wp2_with fail
        go_ret
        exact ⟨rfl, b9⟩
      · have hz' : (r == 0) = false := by simpa using hz
        have H1 := hid g1
        have H2 := hid g2
        have H3 := hid (g3 k0)
        have H4 := hid (g4 k0)
        clear g1 g2 g3 g4 hz
        by_cases hlt : v < r
        · clear f3
          go_enter Try.func6, Try.ntmps6
          go_wp2_with fail
          refine (least_any _ _ _ _ _ H1).mono ?_
          rintro e w1 ⟨rfl, rfl⟩
          go_wp2_with fail
          refine (most_any _ _ _ _ _ H2).mono ?_
          rintro e w1 ⟨rfl, rfl⟩
          go_wp2_with fail
          refine (least_any _ _ _ _ _ H3).mono ?_
          rintro e w1 ⟨rfl, rfl⟩
          go_wp2_with fail
          refine (most_any _ _ _ _ _ H4).mono ?_
          rintro e w1 ⟨rfl, rfl⟩
          go_wp2_with fail
          refine (live_any _).mono ?_
          rintro e w9 ⟨rfl, b9⟩
          go_wp2_with fail
          go_ret
          exact ⟨rfl, b9⟩
        · obtain ⟨q1, q2⟩ := f3 (by omega)
          clear f3
          go_enter Try.func6, Try.ntmps6
          go_wp2_with fail
          refine (least_any _ _ _ _ _ H1).mono ?_
          rintro e w1 ⟨rfl, rfl⟩
          go_wp2_with fail
          refine (most_any _ _ _ _ _ H2).mono ?_
          rintro e w1 ⟨rfl, rfl⟩
          go_wp2_with fail
          refine (least_any _ _ _ _ _ H3).mono ?_
          rintro e w1 ⟨rfl, rfl⟩
          go_wp2_with fail
          refine (most_any _ _ _ _ _ H4).mono ?_
          rintro e w1 ⟨rfl, rfl⟩
          go_wp2_with fail
          refine (live_any _).mono ?_
          rintro e w9 ⟨rfl, b9⟩
          go_wp2_with fail
          go_ret
          exact ⟨rfl, b9⟩
    · have H1 := hid (leastP_yes r l h0 h1 h2 h3)
      have H2 := hid (mostP_yes r l h0 h1 h2 h3)
      have H3 := hid (leastP_no v l (by omega))
      have H4 := hid (mostP_no v l (by omega))
      clear hv
      go_enter Try.func6, Try.ntmps6
      go_wp2_with fail
      refine (least_any _ _ _ _ _ H1).mono ?_
      rintro e w1 ⟨rfl, rfl⟩
      go_wp2_with fail
      refine (most_any _ _ _ _ _ H2).mono ?_
      rintro e w1 ⟨rfl, rfl⟩
      go_wp2_with fail
      refine (least_any _ _ _ _ _ H3).mono ?_
      rintro e w1 ⟨rfl, rfl⟩
      go_wp2_with fail
      refine (most_any _ _ _ _ _ H4).mono ?_
      rintro e w1 ⟨rfl, rfl⟩
      go_wp2_with fail
      refine (live_any _).mono ?_
      rintro e w9 ⟨rfl, b9⟩
      go_wp2_with fail
      go_ret
      exact ⟨rfl, b9⟩
  · have H1 := hid (leastP_no r l (by omega))
    have H2 := hid (mostP_no r l (by omega))
    obtain ⟨c, e3, H3⟩ : ∃ a e, Hid (leastP v l = (a, e)) := ⟨_, _, rfl⟩
    obtain ⟨d, e4, H4⟩ : ∃ a e, Hid (mostP v l = (a, e)) := ⟨_, _, rfl⟩
    clear hb
    go_enter Try.func6, Try.ntmps6
    go_wp2_with fail
    refine (least_any _ _ _ _ _ H1).mono ?_
    rintro e w1 ⟨rfl, rfl⟩
    go_wp2_with fail
    refine (most_any _ _ _ _ _ H2).mono ?_
    rintro e w1 ⟨rfl, rfl⟩
    go_wp2_with fail
    refine (least_any _ _ _ _ _ H3).mono ?_
    rintro e w1 ⟨rfl, rfl⟩
    go_wp2_with fail
    refine (most_any _ _ _ _ _ H4).mono ?_
    rintro e w1 ⟨rfl, rfl⟩
    go_wp2_with fail
    refine (live_any _).mono ?_
    rintro e w9 ⟨rfl, b9⟩
    go_wp2_with fail
    go_ret
    exact ⟨rfl, b9⟩

theorem below_box {w w' : World} {o : Obj} {k : Nat} (h : Below ((w.alloc o).drewN k).heap.size ((w.alloc o).drewN k) w') : Below w.heap.size w w' :=
  (below_drewN ((Below.refl _ _).alloc (Nat.le_refl _) o) k).trans (h.mono (by simp))

set_option maxHeartbeats 1600000 in
theorem window_walk (r x t m : Int) (w : World) :
    Calls Try.prog 7 #[.agg #[.int .i64 r, .int .i64 x, .int .i64 t, .int .i64 m]] w fun e w' => e = .returned (.bool true) ∧ Below w.heap.size w w' := by
  by_cases hb : 0 ≤ r ∧ r ≤ 100000 ∧ 0 ≤ x ∧ x ≤ 2147483647 ∧ 0 ≤ t ∧ t ≤ 2147483647
  · obtain ⟨h0, h1, h2, h3, h4, h5⟩ := hb
    obtain ⟨a, H1⟩ : ∃ a, Hid (windowP r x t = (a, 0)) := ⟨_, windowP_yes r x t h0 h1 h2 h3 h4 h5⟩
    by_cases m0 : m < 0
    · skip
      go_enter Try.func7, Try.ntmps7
      go_wp2_with fail
      go_quiet (fail)
      go_wp2_with fail
      refine (window_any _ _ _ _ _ _ H1).mono ?_
      rintro e w1 ⟨rfl, rfl⟩
      go_wp2_with fail
      refine (live_any _).mono ?_
      rintro e w9 ⟨rfl, b9⟩
      go_wp2_with fail
      go_ret
      exact ⟨rfl, below_box b9⟩
    by_cases m1 : 1000 < m
    · skip
      go_enter Try.func7, Try.ntmps7
      go_wp2_with fail
      go_quiet (fail)
      go_wp2_with fail
      refine (window_any _ _ _ _ _ _ H1).mono ?_
      rintro e w1 ⟨rfl, rfl⟩
      go_wp2_with fail
      refine (live_any _).mono ?_
      rintro e w9 ⟨rfl, b9⟩
      go_wp2_with fail
      go_ret
      exact ⟨rfl, below_box b9⟩
    have H4 := hid (window_right x t h2 h3 h4 h5)
    have ha : x + t ≤ a := by
      have := H1.out.symm.trans (windowP_yes r x t h0 h1 h2 h3 h4 h5)
      injection this with e _
      have z := window_mono 0 r x x t (by omega) h0 h1 h2 (by omega) h4
      have u := H4.out.symm.trans (windowP_yes 0 x t (by omega) (by omega) h2 h3 h4 h5)
      injection u with u _
      omega
    have n0 : 0 ≤ m := by omega
    have n1 : m ≤ 1000 := by omega
    clear m0 m1
    have hb2 : r + m ≤ 100000 → ∃ b, windowP (r + m) x t = (b, 0) ∧ a ≤ b := fun hle =>
      ⟨_, windowP_yes (r + m) x t (by omega) hle h2 h3 h4 h5, by
        have := H1.out.symm.trans (windowP_yes r x t h0 h1 h2 h3 h4 h5)
        injection this with e _
        have z := window_mono r (r + m) x x t h0 (by omega) hle h2 (by omega) h4
        omega⟩
    have hb3 : x + m ≤ 2147483647 → ∃ c, windowP r (x + m) t = (c, 0) ∧ a ≤ c := fun hle =>
      ⟨_, windowP_yes r (x + m) t h0 h1 (by omega) hle h4 h5, by
        have := H1.out.symm.trans (windowP_yes r x t h0 h1 h2 h3 h4 h5)
        injection this with e _
        have z := window_mono r r x (x + m) t h0 (by omega) h1 h2 (by omega) h4
        omega⟩
    by_cases c2 : r + m ≤ 100000
    · obtain ⟨b, hb2', hab⟩ := hb2 c2
      have H2 := hid hb2'
      clear hb2 hb2'
      by_cases c3 : x + m ≤ 2147483647
      · obtain ⟨c, hb3', hac⟩ := hb3 c3
        have H3 := hid hb3'
        clear hb3 hb3'
        go_enter Try.func7, Try.ntmps7
        go_wp2_with fail
        go_quiet (fail)
        go_wp2_with fail
        refine (window_any _ _ _ _ _ _ H1).mono ?_
        rintro e w1 ⟨rfl, rfl⟩
        go_wp2_with fail
        refine (window_any _ _ _ _ _ _ H2).mono ?_
        rintro e w1 ⟨rfl, rfl⟩
        go_wp2_with fail
        refine (window_any _ _ _ _ _ _ H3).mono ?_
        rintro e w1 ⟨rfl, rfl⟩
        go_wp2_with fail
        refine (window_any _ _ _ _ _ _ H4).mono ?_
        rintro e w1 ⟨rfl, rfl⟩
        go_wp2_with fail
        refine (live_any _).mono ?_
        rintro e w9 ⟨rfl, b9⟩
        go_wp2_with fail
        go_ret
        exact ⟨rfl, below_box b9⟩
      · have H3 := hid (windowP_no r (x + m) t (by omega))
        clear hb3 c3
        go_enter Try.func7, Try.ntmps7
        go_wp2_with fail
        go_quiet (fail)
        go_wp2_with fail
        refine (window_any _ _ _ _ _ _ H1).mono ?_
        rintro e w1 ⟨rfl, rfl⟩
        go_wp2_with fail
        refine (window_any _ _ _ _ _ _ H2).mono ?_
        rintro e w1 ⟨rfl, rfl⟩
        go_wp2_with fail
        refine (window_any _ _ _ _ _ _ H3).mono ?_
        rintro e w1 ⟨rfl, rfl⟩
        go_wp2_with fail
        refine (window_any _ _ _ _ _ _ H4).mono ?_
        rintro e w1 ⟨rfl, rfl⟩
        go_wp2_with fail
        refine (live_any _).mono ?_
        rintro e w9 ⟨rfl, b9⟩
        go_wp2_with fail
        go_ret
        exact ⟨rfl, below_box b9⟩
    · have H2 := hid (windowP_no (r + m) x t (by omega))
      clear hb2 c2
      by_cases c3 : x + m ≤ 2147483647
      · obtain ⟨c, hb3', hac⟩ := hb3 c3
        have H3 := hid hb3'
        clear hb3 hb3'
        go_enter Try.func7, Try.ntmps7
        go_wp2_with fail
        go_quiet (fail)
        go_wp2_with fail
        refine (window_any _ _ _ _ _ _ H1).mono ?_
        rintro e w1 ⟨rfl, rfl⟩
        go_wp2_with fail
        refine (window_any _ _ _ _ _ _ H2).mono ?_
        rintro e w1 ⟨rfl, rfl⟩
        go_wp2_with fail
        refine (window_any _ _ _ _ _ _ H3).mono ?_
        rintro e w1 ⟨rfl, rfl⟩
        go_wp2_with fail
        refine (window_any _ _ _ _ _ _ H4).mono ?_
        rintro e w1 ⟨rfl, rfl⟩
        go_wp2_with fail
        refine (live_any _).mono ?_
        rintro e w9 ⟨rfl, b9⟩
        go_wp2_with fail
        go_ret
        exact ⟨rfl, below_box b9⟩
      · have H3 := hid (windowP_no r (x + m) t (by omega))
        clear hb3 c3
        go_enter Try.func7, Try.ntmps7
        go_wp2_with fail
        go_quiet (fail)
        go_wp2_with fail
        refine (window_any _ _ _ _ _ _ H1).mono ?_
        rintro e w1 ⟨rfl, rfl⟩
        go_wp2_with fail
        refine (window_any _ _ _ _ _ _ H2).mono ?_
        rintro e w1 ⟨rfl, rfl⟩
        go_wp2_with fail
        refine (window_any _ _ _ _ _ _ H3).mono ?_
        rintro e w1 ⟨rfl, rfl⟩
        go_wp2_with fail
        refine (window_any _ _ _ _ _ _ H4).mono ?_
        rintro e w1 ⟨rfl, rfl⟩
        go_wp2_with fail
        refine (live_any _).mono ?_
        rintro e w9 ⟨rfl, b9⟩
        go_wp2_with fail
        go_ret
        exact ⟨rfl, below_box b9⟩
  · have H1 := hid (windowP_no r x t (by omega))
    clear hb
    go_enter Try.func7, Try.ntmps7
    go_wp2_with fail
    go_quiet (fail)
    go_wp2_with fail
    refine (window_any _ _ _ _ _ _ H1).mono ?_
    rintro e w1 ⟨rfl, rfl⟩
    go_wp2_with fail
    refine (live_any _).mono ?_
    rintro e w9 ⟨rfl, b9⟩
    go_wp2_with fail
    go_ret
    exact ⟨rfl, below_box b9⟩

end Go.Proofs.Ytfkippkfdepbkaa
