/-
  The walks of the five statements on serials: each returns true at any numbers, and below the heap's size at the call nothing has turned.
-/
import Derived.Test.YteaiehoclgpdhaaRefs
namespace Go.Proofs.Yteaiehoclgpdhaa
open Go.RowKit

set_option maxHeartbeats 400000 in
theorem adds_walk (a n : Int) (w : World) :
    Calls Try.prog 3 #[.int .i64 a, .int .i64 n] w fun e w' => e = .returned (.bool true) ∧ Below w.heap.size w w' := by
  obtain ⟨x, er, H⟩ : ∃ x er, Hid (addP a n = (x, er)) := ⟨_, _, rfl⟩
  go_enter Try.func3, Try.ntmps3
  go_wp2_with fail
  refine (add_any _ _ _ _ _ H).mono ?_
  rintro e w1 ⟨rfl, b1⟩
  go_wp2_with fail
  refine (addR_any _ _ _ _ _ H).mono ?_
  rintro e w1 ⟨rfl, rfl⟩
  go_wp2_with fail
  refine (live_any _).mono ?_
  rintro e w2 ⟨rfl, b2⟩
  go_wp2_with fail
  go_ret
  exact ⟨rfl, b1.trans (b2.mono b1.size)⟩

set_option maxHeartbeats 400000 in
theorem compares_walk (a b : Int) (w : World) :
    Calls Try.prog 4 #[.int .i64 a, .int .i64 b] w fun e w' => e = .returned (.bool true) ∧ Below w.heap.size w w' := by
  obtain ⟨x, er, H⟩ : ∃ x er, Hid (cmpP a b = (x, er)) := ⟨_, _, rfl⟩
  obtain ⟨t, HT⟩ : ∃ t, Hid (laterB a b = t) := ⟨_, rfl⟩
  go_enter Try.func4, Try.ntmps4
  go_wp2_with fail
  refine (cmp_any _ _ _ _ _ H).mono ?_
  rintro e w1 ⟨rfl, b1⟩
  go_wp2_with fail
  refine (cmpR_any _ _ _ _ _ H).mono ?_
  rintro e w1 ⟨rfl, rfl⟩
  go_wp2_with fail
  refine (later_any _ _ _ _ HT).mono ?_
  rintro e w2 ⟨rfl, b2⟩
  go_wp2_with fail
  refine (laterR_any _ _ _ _ HT).mono ?_
  rintro e w2 ⟨rfl, rfl⟩
  go_wp2_with fail
  refine (live_any _).mono ?_
  rintro e w3 ⟨rfl, b3⟩
  go_wp2_with fail
  go_ret
  have s1 := b1.size
  have s2 := b2.size
  exact ⟨rfl, b1.trans ((b2.mono s1).trans (b3.mono (by omega)))⟩

/-! ### The plain laws -/
theorem later_added (a n x : Int) (h0 : 0 ≤ a) (h1 : a ≤ 4294967295) (h2 : 0 ≤ n) (h3 : n ≤ 2147483647) (hx : x = (a + n) % 4294967296) : laterB x a = decide (0 < n) := by
  rcases cmpP_cases x a with ⟨c, h4⟩ | ⟨c0, c1, c2, c3, ⟨c, h4⟩ | ⟨c, c', h4⟩ | ⟨c, h4⟩ | ⟨c, h4⟩⟩ <;> rw [later_eq _ _ _ _ h4] <;> by_cases hn : 0 < n <;> simp [hn] <;> omega
theorem not_later_added (a n x : Int) (h2 : 0 ≤ n) (h3 : n ≤ 2147483647) (hx : x = (a + n) % 4294967296) : laterB a x = false := by
  rcases cmpP_cases a x with ⟨c, h4⟩ | ⟨c0, c1, c2, c3, ⟨c, h4⟩ | ⟨c, c', h4⟩ | ⟨c, h4⟩ | ⟨c, h4⟩⟩ <;> rw [later_eq _ _ _ _ h4] <;> simp <;> omega

set_option maxHeartbeats 800000 in
theorem later_walk (a n m : Int) (w : World) :
    Calls Try.prog 5 #[.int .i64 a, .int .i64 n, .int .i64 m] w fun e w' => e = .returned (.bool true) ∧ Below w.heap.size w w' := by
  rcases addP_cases a n with ⟨h0, h1, h2, h3, h4⟩ | ⟨h0, h4⟩
  · obtain ⟨x, hx⟩ : ∃ x, x = (a + n) % 4294967296 := ⟨_, rfl⟩
    have H1 : Hid (addP a n = (x, 0)) := by show _ = _; rw [h4, hx]
    have L1 := hid (later_added a n x h0 h1 h2 h3 hx)
    have L2 := hid (not_later_added a n x h2 h3 hx)
    have x0 : 0 ≤ x := by omega
    have x1 : x ≤ 4294967295 := by omega
    clear h4
    rcases addP_cases x m with ⟨k0, k1, k2, k3, k4⟩ | ⟨k0, k4⟩
    · obtain ⟨y, hy⟩ : ∃ y, y = (x + m) % 4294967296 := ⟨_, rfl⟩
      have H2 : Hid (addP x m = (y, 0)) := by show _ = _; rw [k4, hy]
      by_cases hs : n + m ≤ 2147483647
      · have H3 : Hid (addP a (n + m) = (y, 0)) := by
          show _ = _
          rw [addP_yes a (n + m) h0 h1 (by omega) hs, hy, hx]
          congr 1
          omega
        clear hx hy k4
        go_enter Try.func5, Try.ntmps5
        go_wp2_with fail
        refine (add_any _ _ _ _ _ H1).mono ?_
        rintro e w1 ⟨rfl, b1⟩
        go_wp2_with fail
        refine (later_any _ _ _ _ L1).mono ?_
        rintro e w2 ⟨rfl, b2⟩
        go_wp2_with fail
        refine (later_any _ _ _ _ L2).mono ?_
        rintro e w3 ⟨rfl, b3⟩
        go_wp2_with fail
        refine (add_any _ _ _ _ _ H2).mono ?_
        rintro e w4 ⟨rfl, b4⟩
        go_wp2_with fail
        refine (add_any _ _ _ _ _ H3).mono ?_
        rintro e w5 ⟨rfl, b5⟩
        go_wp2_with fail
        refine (live_any _).mono ?_
        rintro e w6 ⟨rfl, b6⟩
        go_wp2_with fail
        go_ret
        have s1 := b1.size
        have s2 := b2.size
        have s3 := b3.size
        have s4 := b4.size
        have s5 := b5.size
        exact ⟨rfl, b1.trans ((b2.mono (by omega)).trans ((b3.mono (by omega)).trans ((b4.mono (by omega)).trans ((b5.mono (by omega)).trans (b6.mono (by omega))))))⟩
      · have hs' : 2147483647 < n + m := by omega
        clear hx hy k4 hs
        go_enter Try.func5, Try.ntmps5
        go_wp2_with fail
        refine (add_any _ _ _ _ _ H1).mono ?_
        rintro e w1 ⟨rfl, b1⟩
        go_wp2_with fail
        refine (later_any _ _ _ _ L1).mono ?_
        rintro e w2 ⟨rfl, b2⟩
        go_wp2_with fail
        refine (later_any _ _ _ _ L2).mono ?_
        rintro e w3 ⟨rfl, b3⟩
        go_wp2_with fail
        refine (add_any _ _ _ _ _ H2).mono ?_
        rintro e w4 ⟨rfl, b4⟩
        go_wp2_with fail
        refine (live_any _).mono ?_
        rintro e w6 ⟨rfl, b6⟩
        go_wp2_with fail
        go_ret
        have s1 := b1.size
        have s2 := b2.size
        have s3 := b3.size
        have s4 := b4.size
        exact ⟨rfl, b1.trans ((b2.mono (by omega)).trans ((b3.mono (by omega)).trans ((b4.mono (by omega)).trans (b6.mono (by omega)))))⟩
    · have H2 := hid k4
      clear hx k4 k0
      go_enter Try.func5, Try.ntmps5
      go_wp2_with fail
      refine (add_any _ _ _ _ _ H1).mono ?_
      rintro e w1 ⟨rfl, b1⟩
      go_wp2_with fail
      refine (later_any _ _ _ _ L1).mono ?_
      rintro e w2 ⟨rfl, b2⟩
      go_wp2_with fail
      refine (later_any _ _ _ _ L2).mono ?_
      rintro e w3 ⟨rfl, b3⟩
      go_wp2_with fail
      refine (add_any _ _ _ _ _ H2).mono ?_
      rintro e w4 ⟨rfl, b4⟩
      go_wp2_with fail
      refine (live_any _).mono ?_
      rintro e w6 ⟨rfl, b6⟩
      go_wp2_with fail
      go_ret
      have s1 := b1.size
      have s2 := b2.size
      have s3 := b3.size
      have s4 := b4.size
      exact ⟨rfl, b1.trans ((b2.mono (by omega)).trans ((b3.mono (by omega)).trans ((b4.mono (by omega)).trans (b6.mono (by omega)))))⟩
  · have H1 := hid h4
    clear h4 h0
    go_enter Try.func5, Try.ntmps5
    go_wp2_with fail
    refine (add_any _ _ _ _ _ H1).mono ?_
    rintro e w1 ⟨rfl, b1⟩
    go_wp2_with fail
    refine (live_any _).mono ?_
    rintro e w6 ⟨rfl, b6⟩
    go_wp2_with fail
    go_ret
    exact ⟨rfl, b1.trans (b6.mono b1.size)⟩

theorem cmp_flip (a b x er : Int) (h : cmpP a b = (x, er)) : cmpP b a = (-x, er) := by
  rcases cmpP_cases a b with ⟨c, h4⟩ | ⟨c0, c1, c2, c3, ⟨c, h4⟩ | ⟨c, c', h4⟩ | ⟨c, h4⟩ | ⟨c, h4⟩⟩ <;> rw [h4] at h <;> injection h with hx he <;> subst hx he <;>
    rcases cmpP_cases b a with ⟨d, g4⟩ | ⟨d0, d1, d2, d3, ⟨d, g4⟩ | ⟨d, d', g4⟩ | ⟨d, g4⟩ | ⟨d, g4⟩⟩ <;> rw [g4] <;> first | rfl | (exfalso; omega)
theorem cmp_moved (a b n c d x er : Int) (h0 : 0 ≤ a) (h1 : a ≤ 4294967295) (h2 : 0 ≤ b) (h3 : b ≤ 4294967295) (hc : c = (a + n) % 4294967296) (hd : d = (b + n) % 4294967296) (h : cmpP a b = (x, er)) : cmpP c d = (x, er) := by
  have hw : (d - c) % 4294967296 = (b - a) % 4294967296 := by omega
  have k1 : 0 ≤ c ∧ c ≤ 4294967295 ∧ 0 ≤ d ∧ d ≤ 4294967295 := by omega
  have k2 : 0 ≤ a ∧ a ≤ 4294967295 ∧ 0 ≤ b ∧ b ≤ 4294967295 := ⟨h0, h1, h2, h3⟩
  rw [← h]
  unfold cmpP
  rw [if_pos k1, if_pos k2, hw]
theorem cmp_same_iff (a b x er : Int) (h : cmpP a b = (x, er)) (he : er = 0) : (x == 0) = (a == b) := by
  rw [Bool.eq_iff_iff]
  rcases cmpP_cases a b with ⟨c, h4⟩ | ⟨c0, c1, c2, c3, ⟨c, h4⟩ | ⟨c, c', h4⟩ | ⟨c, h4⟩ | ⟨c, h4⟩⟩ <;> rw [h4] at h <;> injection h with hx he' <;> subst hx he' <;> simp at he ⊢ <;> omega
theorem cmp_range (a b x er : Int) (h : cmpP a b = (x, er)) : -1 ≤ x ∧ x ≤ 1 ∧ ((er = 1 ∧ (a < 0 ∨ 4294967295 < a ∨ b < 0 ∨ 4294967295 < b)) ∨ ((er = 0 ∨ er = 5) ∧ 0 ≤ a ∧ a ≤ 4294967295 ∧ 0 ≤ b ∧ b ≤ 4294967295)) := by
  rcases cmpP_cases a b with ⟨c, h4⟩ | ⟨c0, c1, c2, c3, ⟨c, h4⟩ | ⟨c, c', h4⟩ | ⟨c, h4⟩ | ⟨c, h4⟩⟩ <;> rw [h4] at h <;> injection h with hx he <;> subst hx he <;> omega

set_option maxHeartbeats 1000000 in
theorem turned_walk (a b n : Int) (w : World) :
    Calls Try.prog 6 #[.int .i64 a, .int .i64 b, .int .i64 n] w fun e w' => e = .returned (.bool true) ∧ Below w.heap.size w w' := by
  obtain ⟨x, er, h⟩ : ∃ x er, cmpP a b = (x, er) := ⟨_, _, rfl⟩
  have H1 := hid h
  have H2 := hid (cmp_flip a b x er h)
  obtain ⟨x0, x1, hr⟩ := cmp_range a b x er h
  rcases hr with ⟨rfl, _⟩ | ⟨he, h0, h1, h2, h3⟩
  · clear h
    obtain ⟨c, g, HC⟩ : ∃ c g, Hid (addP a n = (c, g)) := ⟨_, _, rfl⟩
    obtain ⟨d, k, HD⟩ : ∃ d k, Hid (addP b n = (d, k)) := ⟨_, _, rfl⟩
    go_enter Try.func6, Try.ntmps6
    go_wp2_with fail
    refine (cmp_any _ _ _ _ _ H1).mono ?_
    rintro e w1 ⟨rfl, b1⟩
    go_wp2_with fail
    refine (cmp_any _ _ _ _ _ H2).mono ?_
    rintro e w2 ⟨rfl, b2⟩
    go_wp2_with fail
    refine (add_any _ _ _ _ _ HC).mono ?_
    rintro e w3 ⟨rfl, b3⟩
    go_wp2_with fail
    refine (add_any _ _ _ _ _ HD).mono ?_
    rintro e w4 ⟨rfl, b4⟩
    go_wp2_with fail
    refine (live_any _).mono ?_
    rintro e w5 ⟨rfl, b5⟩
    go_wp2_with fail
    go_ret
    have s1 := b1.size
    have s2 := b2.size
    have s3 := b3.size
    have s4 := b4.size
    exact ⟨rfl, b1.trans ((b2.mono (by omega)).trans ((b3.mono (by omega)).trans ((b4.mono (by omega)).trans (b5.mono (by omega)))))⟩
  · rcases he with rfl | rfl
    · have hs := cmp_same_iff a b x 0 h rfl
      by_cases hn : 0 ≤ n ∧ n ≤ 2147483647
      · obtain ⟨n0, n1⟩ := hn
        obtain ⟨c, hc⟩ : ∃ c, c = (a + n) % 4294967296 := ⟨_, rfl⟩
        obtain ⟨d, hd⟩ : ∃ d, d = (b + n) % 4294967296 := ⟨_, rfl⟩
        have HC : Hid (addP a n = (c, 0)) := by show _ = _; rw [addP_yes a n h0 h1 n0 n1, hc]
        have HD : Hid (addP b n = (d, 0)) := by show _ = _; rw [addP_yes b n h2 h3 n0 n1, hd]
        have HM := hid (cmp_moved a b n c d x 0 h0 h1 h2 h3 hc hd h)
        clear hc hd h
        go_enter Try.func6, Try.ntmps6
        go_wp2_with fail
        refine (cmp_any _ _ _ _ _ H1).mono ?_
        rintro e w1 ⟨rfl, b1⟩
        go_wp2_with fail
        refine (cmp_any _ _ _ _ _ H2).mono ?_
        rintro e w2 ⟨rfl, b2⟩
        go_wp2_with fail
        refine (add_any _ _ _ _ _ HC).mono ?_
        rintro e w3 ⟨rfl, b3⟩
        go_wp2_with fail
        refine (add_any _ _ _ _ _ HD).mono ?_
        rintro e w4 ⟨rfl, b4⟩
        go_wp2_with fail
        refine (cmp_any _ _ _ _ _ HM).mono ?_
        rintro e w5 ⟨rfl, b5⟩
        go_wp2_with fail
        refine (live_any _).mono ?_
        rintro e w6 ⟨rfl, b6⟩
        go_wp2_with fail
        go_ret
        have s1 := b1.size
        have s2 := b2.size
        have s3 := b3.size
        have s4 := b4.size
        have s5 := b5.size
        exact ⟨rfl, b1.trans ((b2.mono (by omega)).trans ((b3.mono (by omega)).trans ((b4.mono (by omega)).trans ((b5.mono (by omega)).trans (b6.mono (by omega))))))⟩
      · have HC := hid (addP_no a n (by omega))
        have HD := hid (addP_no b n (by omega))
        clear hn h
        go_enter Try.func6, Try.ntmps6
        go_wp2_with fail
        refine (cmp_any _ _ _ _ _ H1).mono ?_
        rintro e w1 ⟨rfl, b1⟩
        go_wp2_with fail
        refine (cmp_any _ _ _ _ _ H2).mono ?_
        rintro e w2 ⟨rfl, b2⟩
        go_wp2_with fail
        refine (add_any _ _ _ _ _ HC).mono ?_
        rintro e w3 ⟨rfl, b3⟩
        go_wp2_with fail
        refine (add_any _ _ _ _ _ HD).mono ?_
        rintro e w4 ⟨rfl, b4⟩
        go_wp2_with fail
        refine (live_any _).mono ?_
        rintro e w5 ⟨rfl, b5⟩
        go_wp2_with fail
        go_ret
        have s1 := b1.size
        have s2 := b2.size
        have s3 := b3.size
        have s4 := b4.size
        exact ⟨rfl, b1.trans ((b2.mono (by omega)).trans ((b3.mono (by omega)).trans ((b4.mono (by omega)).trans (b5.mono (by omega)))))⟩
    · skip
      by_cases hn : 0 ≤ n ∧ n ≤ 2147483647
      · obtain ⟨n0, n1⟩ := hn
        obtain ⟨c, hc⟩ : ∃ c, c = (a + n) % 4294967296 := ⟨_, rfl⟩
        obtain ⟨d, hd⟩ : ∃ d, d = (b + n) % 4294967296 := ⟨_, rfl⟩
        have HC : Hid (addP a n = (c, 0)) := by show _ = _; rw [addP_yes a n h0 h1 n0 n1, hc]
        have HD : Hid (addP b n = (d, 0)) := by show _ = _; rw [addP_yes b n h2 h3 n0 n1, hd]
        have HM := hid (cmp_moved a b n c d x 5 h0 h1 h2 h3 hc hd h)
        clear hc hd h
        go_enter Try.func6, Try.ntmps6
        go_wp2_with fail
        refine (cmp_any _ _ _ _ _ H1).mono ?_
        rintro e w1 ⟨rfl, b1⟩
        go_wp2_with fail
        refine (cmp_any _ _ _ _ _ H2).mono ?_
        rintro e w2 ⟨rfl, b2⟩
        go_wp2_with fail
        refine (add_any _ _ _ _ _ HC).mono ?_
        rintro e w3 ⟨rfl, b3⟩
        go_wp2_with fail
        refine (add_any _ _ _ _ _ HD).mono ?_
        rintro e w4 ⟨rfl, b4⟩
        go_wp2_with fail
        refine (cmp_any _ _ _ _ _ HM).mono ?_
        rintro e w5 ⟨rfl, b5⟩
        go_wp2_with fail
        refine (live_any _).mono ?_
        rintro e w6 ⟨rfl, b6⟩
        go_wp2_with fail
        go_ret
        have s1 := b1.size
        have s2 := b2.size
        have s3 := b3.size
        have s4 := b4.size
        have s5 := b5.size
        exact ⟨rfl, b1.trans ((b2.mono (by omega)).trans ((b3.mono (by omega)).trans ((b4.mono (by omega)).trans ((b5.mono (by omega)).trans (b6.mono (by omega))))))⟩
      · have HC := hid (addP_no a n (by omega))
        have HD := hid (addP_no b n (by omega))
        clear hn h
        go_enter Try.func6, Try.ntmps6
        go_wp2_with fail
        refine (cmp_any _ _ _ _ _ H1).mono ?_
        rintro e w1 ⟨rfl, b1⟩
        go_wp2_with fail
        refine (cmp_any _ _ _ _ _ H2).mono ?_
        rintro e w2 ⟨rfl, b2⟩
        go_wp2_with fail
        refine (add_any _ _ _ _ _ HC).mono ?_
        rintro e w3 ⟨rfl, b3⟩
        go_wp2_with fail
        refine (add_any _ _ _ _ _ HD).mono ?_
        rintro e w4 ⟨rfl, b4⟩
        go_wp2_with fail
        refine (live_any _).mono ?_
        rintro e w5 ⟨rfl, b5⟩
        go_wp2_with fail
        go_ret
        have s1 := b1.size
        have s2 := b2.size
        have s3 := b3.size
        have s4 := b4.size
        exact ⟨rfl, b1.trans ((b2.mono (by omega)).trans ((b3.mono (by omega)).trans ((b4.mono (by omega)).trans (b5.mono (by omega)))))⟩

set_option maxHeartbeats 800000 in
theorem round_walk (a n : Int) (w : World) :
    Calls Try.prog 7 #[.int .i64 a, .int .i64 n] w fun e w' => e = .returned (.bool true) ∧ Below w.heap.size w w' := by
  by_cases n0 : n < 1
  · go_enter Try.func7, Try.ntmps7
    go_wp2_with fail
    refine (live_any _).mono ?_
    rintro e w1 ⟨rfl, b1⟩
    go_wp2_with fail
    go_ret
    exact ⟨rfl, (b1)⟩
  by_cases n1 : 2147483647 < n
  · go_enter Try.func7, Try.ntmps7
    go_wp2_with fail
    refine (live_any _).mono ?_
    rintro e w1 ⟨rfl, b1⟩
    go_wp2_with fail
    go_ret
    exact ⟨rfl, (b1)⟩
  rcases addP_cases a n with ⟨h0, h1, h2, h3, h4⟩ | ⟨h0, h4⟩
  · obtain ⟨b, hb⟩ : ∃ b, b = (a + n) % 4294967296 := ⟨_, rfl⟩
    obtain ⟨c, hc⟩ : ∃ c, c = (b + 2147483647) % 4294967296 := ⟨_, rfl⟩
    obtain ⟨d, hd⟩ : ∃ d, d = (c + (2147483647 - n)) % 4294967296 := ⟨_, rfl⟩
    have H1 : Hid (addP a n = (b, 0)) := by show _ = _; rw [h4, hb]
    have H2 : Hid (addP b 2147483647 = (c, 0)) := by show _ = _; rw [addP_yes b _ (by omega) (by omega) (by omega) (by omega), hc]
    have H3 : Hid (addP c (2147483647 - n) = (d, 0)) := by show _ = _; rw [addP_yes c _ (by omega) (by omega) (by omega) (by omega), hd]
    have H4 : Hid (addP d 2 = (a, 0)) := by
      show _ = _
      rw [addP_yes d _ (by omega) (by omega) (by omega) (by omega)]
      congr 1
      omega
    clear hb hc hd h4
    go_enter Try.func7, Try.ntmps7
    go_wp2_with fail
    refine (add_any _ _ _ _ _ H1).mono ?_
    rintro e w1 ⟨rfl, b1⟩
    go_wp2_with fail
    refine (add_any _ _ _ _ _ H2).mono ?_
    rintro e w2 ⟨rfl, b2⟩
    go_wp2_with fail
    refine (add_any _ _ _ _ _ H3).mono ?_
    rintro e w3 ⟨rfl, b3⟩
    go_wp2_with fail
    refine (add_any _ _ _ _ _ H4).mono ?_
    rintro e w4 ⟨rfl, b4⟩
    go_wp2_with fail
    refine (live_any _).mono ?_
    rintro e w5 ⟨rfl, b5⟩
    go_wp2_with fail
    go_ret
    have s1 := b1.size
    have s2 := b2.size
    have s3 := b3.size
    have s4 := b4.size
    exact ⟨rfl, b1.trans ((b2.mono (by omega)).trans ((b3.mono (by omega)).trans ((b4.mono (by omega)).trans (b5.mono (by omega)))))⟩
  · have H1 := hid h4
    clear h4 h0
    go_enter Try.func7, Try.ntmps7
    go_wp2_with fail
    refine (add_any _ _ _ _ _ H1).mono ?_
    rintro e w1 ⟨rfl, b1⟩
    go_wp2_with fail
    refine (live_any _).mono ?_
    rintro e w2 ⟨rfl, b2⟩
    go_wp2_with fail
    go_ret
    have s1 := b1.size
    exact ⟨rfl, b1.trans (b2.mono (by omega))⟩

end Go.Proofs.Yteaiehoclgpdhaa
