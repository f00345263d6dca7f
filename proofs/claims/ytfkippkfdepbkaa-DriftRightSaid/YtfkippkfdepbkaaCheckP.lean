/-
  The contract of drift.Check, over the translation.
-/
import Derived.Test.YtfkippkfdepbkaaCheck
namespace Go.Proofs.Ytfkippkfdepbkaa
open Go.RowKit

set_option maxHeartbeats 1000000 in
theorem check_pairs (r v : Int) (a : Option Addr) (n cap : Nat) (T C : Nat → Int) (w : World) (h0 : 0 ≤ r) (h1 : r ≤ 100000) (hn : n ≤ 200)
    (hr : Rd w w.heap.size a n T C) (ht : ∀ i, i < n → timeOk (T i) (C i))
    (hv : ((∀ j, j + 1 < n → pairOk r (T j) (T (j + 1)) (C j) (C (j + 1))) ∧ v = 0) ∨ ((∃ j, j + 1 < n ∧ ¬ pairOk r (T j) (T (j + 1)) (C j) (C (j + 1))) ∧ v = 8)) :
    Calls Try.prog 10 #[.int .i64 r, .slice a n cap] w fun e w' => e = .returned (.int .i64 v) ∧ Below w.heap.size w w' := by
  have HR := hid hr
  have HT := hid ht
  have HV := hid hv
  clear hr ht hv
  go_enter Try.func10, Try.ntmps10
  go_wp2_with fail
  refine (within_yes _ _ _ (by omega) (by omega)).mono ?_
  rintro e w1 ⟨rfl, rfl⟩
  go_wp2_with fail
  go_loopw [15] (fun i wr => ∃ k : Nat, k ≤ n ∧ i = .int .i64 k ∧ Below w.heap.size w wr) (fun i _ => n - (intOf i).toNat)
  case atStart => exact ⟨0, Nat.zero_le _, rfl, Below.refl _ _⟩
  case round =>
    obtain ⟨k, hk, rfl, hbel⟩ := hrel
    by_cases hlt : k < n
    · obtain ⟨t0, t1, c0, c1⟩ := HT.out k hlt
      obtain ⟨b, off, rfl, e0, e1⟩ := (HR.out.below hbel).at_ hlt
      generalize T k = t at t0 t1 e0
      generalize C k = c at c0 c1 e1
      go_wp2_with fail
      refine (within_yes _ _ _ (by omega) (by omega)).mono ?_
      rintro e w1 ⟨rfl, rfl⟩
      go_wp2_with fail
      refine (within_yes _ _ _ (by omega) (by omega)).mono ?_
      rintro e w1 ⟨rfl, rfl⟩
      go_wp2_with fail
      go_roundw
      case rel => exact ⟨k + 1, by omega, by go_num, hbel.alloc hbel.size _⟩
      case measure => simp [intOf]; omega
    · obtain rfl : k = n := by omega
      clear hk hlt
      by_cases hz : k = 0
      · subst hz
        obtain rfl : v = 0 := by
          rcases HV.out with ⟨_, rfl⟩ | ⟨⟨i, hi, hbad⟩, _⟩
          · rfl
          · omega
        go_wp2_with fail
        go_loop [34] (fun i => i = .int .i64 0) (fun _ => 0)
        case atStart => rfl
        case round =>
          obtain rfl := hrel
          go_wp2_with fail
          go_ret
          exact ⟨rfl, hbel⟩
      · have hz' : 1 ≤ k := by omega
        clear hz
        have hb0 := hid hbel
        clear hbel
        obtain ⟨wo, rfl⟩ : ∃ wo : World, wo = wr := ⟨_, rfl⟩
        go_wp2_with fail
        go_loopw [34] (fun i wr => ∃ j : Nat, j + 1 ≤ k ∧ i = .int .i64 j ∧ Below w.heap.size w wr ∧ Hid (∀ i, i < j → pairOk r (T i) (T (i + 1)) (C i) (C (i + 1)))) (fun i _ => k - (intOf i).toNat)
        case atStart => exact ⟨0, by omega, by go_num, hb0.out, fun i hi => absurd hi (by omega)⟩
        case round =>
          obtain ⟨j, hj, rfl, hbel, hall⟩ := hrel
          by_cases hlt : j + 1 < k
          · obtain ⟨b, off, rfl, e0, e1, f0, f1⟩ := (HR.out.below hbel).two (i := j) (j := j + 1) (by omega) (by omega)
            obtain ⟨t0, t1, c0, c1⟩ := HT.out j (by omega)
            obtain ⟨s0, s1, d0, d1⟩ := HT.out (j + 1) (by omega)
            by_cases hp : pairOk r (T j) (T (j + 1)) (C j) (C (j + 1))
            · have hall' : Hid (∀ i, i < j + 1 → pairOk r (T i) (T (i + 1)) (C i) (C (i + 1))) := by
                intro i hi
                by_cases e : i = j
                · subst e; exact hp
                · exact hall.out i (by omega)
              obtain ⟨p0, p1, p2, p3⟩ := hp
              generalize T (j + 1) = s at s0 s1 f0 p0 p1 p2 p3
              generalize C (j + 1) = d at d0 d1 f1 p0 p1 p2 p3
              generalize T j = t at t0 t1 e0 p0 p1 p2 p3
              generalize C j = c at c0 c1 e1 p0 p1 p2 p3
              obtain ⟨b0, b1⟩ := prod_range (1000000 + r) (s - t) 1100000 1099511627776 (by omega) (by omega) p0 (by omega) (by omega)
              obtain ⟨b2, b3⟩ := prod_range (1000000 - r) (s - t) 1000000 1099511627776 (by omega) (by omega) p0 (by omega) (by omega)
              obtain ⟨x, hx⟩ : ∃ x, (1000000 + r) * (s - t) = x := ⟨_, rfl⟩
              obtain ⟨y, hy⟩ : ∃ y, (1000000 - r) * (s - t) = y := ⟨_, rfl⟩
              rw [hx] at b0 b1 p2
              rw [hy] at b2 b3 p3
              go_wp2_with fail
              go_quiet (fail)
              go_wp2_with fail
              go_roundw
              case rel => exact ⟨j + 1, by omega, by go_num, below_drewN hbel _, hall'⟩
              case measure => simp [intOf]; omega
            · obtain rfl : v = 8 := by
                rcases HV.out with ⟨hok, _⟩ | ⟨_, rfl⟩
                · exact absurd (hok j (by omega)) hp
                · rfl
              have hp' := hid hp
              clear hp
              generalize T (j + 1) = s at s0 s1 f0 hp'
              generalize C (j + 1) = d at d0 d1 f1 hp'
              generalize T j = t at t0 t1 e0 hp'
              generalize C j = c at c0 c1 e1 hp'
              by_cases p0 : s - t < 0
              · skip
                go_wp2_with fail
                go_quiet (fail)
                go_wp2_with fail
                go_ret
                exact ⟨rfl, below_drewN hbel _⟩
              · by_cases p1 : d - c < 0
                · skip
                  go_wp2_with fail
                  go_quiet (fail)
                  go_wp2_with fail
                  go_ret
                  exact ⟨rfl, below_drewN hbel _⟩
                · obtain ⟨b0, b1⟩ := prod_range (1000000 + r) (s - t) 1100000 1099511627776 (by omega) (by omega) (by omega) (by omega) (by omega)
                  obtain ⟨b2, b3⟩ := prod_range (1000000 - r) (s - t) 1000000 1099511627776 (by omega) (by omega) (by omega) (by omega) (by omega)
                  obtain ⟨x, hx⟩ : ∃ x, (1000000 + r) * (s - t) = x := ⟨_, rfl⟩
                  obtain ⟨y, hy⟩ : ∃ y, (1000000 - r) * (s - t) = y := ⟨_, rfl⟩
                  have hbad : ¬ (1000000 * (d - c) ≤ x ∧ y ≤ 1000000 * (d - c)) := fun h => hp'.out ⟨by omega, by omega, by rw [hx]; exact h.1, by rw [hy]; exact h.2⟩
                  rw [hx] at b0 b1
                  rw [hy] at b2 b3
                  by_cases p2 : x < 1000000 * (d - c)
                  · clear hbad
                    go_wp2_with fail
                    go_quiet (fail)
                    go_wp2_with fail
                    go_ret
                    exact ⟨rfl, below_drewN hbel _⟩
                  · have p3 : 1000000 * (d - c) < y := by omega
                    clear hbad
                    go_wp2_with fail
                    go_quiet (fail)
                    go_wp2_with fail
                    go_ret
                    exact ⟨rfl, below_drewN hbel _⟩
          · obtain rfl : v = 0 := by
              rcases HV.out with ⟨_, rfl⟩ | ⟨⟨i, hi, hbad⟩, _⟩
              · rfl
              · exact absurd (hall.out i (by omega)) hbad
            go_wp2_with fail
            go_ret
            exact ⟨rfl, hbel⟩

set_option maxHeartbeats 400000 in
theorem check_rate (r : Int) (a : Option Addr) (n cap : Nat) (w : World) (h : ¬ (0 ≤ r ∧ r ≤ 100000)) :
    Calls Try.prog 10 #[.int .i64 r, .slice a n cap] w fun e w' => e = .returned (.int .i64 1) ∧ Below w.heap.size w w' := by
  have HC : Hid (r < 0 ∨ 100000 < r) := by show _ ∨ _; omega
  clear h
  go_enter Try.func10, Try.ntmps10
  go_wp2_with fail
  refine (within_no _ _ _ HC.out).mono ?_
  rintro e w1 ⟨rfl, rfl⟩
  go_wp2_with fail
  go_ret
  exact ⟨rfl, Below.refl _ _⟩

set_option maxHeartbeats 1000000 in
theorem check_time (r : Int) (a : Option Addr) (n cap : Nat) (T C : Nat → Int) (w : World) (h0 : 0 ≤ r) (h1 : r ≤ 100000) (hn : n ≤ 200)
    (hr : Rd w w.heap.size a n T C) (ht : ∃ i, i < n ∧ ¬ timeOk (T i) (C i)) :
    Calls Try.prog 10 #[.int .i64 r, .slice a n cap] w fun e w' => e = .returned (.int .i64 1) ∧ Below w.heap.size w w' := by
  have HR := hid hr
  have HT := hid ht
  clear hr ht
  go_enter Try.func10, Try.ntmps10
  go_wp2_with fail
  refine (within_yes _ _ _ (by omega) (by omega)).mono ?_
  rintro e w1 ⟨rfl, rfl⟩
  go_wp2_with fail
  go_loopw [15] (fun i wr => ∃ k : Nat, k ≤ n ∧ i = .int .i64 k ∧ Below w.heap.size w wr ∧ Hid (∀ i, i < k → timeOk (T i) (C i))) (fun i _ => n - (intOf i).toNat)
  case atStart => exact ⟨0, Nat.zero_le _, rfl, Below.refl _ _, fun i hi => absurd hi (by omega)⟩
  case round =>
    obtain ⟨k, hk, rfl, hbel, hall⟩ := hrel
    by_cases hlt : k < n
    · obtain ⟨b, off, rfl, e0, e1⟩ := (HR.out.below hbel).at_ hlt
      by_cases hok : timeOk (T k) (C k)
      · have hall' : Hid (∀ i, i < k + 1 → timeOk (T i) (C i)) := by
          intro i hi
          by_cases e : i = k
          · subst e; exact hok
          · exact hall.out i (by omega)
        obtain ⟨t0, t1, c0, c1⟩ := hok
        generalize T k = t at t0 t1 e0
        generalize C k = c at c0 c1 e1
        go_wp2_with fail
        refine (within_yes _ _ _ (by omega) (by omega)).mono ?_
        rintro e w1 ⟨rfl, rfl⟩
        go_wp2_with fail
        refine (within_yes _ _ _ (by omega) (by omega)).mono ?_
        rintro e w1 ⟨rfl, rfl⟩
        go_wp2_with fail
        go_roundw
        case rel => exact ⟨k + 1, by omega, by go_num, hbel.alloc hbel.size _, hall'⟩
        case measure => simp [intOf]; omega
      · unfold timeOk at hok
        generalize T k = t at e0 hok
        generalize C k = c at e1 hok
        by_cases ht : t < 0 ∨ 1099511627776 < t
        · have HB := hid ht
          clear hok ht
          go_wp2_with fail
          refine (within_no _ _ _ HB.out).mono ?_
          rintro e w1 ⟨rfl, rfl⟩
          go_wp2_with fail
          go_ret
          exact ⟨rfl, hbel.alloc hbel.size _⟩
        · have t0 : 0 ≤ t := by omega
          have t1 : t ≤ 1099511627776 := by omega
          have HB : Hid (c < 0 ∨ 1099511627776 < c) := by show _ ∨ _; omega
          clear hok ht
          go_wp2_with fail
          refine (within_yes _ _ _ (by omega) (by omega)).mono ?_
          rintro e w1 ⟨rfl, rfl⟩
          go_wp2_with fail
          refine (within_no _ _ _ HB.out).mono ?_
          rintro e w1 ⟨rfl, rfl⟩
          go_wp2_with fail
          go_ret
          exact ⟨rfl, hbel.alloc hbel.size _⟩
    · exfalso
      obtain ⟨i, hi, hbad⟩ := HT.out
      exact hbad (hall.out i (by omega))

end Go.Proofs.Ytfkippkfdepbkaa
