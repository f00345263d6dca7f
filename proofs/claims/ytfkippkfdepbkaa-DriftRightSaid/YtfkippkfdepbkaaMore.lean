/-
  The walks of the statements DriftHolds and DriftRight: each returns true, and below the heap's size at the call nothing has turned.
-/
import Derived.Test.YtfkippkfdepbkaaLists
namespace Go.Proofs.Ytfkippkfdepbkaa
open Go.RowKit

/-- Between any two readings of a right clock. -/
theorem between (r : Int) (n : Nat) (T C : Nat → Int) (hp : ∀ j, j + 1 < n → pairOk r (T j) (T (j + 1)) (C j) (C (j + 1))) (f : Nat) :
    ∀ k, f + k < n → pairOk r (T f) (T (f + k)) (C f) (C (f + k)) := by
  intro k
  induction k with
  | zero =>
    intro _
    rw [Nat.add_zero]
    refine ⟨by omega, by omega, ?_, ?_⟩ <;> rw [show T f - T f = 0 by omega, show C f - C f = 0 by omega] <;> simp
  | succ k ih =>
    intro hk
    obtain ⟨a0, a1, a2, a3⟩ := ih (by omega)
    obtain ⟨b0, b1, b2, b3⟩ := hp (f + k) (by omega)
    rw [show f + (k + 1) = f + k + 1 by omega]
    refine ⟨by omega, by omega, ?_, ?_⟩
    · rw [show T (f + k + 1) - T f = (T (f + k) - T f) + (T (f + k + 1) - T (f + k)) by omega, Int.mul_add]
      omega
    · rw [show T (f + k + 1) - T f = (T (f + k) - T f) + (T (f + k + 1) - T (f + k)) by omega, Int.mul_add]
      omega

/-- What DriftHolds asks of two readings. -/
theorem holds_facts (r : Int) (n : Nat) (T C : Nat → Int) (f g : Nat) (h0 : 0 ≤ r) (h1 : r ≤ 100000) (ht : ∀ i, i < n → timeOk (T i) (C i))
    (hp : ∀ j, j + 1 < n → pairOk r (T j) (T (j + 1)) (C j) (C (j + 1))) (hfg : f ≤ g) (hg : g < n) :
    ∃ lo hi, leastP r (C g - C f) = (lo, 0) ∧ mostP r (C g - C f) = (hi, 0) ∧ lo ≤ T g - T f ∧ T g - T f ≤ hi := by
  obtain ⟨k, rfl⟩ : ∃ k, g = f + k := ⟨g - f, by omega⟩
  obtain ⟨p0, p1, p2, p3⟩ := between r n T C hp f k hg
  obtain ⟨t0, t1, c0, c1⟩ := ht f (by omega)
  obtain ⟨s0, s1, d0, d1⟩ := ht (f + k) hg
  refine ⟨_, _, leastP_yes r _ h0 h1 p1 (by omega), mostP_yes r _ h0 h1 p1 (by omega), ?_, ?_⟩
  · apply Int.ediv_le_of_le_mul (by omega)
    rw [Int.mul_comm (T (f + k) - T f)]
    exact p2
  · apply up_ge _ _ _ (by omega)
    rw [Int.mul_comm (T (f + k) - T f)]
    exact p3

theorem rd_box {w : World} {n : Nat} {a : Option Addr} {T C : Nat → Int} (h : Rd w w.heap.size a n T C) (o : Obj) (k : Nat) : Rd ((w.alloc o).drewN k) ((w.alloc o).drewN k).heap.size a n T C :=
  (h.below (below_drewN ((Below.refl _ _).alloc (Nat.le_refl _) o) k)).more (by simp)
theorem size_box (w : World) (o : Obj) (k : Nat) : w.heap.size ≤ ((w.alloc o).drewN k).heap.size := by simp

set_option maxHeartbeats 1600000 in
theorem holds_walk (r : Int) (a : Option Addr) (n cap : Nat) (T C : Nat → Int) (f g : Int) (w : World) (hm : n ≤ maxLen) (hr : Rd w w.heap.size a n T C) :
    Calls Try.prog 5 #[.agg #[.int .i64 r, .slice a n cap, .int .i64 f, .int .i64 g]] w fun e w' => e = .returned (.bool true) ∧ Below w.heap.size w w' := by
  unfold maxLen at hm
  have HB := hid (fun o k => rd_box hr o k)
  clear hr
  by_cases hn : 100 < n
  · go_enter Try.func5, Try.ntmps5
    go_wp2_with fail
    go_quiet (fail)
    go_wp2_with fail
    refine (live_any _).mono ?_
    rintro e w4 ⟨rfl, b4⟩
    go_wp2_with fail
    go_ret
    exact ⟨rfl, below_box b4⟩
  by_cases hf : f < 0
  · go_enter Try.func5, Try.ntmps5
    go_wp2_with fail
    go_quiet (fail)
    go_wp2_with fail
    refine (live_any _).mono ?_
    rintro e w4 ⟨rfl, b4⟩
    go_wp2_with fail
    go_ret
    exact ⟨rfl, below_box b4⟩
  by_cases hg : g < f
  · go_enter Try.func5, Try.ntmps5
    go_wp2_with fail
    go_quiet (fail)
    go_wp2_with fail
    refine (live_any _).mono ?_
    rintro e w4 ⟨rfl, b4⟩
    go_wp2_with fail
    go_ret
    exact ⟨rfl, below_box b4⟩
  by_cases ht : (n : Int) ≤ g
  · go_enter Try.func5, Try.ntmps5
    go_wp2_with fail
    go_quiet (fail)
    go_wp2_with fail
    refine (live_any _).mono ?_
    rintro e w4 ⟨rfl, b4⟩
    go_wp2_with fail
    go_ret
    exact ⟨rfl, below_box b4⟩
  obtain ⟨F, rfl⟩ := Int.eq_ofNat_of_zero_le (show 0 ≤ f by omega)
  obtain ⟨G, rfl⟩ := Int.eq_ofNat_of_zero_le (show 0 ≤ g by omega)
  have hn1 : n ≤ 100 := by omega
  have hFG : F ≤ G := by omega
  have hGn : G < n := by omega
  clear hf hg ht hn
  obtain ⟨v, hv⟩ := check_is r n T C
  by_cases hz : v = 0
  · subst hz
    obtain ⟨h0, h1, hts, hps⟩ : 0 ≤ r ∧ r ≤ 100000 ∧ (∀ i, i < n → timeOk (T i) (C i)) ∧ ∀ j, j + 1 < n → pairOk r (T j) (T (j + 1)) (C j) (C (j + 1)) := by
      rcases hv with ⟨_, h⟩ | ⟨⟨h0, h1, h2⟩, ⟨h3, _⟩ | ⟨_, h⟩⟩
      · omega
      · exact ⟨h0, h1, h2, h3⟩
      · omega
    obtain ⟨lo, hi, q1, q2, q3, q4⟩ := holds_facts r n T C F G h0 h1 hts hps hFG hGn
    obtain ⟨t0, t1, c0, c1⟩ := hts F (by omega)
    obtain ⟨s0, s1, d0, d1⟩ := hts G hGn
    have HV := hid hv
    have HL := hid q1
    have HM := hid q2
    clear hv hts hps q1 q2
    go_enter Try.func5, Try.ntmps5
    go_wp2_with fail
    go_quiet (fail)
    go_wp2_with fail
    refine (readings_any a n cap T C _ (by omega) (HB.out _ _)).mono ?_
    rintro e w1 ⟨ra, rcap, rfl, hrd, b1⟩
    have HD := hid hrd
    clear hrd
    go_wp2_with fail
    refine (check_any r 0 ra n rcap T C w1 (by omega) HD HV).mono ?_
    rintro e w2 ⟨rfl, b2⟩
    have b12 := b1.trans (b2.mono b1.size)
    obtain ⟨b, off, rfl, e0, e1, f0, f1⟩ := ((HB.out _ _).below b12).two (i := F) (j := G) (by omega) hGn
    have b13 := hid (below_box b12)
    clear b12 b1 b2
    generalize T F = t at t0 t1 e0 q3 q4
    generalize C F = c at c0 c1 e1 HL HM
    generalize T G = s at s0 s1 f0 q3 q4
    generalize C G = d at d0 d1 f1 HL HM
    go_wp2_with fail
    go_quiet (fail)
    go_wp2_with fail
    go_quiet (fail)
    go_wp2_with fail
    refine (least_any _ _ _ _ _ HL).mono ?_
    rintro e w3 ⟨rfl, rfl⟩
    go_wp2_with fail
    refine (most_any _ _ _ _ _ HM).mono ?_
    rintro e w3 ⟨rfl, rfl⟩
    go_wp2_with fail
    refine (live_any _).mono ?_
    rintro e w4 ⟨rfl, b4⟩
    go_wp2_with fail
    go_ret
    exact ⟨rfl, (below_drewN b13.out _).trans (b4.mono b13.out.size)⟩
  · have hz' : (v == 0) = false := by simpa using hz
    have HV := hid hv
    clear hv hz
    go_enter Try.func5, Try.ntmps5
    go_wp2_with fail
    go_quiet (fail)
    go_wp2_with fail
    refine (readings_any a n cap T C _ (by omega) (HB.out _ _)).mono ?_
    rintro e w1 ⟨ra, rcap, rfl, hrd, b1⟩
    have HD := hid hrd
    clear hrd
    go_wp2_with fail
    refine (check_any r v ra n rcap T C w1 (by omega) HD HV).mono ?_
    rintro e w2 ⟨rfl, b2⟩
    have b12 := b1.trans (b2.mono b1.size)
    have b13 := hid (below_box b12)
    clear b12 b1 b2
    go_wp2_with fail
    refine (live_any _).mono ?_
    rintro e w4 ⟨rfl, b4⟩
    go_wp2_with fail
    go_ret
    exact ⟨rfl, b13.out.trans (b4.mono b13.out.size)⟩

/-- A clock that goes right. -/
theorem right_pair (t s c d : Int) (h : pairOk 0 t s c d) : d - c = s - t := by
  obtain ⟨_, _, h2, h3⟩ := h
  simp at h2 h3
  omega

set_option maxHeartbeats 1600000 in
theorem right_walk (a : Option Addr) (n cap : Nat) (T C : Nat → Int) (w : World) (hm : n ≤ maxLen) (hr : Rd w w.heap.size a n T C) :
    Calls Try.prog 8 #[.slice a n cap] w fun e w' => e = .returned (.bool true) ∧ Below w.heap.size w w' := by
  unfold maxLen at hm
  have HR := hid hr
  clear hr
  by_cases hn : 50 < n
  · go_enter Try.func8, Try.ntmps8
    go_wp2_with fail
    refine (live_any _).mono ?_
    rintro e w4 ⟨rfl, b4⟩
    go_wp2_with fail
    go_ret
    exact ⟨rfl, b4⟩
  have hn1 : n ≤ 50 := by omega
  clear hn
  obtain ⟨v, hv⟩ := check_is 0 n T C
  by_cases hz : v = 0
  · subst hz
    obtain ⟨hts, hps⟩ : (∀ i, i < n → timeOk (T i) (C i)) ∧ ∀ j, j + 1 < n → C (j + 1) - C j = T (j + 1) - T j := by
      rcases hv with ⟨_, h⟩ | ⟨⟨_, _, h2⟩, ⟨h3, _⟩ | ⟨_, h⟩⟩
      · omega
      · exact ⟨h2, fun j hj => right_pair _ _ _ _ (h3 j hj)⟩
      · omega
    have HV := hid hv
    have HT := hid hts
    have HP := hid hps
    clear hv hts hps
    go_enter Try.func8, Try.ntmps8
    go_wp2_with fail
    refine (readings_any a n cap T C _ (by omega) HR.out).mono ?_
    rintro e w1 ⟨ra, rcap, rfl, hrd, b1⟩
    have HD := hid hrd
    clear hrd
    go_wp2_with fail
    refine (check_any 0 0 ra n rcap T C w1 (by omega) HD HV).mono ?_
    rintro e w2 ⟨rfl, b2⟩
    have b12 := hid (b1.trans (b2.mono b1.size))
    clear b1 b2
    go_wp2_with fail
    go_loopw [4] (fun i wr => ∃ j : Nat, (j < n ∨ j = 0) ∧ i = .int .i64 (j + 1) ∧ Below w.heap.size w wr) (fun i _ => n - (intOf i).toNat)
    case atStart => exact ⟨0, by omega, by go_num, b12.out⟩
    case round =>
      obtain ⟨j, hj, rfl, hbel⟩ := hrel
      by_cases hlt : j + 1 < n
      · obtain ⟨b, off, rfl, e0, e1, f0, f1⟩ := (HR.out.below hbel).two (i := j) (j := j + 1) (by omega) hlt
        obtain ⟨t0, t1, c0, c1⟩ := HT.out j (by omega)
        obtain ⟨s0, s1, d0, d1⟩ := HT.out (j + 1) hlt
        have hp := HP.out j hlt
        generalize T (j + 1) = s at s0 s1 f0 hp
        generalize C (j + 1) = d at d0 d1 f1 hp
        generalize T j = t at t0 t1 e0 hp
        generalize C j = c at c0 c1 e1 hp
        go_wp2_with fail
        go_quiet (fail)
        go_wp2_with fail
        go_roundw
        case rel => exact ⟨j + 1, by omega, by go_num, below_drewN hbel _⟩
        case measure => simp [intOf]; omega
      · have hb := hid hbel
        clear hbel
        go_wp2_with fail
        refine (live_any _).mono ?_
        rintro e w4 ⟨rfl, b4⟩
        go_wp2_with fail
        go_ret
        exact ⟨rfl, hb.out.trans (b4.mono hb.out.size)⟩
  · have hz' : (v == 0) = false := by simpa using hz
    have HV := hid hv
    clear hv hz
    go_enter Try.func8, Try.ntmps8
    go_wp2_with fail
    refine (readings_any a n cap T C _ (by omega) HR.out).mono ?_
    rintro e w1 ⟨ra, rcap, rfl, hrd, b1⟩
    have HD := hid hrd
    clear hrd
    go_wp2_with fail
    refine (check_any 0 v ra n rcap T C w1 (by omega) HD HV).mono ?_
    rintro e w2 ⟨rfl, b2⟩
    have b12 := hid (b1.trans (b2.mono b1.size))
    clear b1 b2
    go_wp2_with fail
    refine (live_any _).mono ?_
    rintro e w4 ⟨rfl, b4⟩
    go_wp2_with fail
    go_ret
    exact ⟨rfl, b12.out.trans (b4.mono b12.out.size)⟩

end Go.Proofs.Ytfkippkfdepbkaa
