/-
  The contracts of drift.Check and of the reference's Check, over the translation.
-/
import Derived.Test.YtfkippkfdepbkaaCalls
import Derived.Deep.QuietTactic
import Derived.BigQuiet
import Derived.Outline
namespace Go.Proofs.Ytfkippkfdepbkaa
open Go.RowKit

/-- A slice of n readings lies at a: element i's two numbers are T i and C i. -/
def Rd (w : World) (B : Nat) (a : Option Addr) (n : Nat) (T C : Nat → Int) : Prop :=
  0 < n → ∃ b off, a = some ⟨b, off, none⟩ ∧ b < B ∧ ∀ i, i < n → w.cell? ⟨b, off + i * 2, none⟩ = some (.int .i64 (T i)) ∧ w.cell? ⟨b, off + i * 2 + 1, none⟩ = some (.int .i64 (C i))

theorem Rd.at_ {w : World} {B n : Nat} {a : Option Addr} {T C : Nat → Int} (h : Rd w B a n T C) {i : Nat} (hi : i < n) :
    ∃ b off, a = some ⟨b, off, none⟩ ∧ w.cell? ⟨b, off + i * 2, none⟩ = some (.int .i64 (T i)) ∧ w.cell? ⟨b, off + i * 2 + 1, none⟩ = some (.int .i64 (C i)) := by
  obtain ⟨b, off, e, hb, hc⟩ := h (by omega)
  exact ⟨b, off, e, hc i hi⟩
theorem Rd.two {w : World} {B n : Nat} {a : Option Addr} {T C : Nat → Int} (h : Rd w B a n T C) {i j : Nat} (hi : i < n) (hj : j < n) :
    ∃ b off, a = some ⟨b, off, none⟩ ∧ w.cell? ⟨b, off + i * 2, none⟩ = some (.int .i64 (T i)) ∧ w.cell? ⟨b, off + i * 2 + 1, none⟩ = some (.int .i64 (C i)) ∧
      w.cell? ⟨b, off + j * 2, none⟩ = some (.int .i64 (T j)) ∧ w.cell? ⟨b, off + j * 2 + 1, none⟩ = some (.int .i64 (C j)) := by
  obtain ⟨b, off, e, hb, hc⟩ := h (by omega)
  exact ⟨b, off, e, (hc i hi).1, (hc i hi).2, hc j hj⟩
theorem Rd.below {w w' : World} {B n : Nat} {a : Option Addr} {T C : Nat → Int} (h : Rd w B a n T C) (hb : Below B w w') : Rd w' B a n T C := by
  intro hn
  obtain ⟨b, off, e, hB, hc⟩ := h hn
  exact ⟨b, off, e, hB, fun i hi => ⟨(hb.cell (p := ⟨b, off + i * 2, none⟩) hB).trans (hc i hi).1, (hb.cell (p := ⟨b, off + i * 2 + 1, none⟩) hB).trans (hc i hi).2⟩⟩

/-- May a reading be? May two readings stand one behind the other? -/
def timeOk (t c : Int) : Prop := 0 ≤ t ∧ t ≤ 1099511627776 ∧ 0 ≤ c ∧ c ≤ 1099511627776
def pairOk (r t s c d : Int) : Prop := 0 ≤ s - t ∧ 0 ≤ d - c ∧ 1000000 * (d - c) ≤ (1000000 + r) * (s - t) ∧ (1000000 - r) * (s - t) ≤ 1000000 * (d - c)
theorem prod_range (a b A B : Int) (h0 : 0 ≤ a) (h1 : a ≤ A) (h2 : 0 ≤ b) (h3 : b ≤ B) (hA : 0 ≤ A) : 0 ≤ a * b ∧ a * b ≤ A * B :=
  ⟨Int.mul_nonneg h0 h2, Int.mul_le_mul h1 h3 h2 hA⟩

set_option maxHeartbeats 1000000 in
theorem checkR_pairs (r v : Int) (a : Option Addr) (n cap : Nat) (T C : Nat → Int) (w : World) (h0 : 0 ≤ r) (h1 : r ≤ 100000) (hn : n ≤ 200)
    (hr : Rd w w.heap.size a n T C) (ht : ∀ i, i < n → timeOk (T i) (C i))
    (hv : ((∀ j, j + 1 < n → pairOk r (T j) (T (j + 1)) (C j) (C (j + 1))) ∧ v = 0) ∨ ((∃ j, j + 1 < n ∧ ¬ pairOk r (T j) (T (j + 1)) (C j) (C (j + 1))) ∧ v = 8)) :
    Calls Try.prog 12 #[.int .i64 r, .slice a n cap] w fun e w' => e = .returned (.int .i64 v) ∧ Below w.heap.size w w' := by
  have HR := hid hr
  have HT := hid ht
  have HV := hid hv
  clear hr ht hv
  go_enter Try.func12, Try.ntmps12
  go_wp2_with fail
  refine (rates_yes _ _ (by omega) (by omega)).mono ?_
  rintro e w1 ⟨rfl, rfl⟩
  go_wp2_with fail
  go_loop [5] (fun i => ∃ k : Nat, k ≤ n ∧ i = .int .i64 k) (fun i => n - (intOf i).toNat)
  case atStart => exact ⟨0, Nat.zero_le _, rfl⟩
  case round =>
    obtain ⟨k, hk, rfl⟩ := hrel
    by_cases hlt : k < n
    · obtain ⟨t0, t1, c0, c1⟩ := HT.out k hlt
      obtain ⟨b, off, rfl, e0, e1⟩ := HR.out.at_ hlt
      generalize T k = t at t0 t1 e0
      generalize C k = c at c0 c1 e1
      go_wp2_with fail
      refine (time_yes _ _ (by omega) (by omega)).mono ?_
      rintro e w1 ⟨rfl, rfl⟩
      go_wp2_with fail
      refine (time_yes _ _ (by omega) (by omega)).mono ?_
      rintro e w1 ⟨rfl, rfl⟩
      go_wp2_with fail
      go_round
      case rel => exact ⟨k + 1, by omega, by go_num⟩
      case measure => simp [intOf]; omega
    · go_wp2_with fail
      clear hk hlt
      go_loopw [6] (fun i wr => ∃ j : Nat, (j < n ∨ j = 0) ∧ i = .int .i64 (j + 1) ∧ Below w.heap.size w wr ∧ Hid (∀ i, i < j → pairOk r (T i) (T (i + 1)) (C i) (C (i + 1)))) (fun i _ => n - (intOf i).toNat)
      case atStart => exact ⟨0, by omega, by go_num, Below.refl _ _, fun i hi => absurd hi (by omega)⟩
      case round =>
        obtain ⟨j, hj, rfl, hbel, hall⟩ := hrel
        by_cases hlt : j + 1 < n
        · obtain ⟨b, off, rfl, e0, e1, f0, f1⟩ := (HR.out.below hbel).two (i := j) (j := j + 1) (by omega) hlt
          obtain ⟨t0, t1, c0, c1⟩ := HT.out j (by omega)
          obtain ⟨s0, s1, d0, d1⟩ := HT.out (j + 1) hlt
          by_cases hp : pairOk r (T j) (T (j + 1)) (C j) (C (j + 1))
          · have hall' : Hid (∀ i, i < j + 1 → pairOk r (T i) (T (i + 1)) (C i) (C (i + 1))) := by
              intro i hi
              by_cases e : i = j
              · subst e; exact hp
              · exact hall.out i (by omega)
            obtain ⟨p0, p1, p2, p3⟩ := hp
            generalize T (j + 1) = s at s0 s1 f0 p0 p1 p2 p3
            generalize C (j + 1) = d at d0 d1 f1 p0 p1 p2 p3
            generalize T j = t at t0 t1 e0 p0 p1 p2 p3
            generalize C j = c at c0 c1 e1 p0 p1 p2 p3
            obtain ⟨b0, b1⟩ := prod_range (1000000 + r) (s - t) 1100000 1099511627776 (by omega) (by omega) p0 (by omega) (by omega)
            obtain ⟨b2, b3⟩ := prod_range (1000000 - r) (s - t) 1000000 1099511627776 (by omega) (by omega) p0 (by omega) (by omega)
            obtain ⟨x, hx⟩ : ∃ x, (1000000 + r) * (s - t) = x := ⟨_, rfl⟩
            obtain ⟨y, hy⟩ : ∃ y, (1000000 - r) * (s - t) = y := ⟨_, rfl⟩
            rw [hx] at b0 b1 p2
            rw [hy] at b2 b3 p3
            go_wp2_with fail
            go_quiet (fail)
            go_wp2_with fail
            go_quiet (fail)
            go_wp2_with fail
            go_roundw
            case rel => exact ⟨j + 1, by omega, by go_num, below_drewN hbel _, hall'⟩
            case measure => simp [intOf]; omega
          · obtain rfl : v = 8 := by
              rcases HV.out with ⟨hok, _⟩ | ⟨_, rfl⟩
              · exact absurd (hok j hlt) hp
              · rfl
            have hp' := hid hp
            clear hp
            generalize T (j + 1) = s at s0 s1 f0 hp'
            generalize C (j + 1) = d at d0 d1 f1 hp'
            generalize T j = t at t0 t1 e0 hp'
            generalize C j = c at c0 c1 e1 hp'
            by_cases p0 : s - t < 0
            · go_wp2_with fail
              go_quiet (fail)
              go_wp2_with fail
              go_quiet (fail)
              go_wp2_with fail
              go_ret
              exact ⟨rfl, below_drewN hbel _⟩
            · by_cases p1 : d - c < 0
              · go_wp2_with fail
                go_quiet (fail)
                go_wp2_with fail
                go_quiet (fail)
                go_wp2_with fail
                go_ret
                exact ⟨rfl, below_drewN hbel _⟩
              · obtain ⟨b0, b1⟩ := prod_range (1000000 + r) (s - t) 1100000 1099511627776 (by omega) (by omega) (by omega) (by omega) (by omega)
                obtain ⟨b2, b3⟩ := prod_range (1000000 - r) (s - t) 1000000 1099511627776 (by omega) (by omega) (by omega) (by omega) (by omega)
                obtain ⟨x, hx⟩ : ∃ x, (1000000 + r) * (s - t) = x := ⟨_, rfl⟩
                obtain ⟨y, hy⟩ : ∃ y, (1000000 - r) * (s - t) = y := ⟨_, rfl⟩
                have hbad : ¬ (1000000 * (d - c) ≤ x ∧ y ≤ 1000000 * (d - c)) := fun h => hp'.out ⟨by omega, by omega, by rw [hx]; exact h.1, by rw [hy]; exact h.2⟩
                rw [hx] at b0 b1
                rw [hy] at b2 b3
                by_cases p2 : x < 1000000 * (d - c)
                · clear hbad
                  go_wp2_with fail
                  go_quiet (fail)
                  go_wp2_with fail
                  go_quiet (fail)
                  go_wp2_with fail
                  go_ret
                  exact ⟨rfl, below_drewN hbel _⟩
                · have p3 : 1000000 * (d - c) < y := by omega
                  clear hbad
                  go_wp2_with fail
                  go_quiet (fail)
                  go_wp2_with fail
                  go_quiet (fail)
                  go_wp2_with fail
                  go_ret
                  exact ⟨rfl, below_drewN hbel _⟩
        · obtain rfl : v = 0 := by
            rcases HV.out with ⟨_, rfl⟩ | ⟨⟨i, hi, hbad⟩, _⟩
            · rfl
            · exact absurd (hall.out i (by omega)) hbad
          go_wp2_with fail
          go_ret
          exact ⟨rfl, hbel⟩

set_option maxHeartbeats 400000 in
theorem checkR_rate (r : Int) (a : Option Addr) (n cap : Nat) (w : World) (h : ¬ (0 ≤ r ∧ r ≤ 100000)) :
    Calls Try.prog 12 #[.int .i64 r, .slice a n cap] w fun e w' => e = .returned (.int .i64 1) ∧ Below w.heap.size w w' := by
  have HC : Hid (r < 0 ∨ 100000 < r) := by show _ ∨ _; omega
  clear h
  go_enter Try.func12, Try.ntmps12
  go_wp2_with fail
  refine (rates_no _ _ HC.out).mono ?_
  rintro e w1 ⟨rfl, rfl⟩
  go_wp2_with fail
  go_ret
  exact ⟨rfl, Below.refl _ _⟩

set_option maxHeartbeats 1000000 in
theorem checkR_time (r : Int) (a : Option Addr) (n cap : Nat) (T C : Nat → Int) (w : World) (h0 : 0 ≤ r) (h1 : r ≤ 100000) (hn : n ≤ 200)
    (hr : Rd w w.heap.size a n T C) (ht : ∃ i, i < n ∧ ¬ timeOk (T i) (C i)) :
    Calls Try.prog 12 #[.int .i64 r, .slice a n cap] w fun e w' => e = .returned (.int .i64 1) ∧ Below w.heap.size w w' := by
  have HR := hid hr
  have HT := hid ht
  clear hr ht
  go_enter Try.func12, Try.ntmps12
  go_wp2_with fail
  refine (rates_yes _ _ (by omega) (by omega)).mono ?_
  rintro e w1 ⟨rfl, rfl⟩
  go_wp2_with fail
  go_loop [5] (fun i => ∃ k : Nat, k ≤ n ∧ i = .int .i64 k ∧ Hid (∀ i, i < k → timeOk (T i) (C i))) (fun i => n - (intOf i).toNat)
  case atStart => exact ⟨0, Nat.zero_le _, rfl, fun i hi => absurd hi (by omega)⟩
  case round =>
    obtain ⟨k, hk, rfl, hall⟩ := hrel
    by_cases hlt : k < n
    · obtain ⟨b, off, rfl, e0, e1⟩ := HR.out.at_ hlt
      by_cases hok : timeOk (T k) (C k)
      · have hall' : Hid (∀ i, i < k + 1 → timeOk (T i) (C i)) := by
          intro i hi
          by_cases e : i = k
          · subst e; exact hok
          · exact hall.out i (by omega)
        obtain ⟨t0, t1, c0, c1⟩ := hok
        generalize T k = t at t0 t1 e0
        generalize C k = c at c0 c1 e1
        go_wp2_with fail
        refine (time_yes _ _ (by omega) (by omega)).mono ?_
        rintro e w1 ⟨rfl, rfl⟩
        go_wp2_with fail
        refine (time_yes _ _ (by omega) (by omega)).mono ?_
        rintro e w1 ⟨rfl, rfl⟩
        go_wp2_with fail
        go_round
        case rel => exact ⟨k + 1, by omega, by go_num, hall'⟩
        case measure => simp [intOf]; omega
      · unfold timeOk at hok
        generalize T k = t at e0 hok
        generalize C k = c at e1 hok
        by_cases ht : t < 0 ∨ 1099511627776 < t
        · have HB := hid ht
          clear hok ht
          go_wp2_with fail
          refine (time_no _ _ HB.out).mono ?_
          rintro e w1 ⟨rfl, rfl⟩
          go_wp2_with fail
          go_ret
          exact ⟨rfl, Below.refl _ _⟩
        · have t0 : 0 ≤ t := by omega
          have t1 : t ≤ 1099511627776 := by omega
          have HB : Hid (c < 0 ∨ 1099511627776 < c) := by show _ ∨ _; omega
          clear hok ht
          go_wp2_with fail
          refine (time_yes _ _ (by omega) (by omega)).mono ?_
          rintro e w1 ⟨rfl, rfl⟩
          go_wp2_with fail
          refine (time_no _ _ HB.out).mono ?_
          rintro e w1 ⟨rfl, rfl⟩
          go_wp2_with fail
          go_ret
          exact ⟨rfl, Below.refl _ _⟩
    · exfalso
      obtain ⟨i, hi, hbad⟩ := HT.out
      exact hbad (hall.out i (by omega))

end Go.Proofs.Ytfkippkfdepbkaa
