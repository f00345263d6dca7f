/-
  The walks of the statements DriftChecks, DriftHolds and DriftRight: each returns true, and below the heap's size at the call nothing has turned.
-/
import Derived.Test.YtfkippkfdepbkaaLaws
import Derived.Test.YtfkippkfdepbkaaReadings
namespace Go.Proofs.Ytfkippkfdepbkaa
open Go.RowKit

theorem Rd.more {w : World} {B B' n : Nat} {a : Option Addr} {T C : Nat → Int} (h : Rd w B a n T C) (hB : B ≤ B') : Rd w B' a n T C := by
  intro hn
  obtain ⟨b, off, e, hb, hc⟩ := h hn
  exact ⟨b, off, e, by omega, hc⟩

/-- What Check answers, of readings that are known. -/
def CheckIs (r : Int) (n : Nat) (T C : Nat → Int) (v : Int) : Prop :=
  ((¬ (0 ≤ r ∧ r ≤ 100000) ∨ ∃ i, i < n ∧ ¬ timeOk (T i) (C i)) ∧ v = 1) ∨
  ((0 ≤ r ∧ r ≤ 100000 ∧ ∀ i, i < n → timeOk (T i) (C i)) ∧
    (((∀ j, j + 1 < n → pairOk r (T j) (T (j + 1)) (C j) (C (j + 1))) ∧ v = 0) ∨ ((∃ j, j + 1 < n ∧ ¬ pairOk r (T j) (T (j + 1)) (C j) (C (j + 1))) ∧ v = 8)))

theorem check_is (r : Int) (n : Nat) (T C : Nat → Int) : ∃ v, CheckIs r n T C v := by
  by_cases h1 : 0 ≤ r ∧ r ≤ 100000
  · by_cases h2 : ∀ i, i < n → timeOk (T i) (C i)
    · by_cases h3 : ∀ j, j + 1 < n → pairOk r (T j) (T (j + 1)) (C j) (C (j + 1))
      · exact ⟨0, .inr ⟨⟨h1.1, h1.2, h2⟩, .inl ⟨h3, rfl⟩⟩⟩
      · refine ⟨8, .inr ⟨⟨h1.1, h1.2, h2⟩, .inr ⟨?_, rfl⟩⟩⟩
        refine Classical.byContradiction fun hno => h3 fun j hj => Classical.byContradiction fun hp => hno ⟨j, hj, hp⟩
    · refine ⟨1, .inl ⟨.inr ?_, rfl⟩⟩
      refine Classical.byContradiction fun hno => h2 fun i hi => Classical.byContradiction fun hp => hno ⟨i, hi, hp⟩
  · exact ⟨1, .inl ⟨.inl h1, rfl⟩⟩

theorem check_any (r v : Int) (a : Option Addr) (n cap : Nat) (T C : Nat → Int) (w : World) (hn : n ≤ 200) (hr : Hid (Rd w w.heap.size a n T C)) (H : Hid (CheckIs r n T C v)) :
    Calls Try.prog 10 #[.int .i64 r, .slice a n cap] w fun e w' => e = .returned (.int .i64 v) ∧ Below w.heap.size w w' := by
  by_cases h1 : 0 ≤ r ∧ r ≤ 100000
  · rcases H.out with ⟨h, rfl⟩ | ⟨⟨_, _, h2⟩, h⟩
    · exact check_time r a n cap T C w h1.1 h1.2 hn hr.out (h.resolve_left (fun k => k h1))
    · exact check_pairs r v a n cap T C w h1.1 h1.2 hn hr.out h2 h
  · rcases H.out with ⟨_, rfl⟩ | ⟨⟨h2, h3, _⟩, _⟩
    · exact check_rate r a n cap w h1
    · exact absurd ⟨h2, h3⟩ h1

theorem checkR_any (r v : Int) (a : Option Addr) (n cap : Nat) (T C : Nat → Int) (w : World) (hn : n ≤ 200) (hr : Hid (Rd w w.heap.size a n T C)) (H : Hid (CheckIs r n T C v)) :
    Calls Try.prog 12 #[.int .i64 r, .slice a n cap] w fun e w' => e = .returned (.int .i64 v) ∧ Below w.heap.size w w' := by
  by_cases h1 : 0 ≤ r ∧ r ≤ 100000
  · rcases H.out with ⟨h, rfl⟩ | ⟨⟨_, _, h2⟩, h⟩
    · exact checkR_time r a n cap T C w h1.1 h1.2 hn hr.out (h.resolve_left (fun k => k h1))
    · exact checkR_pairs r v a n cap T C w h1.1 h1.2 hn hr.out h2 h
  · rcases H.out with ⟨_, rfl⟩ | ⟨⟨h2, h3, _⟩, _⟩
    · exact checkR_rate r a n cap w h1
    · exact absurd ⟨h2, h3⟩ h1

set_option maxHeartbeats 800000 in
theorem checks_walk (r : Int) (a : Option Addr) (n cap : Nat) (T C : Nat → Int) (w : World) (hm : n ≤ maxLen) (hr : Rd w w.heap.size a n T C) :
    Calls Try.prog 3 #[.int .i64 r, .slice a n cap] w fun e w' => e = .returned (.bool true) ∧ Below w.heap.size w w' := by
  unfold maxLen at hm
  have HR := hid hr
  clear hr
  by_cases hn : n ≤ 100
  · obtain ⟨v, hv⟩ := check_is r n T C
    have HV := hid hv
    clear hv
    go_enter Try.func3, Try.ntmps3
    go_wp2_with fail
    refine (readings_any a n cap T C w (by omega) HR.out).mono ?_
    rintro e w1 ⟨ra, rcap, rfl, hrd, b1⟩
    have HD := hid hrd
    clear hrd
    go_wp2_with fail
    refine (check_any r v ra n rcap T C w1 (by omega) HD HV).mono ?_
    rintro e w2 ⟨rfl, b2⟩
    have s1 := b1.size
    have s2 := b2.size
    have b12 : Below w.heap.size w w2 := b1.trans (b2.mono s1)
    have HR2 := hid ((HR.out.below b12).more b12.size)
    go_wp2_with fail
    refine (checkR_any r v a n cap T C w2 (by omega) HR2 HV).mono ?_
    rintro e w3 ⟨rfl, b3⟩
    go_wp2_with fail
    refine (live_any _).mono ?_
    rintro e w4 ⟨rfl, b4⟩
    go_wp2_with fail
    go_ret
    have s3 := b3.size
    exact ⟨rfl, b12.trans ((b3.mono (by omega)).trans (b4.mono (by omega)))⟩
  · have hn' : 100 < n := by omega
    clear hn
    go_enter Try.func3, Try.ntmps3
    go_wp2_with fail
    refine (live_any _).mono ?_
    rintro e w4 ⟨rfl, b4⟩
    go_wp2_with fail
    go_ret
    exact ⟨rfl, b4⟩

end Go.Proofs.Ytfkippkfdepbkaa
