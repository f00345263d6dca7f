/-
  The contracts of the reference's functions of layer 2 (May, Add, Compare, Later) and of the statements' own 'live', over the translation.
-/
import Derived.Test.YteaiehoclgpdhaaCalls
namespace Go.Proofs.Yteaiehoclgpdhaa
open Go.RowKit

def Is (v : Value) (w : World) (e : Ending) (w' : World) : Prop := e = .returned v ∧ w = w'

set_option maxHeartbeats 400000 in
theorem mayR_yes (a : Int) (w : World) (h0 : 0 ≤ a) (h1 : a ≤ 4294967295) : Calls Try.prog 16 #[.int .i64 a] w (Is (.bool true) w) := by
  unfold Is
  have h2 : a < 4294967296 := by omega
  go_enter Try.func16, Try.ntmps16
  go_wp2
  go_ret
  exact ⟨rfl, rfl⟩

set_option maxHeartbeats 400000 in
theorem mayR_no (a : Int) (w : World) (h : a < 0 ∨ 4294967295 < a) : Calls Try.prog 16 #[.int .i64 a] w (Is (.bool false) w) := by
  unfold Is
  by_cases h0 : a < 0
  · clear h
    go_enter Try.func16, Try.ntmps16
    go_wp2
    go_ret
    exact ⟨rfl, rfl⟩
  · have h1 : decide (a < 4294967296) = false := by simp; omega
    clear h
    go_enter Try.func16, Try.ntmps16
    go_wp2
    go_ret
    exact ⟨rfl, rfl⟩

set_option maxHeartbeats 400000 in
theorem addR_any (a n x er : Int) (w : World) (H : Hid (addP a n = (x, er))) :
    Calls Try.prog 9 #[.int .i64 a, .int .i64 n] w (Is (.tuple #[.int .i64 x, .int .i64 er]) w) := by
  have h := H.out
  clear H
  unfold Is
  rcases addP_cases a n with ⟨h0, h1, h2, h3, h4⟩ | ⟨h0, h4⟩ <;> rw [h4] at h <;> injection h with ha hb <;> subst ha hb <;> clear h4
  · go_enter Try.func9, Try.ntmps9
    go_wp2_with (go_at_call 16; refine (mayR_yes _ _ (by omega) (by omega)).mono ?_; rintro e w1 ⟨rfl, rfl⟩)
    go_ret2
    exact ⟨rfl, rfl⟩
  · by_cases c : a < 0 ∨ 4294967295 < a
    · have HC := hid c
      clear h0 c
      go_enter Try.func9, Try.ntmps9
      go_wp2_with (go_at_call 16; refine (mayR_no _ _ HC.out).mono ?_; rintro e w1 ⟨rfl, rfl⟩)
      go_ret2
      exact ⟨rfl, rfl⟩
    · have c0 : 0 ≤ a := by omega
      have c1 : a ≤ 4294967295 := by omega
      by_cases d : n < 0
      · clear h0 c
        go_enter Try.func9, Try.ntmps9
        go_wp2_with (go_at_call 16; refine (mayR_yes _ _ (by omega) (by omega)).mono ?_; rintro e w1 ⟨rfl, rfl⟩)
        go_ret2
        exact ⟨rfl, rfl⟩
      · have d1 : 2147483647 < n := by omega
        clear h0 c
        go_enter Try.func9, Try.ntmps9
        go_wp2_with (go_at_call 16; refine (mayR_yes _ _ (by omega) (by omega)).mono ?_; rintro e w1 ⟨rfl, rfl⟩)
        go_ret2
        exact ⟨rfl, rfl⟩

theorem shift_mod (a b : Int) : (b - a + 4294967296) % 4294967296 = (b - a) % 4294967296 := by omega

set_option maxHeartbeats 400000 in
theorem cmpR_any (a b x er : Int) (w : World) (H : Hid (cmpP a b = (x, er))) :
    Calls Try.prog 12 #[.int .i64 a, .int .i64 b] w (Is (.tuple #[.int .i64 x, .int .i64 er]) w) := by
  have h := H.out
  clear H
  unfold Is
  rcases cmpP_cases a b with ⟨h0, h4⟩ | ⟨h0, h1, h2, h3, h4⟩
  · rw [h4] at h; injection h with ha hb; subst ha hb
    clear h4
    by_cases c : a < 0 ∨ 4294967295 < a
    · have HC := hid c
      clear h0 c
      go_enter Try.func12, Try.ntmps12
      go_wp2_with (go_at_call 16; refine (mayR_no _ _ HC.out).mono ?_; rintro e w1 ⟨rfl, rfl⟩)
      go_ret2
      exact ⟨rfl, rfl⟩
    · have c0 : 0 ≤ a := by omega
      have c1 : a ≤ 4294967295 := by omega
      have HD : Hid (b < 0 ∨ 4294967295 < b) := by show _ ∨ _; omega
      clear h0 c
      go_enter Try.func12, Try.ntmps12
      go_wp2_with fail
      refine (mayR_yes _ _ (by omega) (by omega)).mono ?_
      rintro e w1 ⟨rfl, rfl⟩
      go_wp2_with fail
      refine (mayR_no _ _ HD.out).mono ?_
      rintro e w1 ⟨rfl, rfl⟩
      go_wp2_with fail
      go_ret2
      exact ⟨rfl, rfl⟩
  · have hm := shift_mod a b
    rcases h4 with ⟨c, h4⟩ | ⟨c, c', h4⟩ | ⟨c, h4⟩ | ⟨c, h4⟩ <;> rw [h4] at h <;> injection h with ha hb <;> subst ha hb <;> clear h4 <;> rw [← hm] at c
    · clear hm
      go_enter Try.func12, Try.ntmps12
      go_wp2_with (go_at_call 16; refine (mayR_yes _ _ (by omega) (by omega)).mono ?_; rintro e w1 ⟨rfl, rfl⟩)
      go_ret2
      exact ⟨rfl, rfl⟩
    · rw [← hm] at c'
      clear hm
      have ht : ((b - a + 4294967296) % 4294967296 == 0) = false := by simp; omega
      go_enter Try.func12, Try.ntmps12
      go_wp2_with (go_at_call 16; refine (mayR_yes _ _ (by omega) (by omega)).mono ?_; rintro e w1 ⟨rfl, rfl⟩)
      go_ret2
      exact ⟨rfl, rfl⟩
    · clear hm
      have ht : ((b - a + 4294967296) % 4294967296 == 0) = false := by simp; omega
      go_enter Try.func12, Try.ntmps12
      go_wp2_with (go_at_call 16; refine (mayR_yes _ _ (by omega) (by omega)).mono ?_; rintro e w1 ⟨rfl, rfl⟩)
      go_ret2
      exact ⟨rfl, rfl⟩
    · clear hm
      go_enter Try.func12, Try.ntmps12
      go_wp2_with (go_at_call 16; refine (mayR_yes _ _ (by omega) (by omega)).mono ?_; rintro e w1 ⟨rfl, rfl⟩)
      go_ret2
      exact ⟨rfl, rfl⟩

set_option maxHeartbeats 400000 in
theorem laterR_any (a b : Int) (t : Bool) (w : World) (H : Hid (laterB a b = t)) :
    Calls Try.prog 14 #[.int .i64 a, .int .i64 b] w (Is (.bool t) w) := by
  have HT := H
  clear H
  rcases cmpP_cases a b with ⟨h0, h4⟩ | ⟨h0, h1, h2, h3, h4⟩
  · have HC := hid h4
    obtain rfl : false = t := by rw [← HT.out, later_eq a b _ _ h4]; simp
    clear h4 h0 HT
    unfold Is
    go_enter Try.func14, Try.ntmps14
    go_wp2_with (go_at_call 12; refine (cmpR_any _ _ _ _ _ HC).mono ?_; rintro e w1 ⟨rfl, rfl⟩)
    go_ret
    exact ⟨rfl, rfl⟩
  · rcases h4 with ⟨c, h4⟩ | ⟨c, c', h4⟩ | ⟨c, h4⟩ | ⟨c, h4⟩
    · have HC := hid h4
      obtain rfl : false = t := by rw [← HT.out, later_eq a b _ _ h4]; simp
      clear h4 HT
      unfold Is
      go_enter Try.func14, Try.ntmps14
      go_wp2_with (go_at_call 12; refine (cmpR_any _ _ _ _ _ HC).mono ?_; rintro e w1 ⟨rfl, rfl⟩)
      go_ret
      exact ⟨rfl, rfl⟩
    · have HC := hid h4
      obtain rfl : false = t := by rw [← HT.out, later_eq a b _ _ h4]; simp
      clear h4 HT
      unfold Is
      go_enter Try.func14, Try.ntmps14
      go_wp2_with (go_at_call 12; refine (cmpR_any _ _ _ _ _ HC).mono ?_; rintro e w1 ⟨rfl, rfl⟩)
      go_ret
      exact ⟨rfl, rfl⟩
    · have HC := hid h4
      obtain rfl : true = t := by rw [← HT.out, later_eq a b _ _ h4]; simp
      clear h4 HT
      unfold Is
      go_enter Try.func14, Try.ntmps14
      go_wp2_with (go_at_call 12; refine (cmpR_any _ _ _ _ _ HC).mono ?_; rintro e w1 ⟨rfl, rfl⟩)
      go_ret
      exact ⟨rfl, rfl⟩
    · have HC := hid h4
      obtain rfl : false = t := by rw [← HT.out, later_eq a b _ _ h4]; simp
      clear h4 HT
      unfold Is
      go_enter Try.func14, Try.ntmps14
      go_wp2_with (go_at_call 12; refine (cmpR_any _ _ _ _ _ HC).mono ?_; rintro e w1 ⟨rfl, rfl⟩)
      go_ret
      exact ⟨rfl, rfl⟩

set_option maxHeartbeats 400000 in
theorem live_any (w : World) : Calls Try.prog 10 #[] w (Gives (.bool true) w.heap.size w) := by
  have H1 : Hid (addP 4294967295 1 = (0, 0)) := by show _ = _; decide
  have H2 : Hid (cmpP 5 9 = (-1, 0)) := by show _ = _; decide
  have H3 : Hid (cmpP 0 2147483648 = (0, 5)) := by show _ = _; decide
  have H4 : Hid (addP (-1) 0 = (0, 1)) := by show _ = _; decide
  have H5 : Hid (laterB 0 4294967295 = true) := by show _ = _; decide
  have H6 : Hid (laterB 5 5 = false) := by show _ = _; decide
  unfold Gives
  go_enter Try.func10, Try.ntmps10
  go_wp2_with fail
  refine (add_any _ _ _ _ _ H1).mono ?_
  rintro e w1 ⟨rfl, b1⟩
  go_wp2_with fail
  refine (cmp_any _ _ _ _ _ H2).mono ?_
  rintro e w2 ⟨rfl, b2⟩
  go_wp2_with fail
  refine (cmp_any _ _ _ _ _ H3).mono ?_
  rintro e w3 ⟨rfl, b3⟩
  go_wp2_with fail
  refine (add_any _ _ _ _ _ H4).mono ?_
  rintro e w4 ⟨rfl, b4⟩
  go_wp2_with fail
  refine (later_any _ _ _ _ H5).mono ?_
  rintro e w5 ⟨rfl, b5⟩
  go_wp2_with fail
  refine (later_any _ _ _ _ H6).mono ?_
  rintro e w6 ⟨rfl, b6⟩
  go_wp2_with fail
  go_ret
  have s1 := b1.size
  have s2 := b2.size
  have s3 := b3.size
  have s4 := b4.size
  have s5 := b5.size
  exact ⟨rfl, b1.trans ((b2.mono (by omega)).trans ((b3.mono (by omega)).trans ((b4.mono (by omega)).trans ((b5.mono (by omega)).trans (b6.mono (by omega))))))⟩

end Go.Proofs.Yteaiehoclgpdhaa
