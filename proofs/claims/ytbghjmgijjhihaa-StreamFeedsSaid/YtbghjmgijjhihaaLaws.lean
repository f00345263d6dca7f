/-
  The walks of the statements StreamNil, StreamPacks and StreamOne: each returns true, and below the heap's size at the call nothing has turned.
-/
import Derived.Test.YtbghjmgijjhihaaLive
namespace Go.Proofs.Ytbghjmgijjhihaa
open Go.RowKit

set_option maxHeartbeats 800000 in
theorem nil_walk (s : ByteArray) (w : World) (_hm : s.size ≤ 9223372036854775807) :
    Calls Try.prog 7 #[.string s] w fun e w' => e = .returned (.bool true) ∧ Below w.heap.size w w' := by
  go_enter Try.func7, Try.ntmps7
  go_wp2_with fail
  refine (feed_nil _ _).mono ?_
  rintro e w1 ⟨rfl, rfl⟩
  go_wp2_with fail
  refine (waits_nil _).mono ?_
  rintro e w1 ⟨rfl, rfl⟩
  go_wp2_with fail
  refine (live_any _).mono ?_
  rintro e w1 ⟨rfl, b1⟩
  go_wp2_with fail
  go_ret
  exact ⟨rfl, b1⟩

/-- What Unpack answers, named. -/
theorem unpack_is (s : ByteArray) : ∃ (t : ByteArray) (n : Nat) (er : Int), Hid (unpackL s.data.toList = (t.data.toList, n, er)) := by
  refine ⟨⟨(unpackL s.data.toList).1.toArray⟩, (unpackL s.data.toList).2.1, (unpackL s.data.toList).2.2, ?_⟩
  show _ = _
  simp

set_option maxHeartbeats 800000 in
theorem packs_walk (s : ByteArray) (w : World) (hm : s.size ≤ 9223372036854775807) :
    Calls Try.prog 5 #[.string s] w fun e w' => e = .returned (.bool true) ∧ Below w.heap.size w w' := by
  obtain ⟨t, er, H1⟩ : ∃ t er, Hid (packB s = (t, er)) := ⟨_, _, rfl⟩
  obtain ⟨u, n, er2, H2⟩ := unpack_is s
  go_enter Try.func5, Try.ntmps5
  go_wp2_with fail
  refine (pack_any _ _ _ _ hm H1).mono ?_
  rintro e w1 ⟨rfl, b1⟩
  go_wp2_with fail
  refine (packR_any _ _ _ _ hm H1).mono ?_
  rintro e w2 ⟨rfl, b2⟩
  go_wp2_with fail
  refine (unpack_any _ _ _ _ _ hm H2).mono ?_
  rintro e w3 ⟨rfl, k, rfl⟩
  go_wp2_with fail
  refine (unpackR_any _ _ _ _ _ hm H2).mono ?_
  rintro e w3 ⟨rfl, m, rfl⟩
  go_wp2_with fail
  refine (live_any _).mono ?_
  rintro e w4 ⟨rfl, b4⟩
  go_wp2_with fail
  go_ret
  have s1 := b1.size
  have s2 := b2.size
  exact ⟨rfl, (b1.trans (below_drewN (b2.mono s1) (k + m))).trans (b4.mono (by simp; omega))⟩

set_option maxHeartbeats 800000 in
theorem one_walk (s d : ByteArray) (w : World) (hm : s.size ≤ 9223372036854775807) (hm2 : d.size ≤ 9223372036854775807) :
    Calls Try.prog 4 #[.string s, .string d] w fun e w' => e = .returned (.bool true) ∧ Below w.heap.size w w' := by
  by_cases h1 : 5000 < s.size
  · go_enter Try.func4, Try.ntmps4
    go_wp2_with fail
    refine (live_any _).mono ?_
    rintro e w4 ⟨rfl, b4⟩
    go_wp2_with fail
    go_ret
    exact ⟨rfl, b4⟩
  by_cases h2 : 5000 < d.size
  · go_enter Try.func4, Try.ntmps4
    go_wp2_with fail
    refine (live_any _).mono ?_
    rintro e w4 ⟨rfl, b4⟩
    go_wp2_with fail
    go_ret
    exact ⟨rfl, b4⟩
  have h1' : s.size ≤ 5000 := by omega
  have h2' : d.size ≤ 5000 := by omega
  clear h1 h2
  by_cases h3 : s.size = 0
  · obtain rfl : (⟨#[]⟩ : ByteArray) = s := by
      apply bytes_ext
      have : s.data.toList.length = 0 := h3
      exact (List.eq_nil_of_length_eq_zero this).symm
    have H1 : Hid (packB ⟨#[]⟩ = (⟨#[]⟩, 1)) := by
      show (if 1 ≤ (⟨#[]⟩ : ByteArray).size ∧ (⟨#[]⟩ : ByteArray).size ≤ 65535 then (headB ⟨#[]⟩ ++ ⟨#[]⟩, (0 : Int)) else (⟨#[]⟩, 1)) = _
      rw [if_neg (by decide)]
    clear h3 h1'
    go_enter Try.func4, Try.ntmps4
    go_wp2_with fail
    refine (pack_any _ _ _ _ hm H1).mono ?_
    rintro e w1 ⟨rfl, b1⟩
    go_wp2_with fail
    refine (live_any _).mono ?_
    rintro e w4 ⟨rfl, b4⟩
    go_wp2_with fail
    go_ret
    exact ⟨rfl, b1.trans (b4.mono b1.size)⟩
  · have H1 : Hid (packB s = (headB s ++ s, 0)) := by
      show (if 1 ≤ s.size ∧ s.size ≤ 65535 then (headB s ++ s, (0 : Int)) else (⟨#[]⟩, 1)) = _
      rw [if_pos ⟨by omega, by omega⟩]
    have H2 : Hid (unpackL (headB s ++ s ++ d).data.toList = (s.data.toList, s.size + 2, 0)) := by
      show _ = _
      rw [ByteArray.data_append, Array.toList_append, head_list]
      exact unpack_pack _ _ (show 1 ≤ s.size by omega) (show s.size ≤ 65535 by omega)
    have hz : (headB s ++ s).size = s.size + 2 := by
      rw [ByteArray.size_append]
      show 2 + s.size = _
      omega
    obtain ⟨t, ht⟩ : ∃ t, headB s ++ s = t := ⟨_, rfl⟩
    rw [ht] at H1 H2 hz
    have hz2 : t.size + d.size ≤ 9223372036854775807 := by omega
    have hz3 : (t ++ d).size ≤ 9223372036854775807 := by rw [ByteArray.size_append]; omega
    clear ht h3
    go_enter Try.func4, Try.ntmps4
    go_wp2_with fail
    refine (pack_any _ _ _ _ hm H1).mono ?_
    rintro e w1 ⟨rfl, b1⟩
    go_wp2_with fail
    refine (unpack_any _ _ _ _ _ hz3 H2).mono ?_
    rintro e w3 ⟨rfl, k, rfl⟩
    go_wp2_with fail
    refine (live_any _).mono ?_
    rintro e w4 ⟨rfl, b4⟩
    go_wp2_with fail
    go_ret
    exact ⟨rfl, (below_drewN b1 k).trans (b4.mono (by simpa using b1.size))⟩

end Go.Proofs.Ytbghjmgijjhihaa
