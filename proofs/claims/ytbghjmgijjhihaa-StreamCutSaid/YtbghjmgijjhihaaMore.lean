/-
  The contracts of New, Waits, Feed (whole) and of the reference's Feed and Texts, over the translation.
-/
import Derived.Test.YtbghjmgijjhihaaFeed
namespace Go.Proofs.Ytbghjmgijjhihaa
open Go.RowKit

def Is (v : Value) (w : World) (e : Ending) (w' : World) : Prop := e = .returned v ∧ w = w'

set_option maxHeartbeats 400000 in
theorem new_any (w : World) : Calls Try.prog 10 #[] w fun e w' => e = .returned (.pointer (some ⟨w.heap.size, 0, none⟩)) ∧ w.alloc (.cells #[.string ⟨#[]⟩, .bool false] 45) = w' := by
  go_enter Try.func10, Try.ntmps10
  go_wp2_with fail
  go_ret
  exact ⟨rfl, rfl⟩

set_option maxHeartbeats 400000 in
theorem waits_any (rb : Nat) (R : ByteArray) (fl : Bool) (w : World) (hb : Blk w rb R fl 45) : Calls Try.prog 13 #[.pointer (some ⟨rb, 0, none⟩)] w (Is (.int .i64 R.size) w) := by
  unfold Is
  have c0 := hb.cell0
  clear hb
  go_enter Try.func13, Try.ntmps13
  go_wp2_with fail
  go_ret
  exact ⟨rfl, rfl⟩

set_option maxHeartbeats 400000 in
theorem waits_nil (w : World) : Calls Try.prog 13 #[.pointer none] w (Is (.int .i64 0) w) := by
  unfold Is
  go_enter Try.func13, Try.ntmps13
  go_wp2_with fail
  go_ret
  exact ⟨rfl, rfl⟩

set_option maxHeartbeats 400000 in
theorem feed_nil (s : ByteArray) (w : World) : Calls Try.prog 11 #[.pointer none, .string s] w (Is (.tuple #[.slice none 0 0, .int .i64 1]) w) := by
  unfold Is
  go_enter Try.func11, Try.ntmps11
  go_wp2_with fail
  go_ret2
  exact ⟨rfl, rfl⟩

set_option maxHeartbeats 400000 in
theorem feed_failed (rb : Nat) (R s : ByteArray) (w : World) (hb : Blk w rb R true 45) : Calls Try.prog 11 #[.pointer (some ⟨rb, 0, none⟩), .string s] w (FeedPost rb 45 [] 2 R true w) := by
  have c1 := hb.cell1
  have HB := hid hb
  clear hb
  go_enter Try.func11, Try.ntmps11
  go_wp2_with fail
  go_ret2
  exact ⟨_, rfl, Own.nil _ _, HB.out, World.grownBy.refl _ _⟩

set_option maxHeartbeats 400000 in
theorem feed_full (rb : Nat) (R s : ByteArray) (w : World) (hb : Blk w rb R false 45) (h1 : R.size ≤ 200000) (h2 : s.size ≤ 1000000) (h : 200000 < R.size + s.size) :
    Calls Try.prog 11 #[.pointer (some ⟨rb, 0, none⟩), .string s] w (FeedPost rb 45 [] 4 R false w) := by
  have c0 := hb.cell0
  have c1 := hb.cell1
  have HB := hid hb
  clear hb
  go_enter Try.func11, Try.ntmps11
  go_wp2_with fail
  go_ret2
  exact ⟨_, rfl, Own.nil _ _, HB.out, World.grownBy.refl _ _⟩

theorem feed_any (rb : Nat) (R s : ByteArray) (f : Bool) (L : List ByteArray) (er : Int) (R' : ByteArray) (fl : Bool) (w : World) (hb : Hid (Blk w rb R f 45)) (h1 : R.size ≤ 200000) (h2 : s.size ≤ 1000000)
    (H : Hid (feedL R.data.toList f s.data.toList = (lists L, er, R'.data.toList, fl))) :
    Calls Try.prog 11 #[.pointer (some ⟨rb, 0, none⟩), .string s] w (FeedPost rb 45 L er R' fl w) := by
  cases f with
  | true =>
    have h := H.out
    rw [feedL_failed] at h
    injection h with e1 h
    injection h with e2 h
    injection h with e3 e4
    obtain rfl : [] = L := lists_inj [] L e1
    obtain rfl : R = R' := bytes_ext e3
    subst e2 e4
    exact feed_failed rb R s w hb.out
  | false =>
    by_cases hl : 200000 < R.size + s.size
    · have h := H.out
      rw [feedL_full _ _ hl] at h
      injection h with e1 h
      injection h with e2 h
      injection h with e3 e4
      obtain rfl : [] = L := lists_inj [] L e1
      obtain rfl : R = R' := bytes_ext e3
      subst e2 e4
      exact feed_full rb R s w hb.out h1 h2 hl
    · exact feed_drains rb R s L er R' fl w hb.out (by omega) H

/-! ### The reference's Feed -/
set_option maxRecDepth 100000 in
set_option maxHeartbeats 1600000 in
theorem feedR_drains (rb : Nat) (R s : ByteArray) (L : List ByteArray) (er : Int) (R' : ByteArray) (fl : Bool) (w : World) (hb : Blk w rb R false 40) (hl : R.size + s.size ≤ 200000)
    (H : Hid (feedL R.data.toList false s.data.toList = (lists L, er, R'.data.toList, fl))) :
    Calls Try.prog 17 #[.pointer (some ⟨rb, 0, none⟩), .string s] w (FeedPost rb 40 L er R' fl w) := by
  obtain ⟨i0, hi0, hz0, hz1, hz2⟩ := info_parts info9
  have c0 := hb.cell0
  have c1 := hb.cell1
  have f0 := hb.free 0
  have f1 := hb.free 1
  have hs0 := hid (hb.set0 (R ++ s))
  have hlt := hb.lt
  have HC : Hid (Come (R.size + s.size + 1) (R.data.toList ++ s.data.toList) [] (R ++ s)) := by
    have := Come.start (R.data.toList ++ s.data.toList) (R ++ s) (by rw [ByteArray.data_append, Array.toList_append])
    rwa [ByteArray.size_append] at this
  have hsz : (R ++ s).size ≤ 200000 := by rw [ByteArray.size_append]; exact hl
  have hsz' : R.size + s.size ≤ 9223372036854775807 := by omega
  clear hb
  go_enter Try.func17, Try.ntmps17
  go_wp2_with fail
  clear c0 c1 f0 f1
  go_loopw [6] (fun v wr => ∃ (acc : List ByteArray) (r : ByteArray), Hid (Own wr w.heap.size v acc) ∧ Hid (Blk wr rb r false 40) ∧ Hid (w.grownBy wr (some rb)) ∧ acc.length + r.size ≤ 200000 ∧ Hid (Come (R.size + s.size + 1) (R.data.toList ++ s.data.toList) acc r))
    (fun _ wr => restSize wr rb)
  case atStart => exact ⟨[], R ++ s, Own.nil _ _, hs0, gb_set (World.grownBy.refl _ _) rfl _, by simpa using hsz, HC⟩
  case round =>
    obtain ⟨acc, r, hown, hblk, hgb, hbd, hcome⟩ := hrel
    have c0 := hblk.out.cell0
    have c1 := hblk.out.cell1
    have f0 := hblk.out.free 0
    have f1 := hblk.out.free 1
    rcases unpackL_cases r.data.toList with ⟨h1, h2, h3⟩ | ⟨h1, h2, h3⟩ | ⟨h1, h3, h4, h5, h6⟩
    · have HU : Hid (unpackL r.data.toList = ((⟨#[]⟩ : ByteArray).data.toList, 0, 3)) := by
        show _ = _
        rw [← h1, ← h3]; show unpackL r.data.toList = ([], _, _); rw [← h2]
      obtain ⟨rfl, rfl, rfl, rfl⟩ := hcome.out.cut h1 (by omega) H.out
      clear h1 h2 h3
      go_wp2_with fail
      refine (unpackR_any _ ⟨#[]⟩ 0 3 _ (by omega) HU).mono ?_
      rintro e w1 ⟨rfl, k, rfl⟩
      go_wp2_with fail
      go_ret2
      exact ⟨_, rfl, hown.out, hblk.out, gb_drewN hgb.out _⟩
    · have HU : Hid (unpackL r.data.toList = ((⟨#[]⟩ : ByteArray).data.toList, 0, 2)) := by
        show _ = _
        rw [← h1, ← h3]; show unpackL r.data.toList = ([], _, _); rw [← h2]
      obtain ⟨rfl, rfl, rfl, rfl⟩ := hcome.out.form h1 (by omega) H.out
      clear h1 h2 h3
      go_wp2_with fail
      refine (unpackR_any _ ⟨#[]⟩ 0 2 _ (by omega) HU).mono ?_
      rintro e w1 ⟨rfl, k, rfl⟩
      go_wp2_with fail
      go_ret2
      exact ⟨_, rfl, Own.nil _ _, (hblk.out.set0 _).set1 _, gb_set (p := ⟨rb, 1, none⟩) (gb_set (p := ⟨rb, 0, none⟩) (gb_drewN hgb.out k) rfl _) rfl _⟩
    · obtain ⟨n, hn⟩ : ∃ n, (unpackL r.data.toList).2.1 = n := ⟨_, rfl⟩
      obtain ⟨t, ht⟩ : ∃ t : ByteArray, t.data.toList = (unpackL r.data.toList).1 := ⟨⟨(unpackL r.data.toList).1.toArray⟩, by simp⟩
      have HU : Hid (unpackL r.data.toList = (t.data.toList, n, 0)) := by
        show _ = _
        rw [← hn, ht, ← h1]
      have hc2 := hid (hcome.out.step HU.out)
      have n1 : n ≤ r.size := by rw [← hn]; exact h4
      have n0 : 3 ≤ n := by omega
      clear h1 h3 h4 h5 h6 hn ht hcome
      have far : u6.ownBlock ≠ some rb := fun he => by
        have := (hown.out.1.lt rb he).1
        omega
      go_wp2_with fail
      refine (unpackR_any _ t n 0 _ (by omega) HU).mono ?_
      rintro e w1 ⟨rfl, k, rfl⟩
      have hown1 := hid ((show Own (wr.drewN k) w.heap.size u6 acc from hown.out).1)
      have hblk1 := hid (hblk.out.drewN k)
      have hgb1 := hid (gb_drewN hgb.out k)
      have hrest : Hid (restSize wr rb = r.size) := hblk.out.rest
      clear c0 c1 f0 f1 hown hblk hgb
      generalize wr.drewN k = wq at hown1 hblk1 hgb1
      have c0 := hblk1.out.cell0
      have f0 := hblk1.out.free 0
      have hs := hgb1.out.size
      have hrb := hblk1.out.lt
      go_wp2_with (at_builtin; refine wpList_append_lies _ rfl _ _ 22 rfl w.heap.size 9 i0 _ 1 16 Try.underlying22 hi0 hz0 hz1 hz2 rfl (by omega) u6 acc.length (acc.map .string) rfl (hown1.out.alloc _) ⟨wq.heap.size, 0, none⟩ 1 1 [.string t] rfl rfl (World.news_of_block (cs := #[.string t]) (t := 9) (fr := (0, 0)) (heap_alloc_new wq _)) (by simp [Value.oneCell']) (by omega) (by unfold maxLen; omega) (by omega) (by simp; omega) (wq.heap.size + 1) (by simp) ?_; intro gg cap w1 hown2 hgrow hat hlt2; have hblk2 : Hid (Blk w1 rb r false 40) := (hblk1.out.alloc _).grown hgrow (Ne.symm far); have c2 := hblk2.out.cell0; have f2 := hblk2.out.free 0)
      have hown3 : Hid (Own (w1.setCell ⟨rb, 0, none⟩ (.string (r.extract n r.size))) w.heap.size (.slice (some ⟨gg, 0, none⟩) (acc.length + 1) cap) (acc ++ [t])) := by
        refine ⟨?_, fun h => by simp at h⟩
        rw [List.length_append, List.map_append]
        exact ownsRow_setCell_below hown2 hlt _
      have hblk3 := hid (hblk2.out.set0 (r.extract n r.size))
      have hgb3 := hid (gb_set (p := ⟨rb, 0, none⟩) ((gb_alloc hgb1.out (.cells #[.string t] 9)).andThen hgrow (fun j hj => .inl (hown1.out.lt j hj).1)) rfl (.string (r.extract n r.size)))
      have hbd3 : (acc ++ [t]).length + (r.extract n r.size).size ≤ 200000 := by
        rw [List.length_append, ext_size]
        simp
        omega
      clear hown1 hblk1 hgb1 c0 f0 far hown2 hgrow hat hlt2 hblk2 c2 f2
      go_roundw
      case rel => exact ⟨acc ++ [t], r.extract n r.size, hown3.out, hblk3.out, hgb3.out, hbd3, hc2.out⟩
      case measure => rw [hblk3.out.rest, hrest.out, ext_size]; omega

set_option maxHeartbeats 400000 in
theorem feedR_failed (rb : Nat) (R s : ByteArray) (w : World) (hb : Blk w rb R true 40) : Calls Try.prog 17 #[.pointer (some ⟨rb, 0, none⟩), .string s] w (FeedPost rb 40 [] 2 R true w) := by
  have c1 := hb.cell1
  have HB := hid hb
  clear hb
  go_enter Try.func17, Try.ntmps17
  go_wp2_with fail
  go_ret2
  exact ⟨_, rfl, Own.nil _ _, HB.out, World.grownBy.refl _ _⟩

set_option maxHeartbeats 400000 in
theorem feedR_full (rb : Nat) (R s : ByteArray) (w : World) (hb : Blk w rb R false 40) (h1 : R.size ≤ 200000) (h2 : s.size ≤ 1000000) (h : 200000 < R.size + s.size) :
    Calls Try.prog 17 #[.pointer (some ⟨rb, 0, none⟩), .string s] w (FeedPost rb 40 [] 4 R false w) := by
  have c0 := hb.cell0
  have c1 := hb.cell1
  have HB := hid hb
  clear hb
  go_enter Try.func17, Try.ntmps17
  go_wp2_with fail
  go_ret2
  exact ⟨_, rfl, Own.nil _ _, HB.out, World.grownBy.refl _ _⟩

theorem feedR_any (rb : Nat) (R s : ByteArray) (f : Bool) (L : List ByteArray) (er : Int) (R' : ByteArray) (fl : Bool) (w : World) (hb : Hid (Blk w rb R f 40)) (h1 : R.size ≤ 200000) (h2 : s.size ≤ 1000000)
    (H : Hid (feedL R.data.toList f s.data.toList = (lists L, er, R'.data.toList, fl))) :
    Calls Try.prog 17 #[.pointer (some ⟨rb, 0, none⟩), .string s] w (FeedPost rb 40 L er R' fl w) := by
  cases f with
  | true =>
    have h := H.out
    rw [feedL_failed] at h
    injection h with e1 h
    injection h with e2 h
    injection h with e3 e4
    obtain rfl : [] = L := lists_inj [] L e1
    obtain rfl : R = R' := bytes_ext e3
    subst e2 e4
    exact feedR_failed rb R s w hb.out
  | false =>
    by_cases hl : 200000 < R.size + s.size
    · have h := H.out
      rw [feedL_full _ _ hl] at h
      injection h with e1 h
      injection h with e2 h
      injection h with e3 e4
      obtain rfl : [] = L := lists_inj [] L e1
      obtain rfl : R = R' := bytes_ext e3
      subst e2 e4
      exact feedR_full rb R s w hb.out h1 h2 hl
    · exact feedR_drains rb R s L er R' fl w hb.out (by omega) H

/-! ### Texts: two slices that hold the same texts -/
/-- A slice of n texts that lies at a: element i is S i. -/
def Tx (w : World) (B : Nat) (a : Option Addr) (n : Nat) (S : Nat → ByteArray) : Prop :=
  0 < n → ∃ b off, a = some ⟨b, off, none⟩ ∧ b < B ∧ ∀ i, i < n → w.cell? ⟨b, off + i, none⟩ = some (.string (S i))
theorem Tx.at_ {w : World} {B n : Nat} {a : Option Addr} {S : Nat → ByteArray} (h : Tx w B a n S) {i : Nat} (hi : i < n) :
    ∃ b off, a = some ⟨b, off, none⟩ ∧ w.cell? ⟨b, off + i, none⟩ = some (.string (S i)) := by
  obtain ⟨b, off, e, hb, hc⟩ := h (by omega)
  exact ⟨b, off, e, hc i hi⟩
theorem Tx.below {w w' : World} {B n : Nat} {a : Option Addr} {S : Nat → ByteArray} (h : Tx w B a n S) (hb : Below B w w') : Tx w' B a n S := by
  intro hn
  obtain ⟨b, off, e, hB, hc⟩ := h hn
  exact ⟨b, off, e, hB, fun i hi => (hb.cell (p := ⟨b, off + i, none⟩) hB).trans (hc i hi)⟩
theorem Tx.more {w : World} {B B' n : Nat} {a : Option Addr} {S : Nat → ByteArray} (h : Tx w B a n S) (hB : B ≤ B') : Tx w B' a n S := by
  intro hn
  obtain ⟨b, off, e, hb, hc⟩ := h hn
  exact ⟨b, off, e, by omega, hc⟩
theorem Tx.drewN {w : World} {B n : Nat} {a : Option Addr} {S : Nat → ByteArray} (h : Tx w B a n S) (k : Nat) : Tx (w.drewN k) B a n S := h

set_option maxHeartbeats 800000 in
theorem texts_same (a c : Option Addr) (n p q : Nat) (S : Nat → ByteArray) (B : Nat) (w : World) (hn : n ≤ 1000000) (ha : Tx w B a n S) (hc : Tx w B c n S) :
    Calls Try.prog 12 #[.slice a n p, .slice c n q] w (Drawn (.bool true) w) := by
  have HA := hid ha
  have HC := hid hc
  clear ha hc
  unfold Drawn
  have hq : ((n : Int) == (n : Int)) = true := by simp
  go_enter Try.func12, Try.ntmps12
  go_wp2_with fail
  go_loopw [5] (fun i wr => ∃ k m : Nat, k ≤ n ∧ i = .int .i64 k ∧ wr = w.drewN m) (fun i _ => n - (intOf i).toNat)
  case atStart => exact ⟨0, 0, Nat.zero_le _, rfl, rfl⟩
  case round =>
    obtain ⟨k, m, hk, rfl, rfl⟩ := hrel
    by_cases hlt : k < n
    · obtain ⟨b, off, rfl, e0⟩ := HA.out.at_ hlt
      obtain ⟨d, offd, rfl, e1⟩ := HC.out.at_ hlt
      generalize S k = t at e0 e1
      have hk0 : (0 : Int) ≤ (k : Int) := Int.natCast_nonneg _
      have hk1 : (k : Int) < (n : Int) := by omega
      go_wp2_with fail
      go_quiet (fail)
      go_wp2_with fail
      go_roundw
      case rel => exact ⟨k + 1, _, by omega, by go_num, rfl⟩
      case measure => simp [intOf]; omega
    · go_wp2_with fail
      go_ret
      exact ⟨rfl, _, rfl⟩

end Go.Proofs.Ytbghjmgijjhihaa
