/-
  The walk of the statement StreamFeeds: it returns true, and below the heap's size at the call nothing has turned.
-/
import Derived.Test.YtbghjmgijjhihaaLaws
namespace Go.Proofs.Ytbghjmgijjhihaa
open Go.RowKit

/-- What is left, and how many texts there are, is no more than what was there. -/
theorem drain_bounds : ∀ (f : Nat) (x : List UInt8), (drain f x).1.length ≤ x.length ∧ ∀ r, (drain f x).2 = some r → r.length ≤ x.length := by
  intro f
  induction f with
  | zero => intro x; exact ⟨Nat.zero_le _, fun r h => by injection h with h; subst h; exact Nat.le_refl _⟩
  | succ f ih =>
    intro x
    rcases unpackL_cases x with ⟨h, _⟩ | ⟨h, _⟩ | ⟨h, h3, hl, _⟩
    · rw [drain_cut f x h]; exact ⟨Nat.zero_le _, fun r h => by injection h with h; subst h; exact Nat.le_refl _⟩
    · rw [drain_form f x h]; exact ⟨Nat.zero_le _, fun r h => by cases h⟩
    · rw [drain_more f x h]
      obtain ⟨i1, i2⟩ := ih (x.drop (unpackL x).2.1)
      rw [List.length_drop] at i1 i2
      exact ⟨by simp only [List.length_cons]; omega, fun r hr => by have := i2 r hr; omega⟩

/-- What Feed does, named. -/
theorem feed_is (R s : ByteArray) (f : Bool) (h : R.size ≤ 200000) : ∃ (L : List ByteArray) (er : Int) (R' : ByteArray) (fl : Bool),
    Hid (feedL R.data.toList f s.data.toList = (lists L, er, R'.data.toList, fl)) ∧ R'.size ≤ 200000 ∧ L.length ≤ 200000 := by
  have hR : R.data.toList.length = R.size := rfl
  have hs : s.data.toList.length = s.size := rfl
  cases f with
  | true => exact ⟨[], 2, R, true, feedL_failed _ _, h, by simp⟩
  | false =>
    by_cases hl : 200000 < R.size + s.size
    · exact ⟨[], 4, R, false, feedL_full _ _ hl, h, by simp⟩
    · obtain ⟨D, hD⟩ : ∃ D, drain (R.data.toList.length + s.data.toList.length + 1) (R.data.toList ++ s.data.toList) = D := ⟨_, rfl⟩
      obtain ⟨b1, b2⟩ := drain_bounds (R.data.toList.length + s.data.toList.length + 1) (R.data.toList ++ s.data.toList)
      rw [hD, List.length_append] at b1 b2
      obtain ⟨M, q⟩ := D
      cases q with
      | none => exact ⟨[], 2, ⟨#[]⟩, true, feedL_none _ _ M hl hD, by decide, by simp⟩
      | some r =>
        refine ⟨M.map (fun l => ⟨l.toArray⟩), 0, ⟨r.toArray⟩, false, ?_, ?_, ?_⟩
        · show _ = _
          rw [feedL_some _ _ r M hl hD]
          have : lists (M.map (fun l => (⟨l.toArray⟩ : ByteArray))) = M := by
            rw [lists, List.map_map]
            exact (List.map_congr_left fun x _ => rfl).trans (List.map_id M)
          rw [this]
        · have := b2 r rfl
          show r.toArray.size ≤ _
          simp
          omega
        · simp only [List.length_map]
          simp only at b1
          omega

/-- A slice that a call owns, read as texts. -/
theorem own_tx {w : World} {base : Nat} {v : Value} {L : List ByteArray} (h : Own w base v L) : ∃ la lcap, v = .slice la L.length lcap ∧ Tx w w.heap.size la L.length (fun i => L.getD i ⟨#[]⟩) := by
  rcases Nat.eq_zero_or_pos L.length with hz | hz
  · obtain rfl : L = [] := List.eq_nil_of_length_eq_zero hz
    exact ⟨none, 0, h.2 rfl, fun h => absurd h (by simp)⟩
  · obtain ⟨g, c, rfl, hg0, hg1⟩ := h.1.form hz
    refine ⟨_, _, rfl, fun _ => ⟨g, 0, rfl, hg1, fun i hi => ?_⟩⟩
    rw [Nat.zero_add, h.1.cellAt i (by omega)]
    show _ = some (Value.string (L.getD i ⟨#[]⟩))
    rw [List.getElem?_map, List.getD_eq_getElem?_getD, List.getElem?_eq_getElem hi]
    rfl

theorem Tx.lt {w : World} {B n b off : Nat} {S : Nat → ByteArray} (h : Tx w B (some ⟨b, off, none⟩) n S) (hn : 0 < n) : b < B := by
  obtain ⟨b', off', e, hb, _⟩ := h hn
  injection e with e
  injection e with e1 e2
  omega
theorem Own.kept_ {w w' : World} {base : Nat} {v : Value} {L : List ByteArray} {b : Nat} (h : Own w base v L) (hg : w.grownBy w' (some b)) (hb : b < base) : Own w' base v L :=
  ⟨h.1.kept hg (.inr fun he => by have := (h.1.lt b he).1; omega), h.2⟩

theorem waits_quiet (rb : Nat) (R : ByteArray) (fl : Bool) (w : World) (hb : Blk w rb R fl 45) : Calls Try.prog 13 #[.pointer (some ⟨rb, 0, none⟩)] w fun e w' => e = .returned (.int .i64 R.size) ∧ w' = w :=
  (waits_any rb R fl w hb).mono fun _ _ ⟨he, hw⟩ => ⟨he, hw.symm⟩

theorem new_at (B : Nat) (w : World) (hB : Hid (w.heap.size = B)) : Calls Try.prog 10 #[] w fun e w' => e = .returned (.pointer (some ⟨B, 0, none⟩)) ∧ w.alloc (.cells #[.string ⟨#[]⟩, .bool false] 45) = w' :=
  (new_any w).mono fun _ _ ⟨he, hw⟩ => ⟨by rw [← hB.out]; exact he, hw⟩

/-- The two readers, side by side: what waits in both, and what is beside them. -/
def Both (B kb : Nat) (w wr : World) (R : ByteArray) (f : Bool) : Prop := Blk wr B R f 45 ∧ Blk wr kb R f 40 ∧ Below B w wr ∧ B < kb

set_option maxHeartbeats 1600000 in
theorem feeds_walk (a : Option Addr) (n cap : Nat) (S : Nat → ByteArray) (w : World) (hm : n ≤ maxLen) (hz : ∀ j, j < n → (S j).size ≤ maxLen) (hr : Tx w w.heap.size a n S) :
    Calls Try.prog 6 #[.slice a n cap] w fun e w' => e = .returned (.bool true) ∧ Below w.heap.size w w' := by
  unfold maxLen at hm hz
  have HZ := hid hz
  have HR := hid hr
  clear hz hr
  by_cases hn : 20 < n
  · go_enter Try.func6, Try.ntmps6
    go_wp2_with fail
    refine (live_any _).mono ?_
    rintro e w4 ⟨rfl, b4⟩
    go_wp2_with fail
    go_ret
    exact ⟨rfl, b4⟩
  have hn1 : n ≤ 20 := by omega
  clear hn
  obtain ⟨B, hB⟩ : ∃ B, Hid (w.heap.size = B) := ⟨_, rfl⟩
  rw [hB.out] at HR ⊢
  go_enter Try.func6, Try.ntmps6
  go_wp2_with fail
  refine (new_at B _ hB).mono ?_
  rintro e w1 ⟨rfl, rfl⟩
  have hb1 : Hid (Blk (w.alloc (.cells #[.string ⟨#[]⟩, .bool false] 45)) B ⟨#[]⟩ false 45) := by
    have := Blk.new w ⟨#[]⟩ false 45
    rw [hB.out] at this
    exact this
  have b1 := hid ((Below.refl B w).alloc (Nat.le_of_eq hB.out.symm) (.cells #[.string ⟨#[]⟩, .bool false] 45))
  generalize w.alloc (.cells #[.string ⟨#[]⟩, .bool false] 45) = w1 at hb1 b1
  go_wp2_with fail
  have hbo : Hid (Both B w1.heap.size w (w1.alloc (.cells #[.string ⟨#[]⟩, .bool false] 40)) ⟨#[]⟩ false) :=
    ⟨hb1.out.alloc _, Blk.new w1 _ _ _, b1.out.alloc (Nat.le_of_lt hb1.out.lt) _, hb1.out.lt⟩
  clear hb1 b1
  generalize w1.alloc (.cells #[.string ⟨#[]⟩, .bool false] 40) = w2 at hbo
  generalize w1.heap.size = kb at hbo
  go_loopw [5] (fun i wr => ∃ (j : Nat) (R : ByteArray) (f : Bool), j ≤ n ∧ i = .int .i64 j ∧ Hid (Both B kb w wr R f) ∧ R.size ≤ 200000) (fun i _ => n - (intOf i).toNat)
  case atStart => exact ⟨0, ⟨#[]⟩, false, Nat.zero_le _, rfl, hbo, by decide⟩
  case round =>
    obtain ⟨j, R, f, hj, rfl, hbt, hR⟩ := hrel
    clear hbo
    by_cases hlt : j < n
    · obtain ⟨b, off, rfl, e0⟩ := (HR.out.below hbt.out.2.2.1).at_ hlt
      have hs := HZ.out j hlt
      have hT := hid (HR.out.below hbt.out.2.2.1)
      by_cases hbig : 5000 < (S j).size
      · generalize S j = s at e0 hs hbig
        go_wp2_with fail
        refine (live_any _).mono ?_
        rintro e w4 ⟨rfl, b4⟩
        go_wp2_with fail
        go_ret
        exact ⟨rfl, hbt.out.2.2.1.trans (b4.mono (Nat.le_of_lt hbt.out.1.lt))⟩
      · have hs2 : (S j).size ≤ 5000 := by omega
        obtain ⟨L, er, R', fl, HF, hR', hL⟩ := feed_is R (S j) f hR
        obtain ⟨hk1, hk2, hbel, hBk⟩ := hbt.out
        have HK1 := hid hk1
        have HK2 := hid hk2
        have HBel := hid hbel
        clear hk1 hk2 hbel hbt hbig
        go_wp2_with fail
        refine (feed_any B R (S j) f L er R' fl wr HK1 hR (by omega) HF).mono ?_
        rintro e w3 ⟨v, rfl, ho3, hk3, hg3⟩
        have HO3 := hid ho3
        have HK3 := hid hk3
        have HK2' := hid (HK2.out.grown hg3 (by intro h; injection h with h; omega))
        have HG3 := hid (HBel.out.grown hg3 (Nat.le_of_lt HK1.out.lt) (fun k hk => by injection hk with hk; omega))
        have hbB := hT.out.lt (by omega)
        have e3 : w3.cell? ⟨b, off + j, none⟩ = some (.string (S j)) := hg3.cell e0 (by intro h; injection h with h; simp only at h; omega)
        have hkb := HK2.out.lt
        have hs3 := hg3.size
        clear e0 ho3 hk3 hg3
        go_wp2_with fail
        refine (feedR_any kb R (S j) f L er R' fl w3 HK2' hR (by omega) HF).mono ?_
        rintro e w4 ⟨v2, rfl, ho4, hk4, hg4⟩
        have HO3' := HO3.out.kept_ hg4 hkb
        have HK4 := hid (HK3.out.grown hg4 (by intro h; injection h with h; omega))
        have HG4 := hid (HG3.out.grown hg4 (Nat.le_of_lt HK3.out.lt) (fun k hk => by injection hk with hk; omega))
        obtain ⟨la, lcap, rfl, tx1⟩ := own_tx HO3'
        obtain ⟨ma, mcap, rfl, tx2⟩ := own_tx ho4
        have HT1 := hid tx1
        have HT2 := hid tx2
        have c0 := hk4.cell0
        have HK5 := hid hk4
        clear HO3 HK2 HK2' HK1 HK3 HG3 HBel e3 ho4 hk4 hg4 HO3' tx1 tx2 HF
        go_wp2_with fail
        go_quiet (first | (go_at_call 12; exact Calls.quiet_of (texts_same la ma L.length lcap mcap _ w4.heap.size _ (by omega) (HT1.out.drewN _) (HT2.out.drewN _))) | (go_at_call 13; exact Calls.quiet_of_same (waits_quiet B R' fl _ (HK4.out.drewN _))))
        clear HT1 HT2 c0 hT
        go_wp2_with fail
        go_roundw
        case rel => exact ⟨j + 1, R', fl, by omega, by go_num, ⟨HK4.out.drewN _, HK5.out.drewN _, below_drewN HG4.out _, hBk⟩, hR'⟩
        case measure => simp [intOf]; omega
    · go_wp2_with fail
      refine (live_any _).mono ?_
      rintro e w4 ⟨rfl, b4⟩
      go_wp2_with fail
      go_ret
      exact ⟨rfl, hbt.out.2.2.1.trans (b4.mono (Nat.le_of_lt hbt.out.1.lt))⟩

end Go.Proofs.Ytbghjmgijjhihaa
