/-
  The contract of (*stream.Reader).Feed, over the translation.
-/
import Derived.Test.YtbghjmgijjhihaaMem
import Derived.Deep.RegionLaw
namespace Go.Proofs.Ytbghjmgijjhihaa
open Go.RowKit

/-- The texts as lists of bytes. -/
def lists (L : List ByteArray) : List (List UInt8) := L.map (·.data.toList)
theorem lists_inj : ∀ (L M : List ByteArray), lists L = lists M → L = M := by
  intro L
  induction L with
  | nil => intro M h; cases M with
    | nil => rfl
    | cons a M => simp [lists] at h
  | cons a L ih => intro M h; cases M with
    | nil => simp [lists] at h
    | cons b M =>
      simp only [lists, List.map_cons] at h
      injection h with h1 h2
      rw [bytes_ext h1, ih M h2]
theorem lists_snoc (L : List ByteArray) (t : ByteArray) : lists (L ++ [t]) = lists L ++ [t.data.toList] := by simp [lists]

/-- What a call of Feed leaves. -/
def FeedPost (rb : Nat) (T : TypeId) (L : List ByteArray) (er : Int) (R : ByteArray) (fl : Bool) (w : World) (e : Ending) (w' : World) : Prop :=
  ∃ v, e = .returned (.tuple #[v, .int .i64 er]) ∧ Own w' w.heap.size v L ∧ Blk w' rb R fl T ∧ w.grownBy w' (some rb)

/-- How far a call of Feed has come: the texts that are told, what waits. -/
def Come (F : Nat) (X : List UInt8) (acc : List ByteArray) (r : ByteArray) : Prop :=
  ∃ f, r.size < f ∧ drain F X = (lists acc ++ (drain f r.data.toList).1, (drain f r.data.toList).2)
theorem Come.start (X : List UInt8) (r : ByteArray) (h : r.data.toList = X) : Come (r.size + 1) X [] r := ⟨r.size + 1, by omega, by rw [h]; simp [lists]⟩
theorem Come.step {F : Nat} {X : List UInt8} {acc : List ByteArray} {r t : ByteArray} {n : Nat} (h : Come F X acc r) (hu : unpackL r.data.toList = (t.data.toList, n, 0)) : Come F X (acc ++ [t]) (r.extract n r.size) := by
  obtain ⟨f, hf, he⟩ := h
  obtain ⟨f, rfl⟩ : ∃ g, f = g + 1 := ⟨f - 1, by omega⟩
  have hc := unpackL_cases r.data.toList
  rw [hu] at hc
  have hn : 3 ≤ n ∧ n ≤ r.data.toList.length := by
    rcases hc with ⟨h, _⟩ | ⟨h, _⟩ | ⟨_, h3, hl, _⟩
    · simp at h
    · simp at h
    · exact ⟨h3, hl⟩
  have hl : r.data.toList.length = r.size := rfl
  have hx : (r.extract n r.size).data.toList = r.data.toList.drop n := by
    rw [Lib.extract_data, List.take_of_length_le (by rw [List.length_drop]; omega)]
  refine ⟨f, ?_, ?_⟩
  · have : (r.extract n r.size).size = (r.data.toList.drop n).length := by rw [← hx]; rfl
    rw [this, List.length_drop]
    omega
  · rw [he, drain_more f _ (by rw [hu]), hu, hx, lists_snoc]
    simp
theorem Come.cut {R s : ByteArray} {acc : List ByteArray} {r : ByteArray} (h : Come (R.size + s.size + 1) (R.data.toList ++ s.data.toList) acc r) (hu : (unpackL r.data.toList).2.2 = 3) (hl : ¬ 200000 < R.size + s.size)
    {L : List ByteArray} {er : Int} {R' : ByteArray} {fl : Bool} (H : feedL R.data.toList false s.data.toList = (lists L, er, R'.data.toList, fl)) : L = acc ∧ er = 0 ∧ R' = r ∧ fl = false := by
  obtain ⟨f, hf, he⟩ := h
  obtain ⟨f, rfl⟩ : ∃ g, f = g + 1 := ⟨f - 1, by omega⟩
  rw [drain_cut f _ hu, List.append_nil] at he
  rw [feedL_some R.data.toList s.data.toList _ _ hl he] at H
  injection H with h1 H
  injection H with h2 H
  injection H with h3 h4
  exact ⟨lists_inj _ _ h1.symm, h2.symm, bytes_ext h3.symm, h4.symm⟩
theorem Come.form {R s : ByteArray} {acc : List ByteArray} {r : ByteArray} (h : Come (R.size + s.size + 1) (R.data.toList ++ s.data.toList) acc r) (hu : (unpackL r.data.toList).2.2 = 2) (hl : ¬ 200000 < R.size + s.size)
    {L : List ByteArray} {er : Int} {R' : ByteArray} {fl : Bool} (H : feedL R.data.toList false s.data.toList = (lists L, er, R'.data.toList, fl)) : L = [] ∧ er = 2 ∧ R' = ⟨#[]⟩ ∧ fl = true := by
  obtain ⟨f, hf, he⟩ := h
  obtain ⟨f, rfl⟩ : ∃ g, f = g + 1 := ⟨f - 1, by omega⟩
  rw [drain_form f _ hu] at he
  rw [feedL_none R.data.toList s.data.toList _ hl he] at H
  injection H with h1 H
  injection H with h2 H
  injection H with h3 h4
  exact ⟨lists_inj _ [] h1.symm, h2.symm, bytes_ext h3.symm, h4.symm⟩

theorem ext_size (r : ByteArray) (n : Nat) : (r.extract n r.size).size = r.size - n := by
  have : (r.extract n r.size).size = (r.extract n r.size).data.toList.length := rfl
  rw [this, Lib.extract_data, List.length_take, List.length_drop]
  have hl : r.data.toList.length = r.size := rfl
  omega

/-- How many bytes wait in block b: for the loop's measure. -/
def restSize (w : World) (b : Nat) : Nat := match w.cell? ⟨b, 0, none⟩ with | some (.string r) => r.size | _ => 0
theorem Blk.rest {w : World} {b : Nat} {r : ByteArray} {f : Bool} {T : TypeId} (h : Blk w b r f T) : restSize w b = r.size := by
  unfold restSize; rw [h.cell0]

set_option maxRecDepth 100000 in
set_option maxHeartbeats 1600000 in
theorem feed_drains (rb : Nat) (R s : ByteArray) (L : List ByteArray) (er : Int) (R' : ByteArray) (fl : Bool) (w : World) (hb : Blk w rb R false 45) (hl : R.size + s.size ≤ 200000)
    (H : Hid (feedL R.data.toList false s.data.toList = (lists L, er, R'.data.toList, fl))) :
    Calls Try.prog 11 #[.pointer (some ⟨rb, 0, none⟩), .string s] w (FeedPost rb 45 L er R' fl w) := by
  obtain ⟨i0, hi0, hz0, hz1, hz2⟩ := info_parts info9
  have c0 := hb.cell0
  have c1 := hb.cell1
  have f0 := hb.free 0
  have f1 := hb.free 1
  have hs0 := hid (hb.set0 (R ++ s))
  have hlt := hb.lt
  have HC : Hid (Come (R.size + s.size + 1) (R.data.toList ++ s.data.toList) [] (R ++ s)) := by
    have := Come.start (R.data.toList ++ s.data.toList) (R ++ s) (by rw [ByteArray.data_append, Array.toList_append])
    rwa [ByteArray.size_append] at this
  have hsz : (R ++ s).size ≤ 200000 := by rw [ByteArray.size_append]; exact hl
  have hsz' : R.size + s.size ≤ 9223372036854775807 := by omega
  clear hb
  go_enter Try.func11, Try.ntmps11
  go_wp2_with fail
  clear c0 c1 f0 f1
  go_loopw [4] (fun v wr => ∃ (acc : List ByteArray) (r : ByteArray), Hid (Own wr w.heap.size v acc) ∧ Hid (Blk wr rb r false 45) ∧ Hid (w.grownBy wr (some rb)) ∧ acc.length + r.size ≤ 200000 ∧ Hid (Come (R.size + s.size + 1) (R.data.toList ++ s.data.toList) acc r))
    (fun _ wr => restSize wr rb)
  case atStart => exact ⟨[], R ++ s, Own.nil _ _, hs0, gb_set (World.grownBy.refl _ _) rfl _, by simpa using hsz, HC⟩
  case round =>
    obtain ⟨acc, r, hown, hblk, hgb, hbd, hcome⟩ := hrel
    have c0 := hblk.out.cell0
    have c1 := hblk.out.cell1
    have f0 := hblk.out.free 0
    have f1 := hblk.out.free 1
    rcases unpackL_cases r.data.toList with ⟨h1, h2, h3⟩ | ⟨h1, h2, h3⟩ | ⟨h1, h3, h4, h5, h6⟩
    · have HU : Hid (unpackL r.data.toList = ((⟨#[]⟩ : ByteArray).data.toList, 0, 3)) := by
        show _ = _
        rw [← h1, ← h3]; show unpackL r.data.toList = ([], _, _); rw [← h2]
      obtain ⟨rfl, rfl, rfl, rfl⟩ := hcome.out.cut h1 (by omega) H.out
      clear h1 h2 h3
      go_wp2_with fail
      refine (unpack_any _ ⟨#[]⟩ 0 3 _ (by omega) HU).mono ?_
      rintro e w1 ⟨rfl, k, rfl⟩
      go_wp2_with fail
      go_ret2
      exact ⟨_, rfl, hown.out, hblk.out, gb_drewN hgb.out _⟩
    · have HU : Hid (unpackL r.data.toList = ((⟨#[]⟩ : ByteArray).data.toList, 0, 2)) := by
        show _ = _
        rw [← h1, ← h3]; show unpackL r.data.toList = ([], _, _); rw [← h2]
      obtain ⟨rfl, rfl, rfl, rfl⟩ := hcome.out.form h1 (by omega) H.out
      clear h1 h2 h3
      go_wp2_with fail
      refine (unpack_any _ ⟨#[]⟩ 0 2 _ (by omega) HU).mono ?_
      rintro e w1 ⟨rfl, k, rfl⟩
      go_wp2_with fail
      go_ret2
      exact ⟨_, rfl, Own.nil _ _, (hblk.out.set0 _).set1 _, gb_set (p := ⟨rb, 1, none⟩) (gb_set (p := ⟨rb, 0, none⟩) (gb_drewN hgb.out k) rfl _) rfl _⟩
    · obtain ⟨n, hn⟩ : ∃ n, (unpackL r.data.toList).2.1 = n := ⟨_, rfl⟩
      obtain ⟨t, ht⟩ : ∃ t : ByteArray, t.data.toList = (unpackL r.data.toList).1 := ⟨⟨(unpackL r.data.toList).1.toArray⟩, by simp⟩
      have HU : Hid (unpackL r.data.toList = (t.data.toList, n, 0)) := by
        show _ = _
        rw [← hn, ht, ← h1]
      have hc2 := hid (hcome.out.step HU.out)
      have n1 : n ≤ r.size := by rw [← hn]; exact h4
      have n0 : 3 ≤ n := by omega
      clear h1 h3 h4 h5 h6 hn ht hcome
      go_wp2_with fail
      refine (unpack_any _ t n 0 _ (by omega) HU).mono ?_
      rintro e w1 ⟨rfl, k, rfl⟩
      go_wp2_with fail
      have hown1 := hid ((show Own (wr.drewN k) w.heap.size u4 acc from hown.out).1)
      have hblk1 := hid (hblk.out.drewN k)
      have hgb1 := hid (gb_drewN hgb.out k)
      have hrest : Hid (restSize wr rb = r.size) := hblk.out.rest
      clear c0 c1 f0 f1 hown hblk hgb
      generalize wr.drewN k = wq at hown1 hblk1 hgb1
      have c0 := hblk1.out.cell0
      have f0 := hblk1.out.free 0
      have far : u4.ownBlock ≠ some rb := fun he => by
        have := (hown1.out.lt rb he).1
        omega
      have hs := hgb1.out.size
      have hrb := hblk1.out.lt
      have hfa : (wq.alloc (.cells #[.string t] 9)).frozen? ⟨rb, 0, none⟩ = false := by rw [World.frozen?_alloc_old _ _ _ (by simp; omega)]; exact f0
      go_region_law ((refine step_append_lies _ (by rfl) _ _ _ (by rfl) w.heap.size 9 i0 _ 1 16 Try.underlying22 hi0 hz0 hz1 hz2 rfl (by omega) u4 acc.length (acc.map .string) (by rfl) ((hown1.out.alloc _).drew) ⟨wq.heap.size, 0, none⟩ 1 1 [.string t] (by rfl) (by rfl) (World.news_of_block (cs := #[.string t]) (t := 9) (fr := (0, 0)) (heap_alloc_new wq _)) (by simp [Value.oneCell']) (by omega) (by unfold maxLen; omega) (by omega) (by simp; omega) (wq.heap.size + 1) (by simp) ?_; intro gg cap w1 hown2 hgrow hat hlt2; have hblk2 : Hid (Blk w1 rb r false 45) := ((hblk1.out.alloc _).drew).grown hgrow (Ne.symm far); have c2 := hblk2.out.cell0; have f2 := hblk2.out.free 0))
      all_goals
        have hown3 : Hid (Own (w1.setCell ⟨rb, 0, none⟩ (.string (r.extract n r.size))) w.heap.size (.slice (some ⟨gg, 0, none⟩) (acc.length + 1) cap) (acc ++ [t])) := by
          refine ⟨?_, fun h => by simp at h⟩
          rw [List.length_append, List.map_append]
          exact ownsRow_setCell_below hown2 hlt _
        have hblk3 := hid (hblk2.out.set0 (r.extract n r.size))
        have hgb3 := hid (gb_set (p := ⟨rb, 0, none⟩) ((gb_drew (gb_alloc hgb1.out (.cells #[.string t] 9))).andThen hgrow (fun j hj => .inl (hown1.out.lt j hj).1)) rfl (.string (r.extract n r.size)))
        have hbd3 : (acc ++ [t]).length + (r.extract n r.size).size ≤ 200000 := by
          rw [List.length_append, ext_size]
          simp
          omega
        clear hown1 hblk1 hgb1 c0 f0 far hfa hown2 hgrow hat hlt2 hblk2 c2 f2
        go_wp2_with fail
        go_roundw
        case rel => exact ⟨acc ++ [t], r.extract n r.size, hown3.out, hblk3.out, hgb3.out, hbd3, hc2.out⟩
        case measure => rw [hblk3.out.rest, hrest.out, ext_size]; omega

end Go.Proofs.Ytbghjmgijjhihaa
