/-
  The contract of the statements' own 'live' of layer 6, over the translation: true.
-/
import Derived.Test.YtbghjmgijjhihaaMore
namespace Go.Proofs.Ytbghjmgijjhihaa
open Go.RowKit

theorem pack_two : packB ⟨#[97, 98]⟩ = (⟨#[0, 2, 97, 98]⟩, 0) := by
  have h : headB ⟨#[97, 98]⟩ ++ ⟨#[97, 98]⟩ = (⟨#[0, 2, 97, 98]⟩ : ByteArray) := by
    apply bytes_ext
    rw [head_list]
    rfl
  show (if 1 ≤ (⟨#[97, 98]⟩ : ByteArray).size ∧ (⟨#[97, 98]⟩ : ByteArray).size ≤ 65535 then (headB ⟨#[97, 98]⟩ ++ ⟨#[97, 98]⟩, (0 : Int)) else (⟨#[]⟩, 1)) = _
  rw [if_pos ⟨by decide, by decide⟩, h]
theorem feed1 : feedL [] false [0, 2, 97] = (lists [], 0, [0, 2, 97], false) := by decide
theorem feed2 : feedL [0, 2, 97] false [98, 0] = (lists [⟨#[97, 98]⟩], 0, [0], false) := by decide
theorem feed3 : feedL [0] false [0] = (lists [], 2, [], true) := by decide
theorem feed4 : feedL [] true [] = (lists [], 2, [], true) := by decide

theorem head3 : ((⟨#[0, 2, 97, 98]⟩ : ByteArray).extract 0 3).data.toList = [0, 2, 97] := by rw [Lib.extract_data]; rfl
theorem tail3 : ((⟨#[0, 2, 97, 98]⟩ : ByteArray).extract 3 4 ++ ⟨#[0]⟩).data.toList = [98, 0] := by
  rw [ByteArray.data_append, Array.toList_append, Lib.extract_data]; rfl
theorem size_by {s : ByteArray} {l : List UInt8} (h : s.data.toList = l) (hl : l.length ≤ 1000000) : s.size ≤ 1000000 := by
  have : s.size = s.data.toList.length := rfl
  rw [this, h]; exact hl
/-- A slice that owns nothing is nil; one that owns one text has one. -/
theorem Own.none_ {w : World} {base : Nat} {v : Value} (h : Own w base v []) : v = .slice none 0 0 := h.2 rfl
theorem Own.one_ {w : World} {base : Nat} {v : Value} {t : ByteArray} (h : Own w base v [t]) : ∃ g c, v = .slice (some ⟨g, 0, none⟩) 1 c := by
  obtain ⟨g, c, e, _⟩ := h.1.form (by simp)
  exact ⟨g, c, e⟩
/-- Feed, met inside a call that began at w0: the reader is the call's own. -/
theorem below_feed {w0 w w' : World} {rb : Nat} (hb : Below w0.heap.size w0 w) (hg : w.grownBy w' (some rb)) (hrb : w0.heap.size ≤ rb) : Below w0.heap.size w0 w' :=
  hb.grown hg hb.size (fun k hk => by injection hk with hk; omega)

set_option maxHeartbeats 1000000 in
theorem live_any (w : World) : Calls Try.prog 8 #[] w fun e w' => e = .returned (.bool true) ∧ Below w.heap.size w w' := by
  have H1 := hid pack_two
  go_enter Try.func8, Try.ntmps8
  go_wp2_with fail
  refine (pack_any _ ⟨#[0, 2, 97, 98]⟩ 0 _ (by decide) H1).mono ?_
  rintro e w1 ⟨rfl, b1⟩
  go_wp2_with fail
  refine (unpack_any _ ⟨#[97, 98]⟩ 4 0 _ (by rw [ByteArray.size_append]; decide) (show _ = _ by rw [ByteArray.data_append]; decide)).mono ?_
  rintro e w2 ⟨rfl, k, rfl⟩
  have b2 := hid (below_drewN b1 k)
  clear b1
  generalize w1.drewN k = w2 at b2
  go_wp2_with fail
  refine (new_any _).mono ?_
  rintro e w3 ⟨rfl, rfl⟩
  have hb3 := hid (Blk.new w2 ⟨#[]⟩ false 45)
  have b3 := hid (b2.out.alloc b2.out.size (.cells #[.string ⟨#[]⟩, .bool false] 45))
  have hrb := b2.out.size
  generalize w2.alloc (.cells #[.string ⟨#[]⟩, .bool false] 45) = w3 at hb3 b3
  generalize w2.heap.size = rb at hb3 hrb
  clear b2
  go_wp2_with fail
  refine (feed_any rb ⟨#[]⟩ _ false [] 0 ⟨#[0, 2, 97]⟩ false _ hb3 (by decide) (size_by head3 (by decide)) (show _ = _ by rw [head3]; exact feed1)).mono ?_
  rintro e w4 ⟨v, rfl, ho4, hk4, hg4⟩
  obtain rfl := ho4.none_
  have hb4 := hid hk4
  have b4 := hid (below_feed b3.out hg4 hrb)
  clear hb3 b3 ho4 hk4 hg4
  go_wp2_with fail
  refine (feed_any rb ⟨#[0, 2, 97]⟩ _ false [⟨#[97, 98]⟩] 0 ⟨#[0]⟩ false _ hb4 (by decide) (size_by tail3 (by decide)) (show _ = _ by rw [tail3]; exact feed2)).mono ?_
  rintro e w5 ⟨v, rfl, ho5, hk5, hg5⟩
  obtain ⟨g, c, rfl⟩ := ho5.one_
  have hb5 := hid hk5
  have b5 := hid (below_feed b4.out hg5 hrb)
  clear hb4 b4 ho5 hk5 hg5
  go_wp2_with fail
  refine (feed_any rb ⟨#[0]⟩ _ false [] 2 ⟨#[]⟩ true _ hb5 (by decide) (by decide) (show _ = _ from feed3)).mono ?_
  rintro e w6 ⟨v, rfl, ho6, hk6, hg6⟩
  obtain rfl := ho6.none_
  have hb6 := hid hk6
  have b6 := hid (below_feed b5.out hg6 hrb)
  clear hb5 b5 ho6 hk6 hg6
  go_wp2_with fail
  refine (feed_any rb ⟨#[]⟩ _ true [] 2 ⟨#[]⟩ true _ hb6 (by decide) (by decide) (show _ = _ from feed4)).mono ?_
  rintro e w7 ⟨v, rfl, ho7, hk7, hg7⟩
  obtain rfl := ho7.none_
  have hb7 := hid hk7
  have b7 := hid (below_feed b6.out hg7 hrb)
  clear hb6 b6 ho7 hk7 hg7
  go_wp2_with fail
  refine (waits_any rb ⟨#[]⟩ true _ hb7.out).mono ?_
  rintro e w8 ⟨rfl, rfl⟩
  go_wp2_with fail
  go_ret
  exact ⟨rfl, b7.out⟩

end Go.Proofs.Ytbghjmgijjhihaa
