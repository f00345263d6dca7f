/-
  The walk of the statement StreamCut: it returns true, and below the heap's size at the call nothing has turned.
-/
import Derived.Test.YtbghjmgijjhihaaFeeds
import Derived.Test.YtbghjmgijjhihaaCutPlain
import Derived.Laws.AppendOwnNone
namespace Go.Proofs.Ytbghjmgijjhihaa
open Go.RowKit

/-- The first k texts, as bytes. -/
def first (S : Nat → ByteArray) (k : Nat) : List (List UInt8) := (List.range k).map fun i => (S i).data.toList
theorem first_succ (S : Nat → ByteArray) (k : Nat) : first S (k + 1) = first S k ++ [(S k).data.toList] := by
  simp [first, List.range_succ]
theorem mem_first {S : Nat → ByteArray} {k : Nat} {s : List UInt8} (h : s ∈ first S k) : ∃ i, i < k ∧ s = (S i).data.toList := by
  simp only [first, List.mem_map, List.mem_range] at h
  obtain ⟨i, hi, e⟩ := h
  exact ⟨i, hi, e.symm⟩

theorem lists_append (L M : List ByteArray) : lists (L ++ M) = lists L ++ lists M := by simp [lists]
theorem lists_mk (M : List (List UInt8)) : lists (M.map fun l => (⟨l.toArray⟩ : ByteArray)) = M := by
  rw [lists, List.map_map]
  exact (List.map_congr_left fun x _ => rfl).trans (List.map_id M)
/-- A string cut in two. -/
theorem piece_facts (A X Y : ByteArray) (M : Nat) (h : M ≤ A.size) (hX : A.extract 0 M = X) (hY : A.extract M A.size = Y) : A.data.toList = X.data.toList ++ Y.data.toList ∧ X.size = M ∧ Y.size = A.size - M := by
  have hl : A.data.toList.length = A.size := rfl
  have x1 : X.data.toList = A.data.toList.take M := by rw [← hX, Lib.extract_data]; simp
  have y1 : Y.data.toList = A.data.toList.drop M := by rw [← hY, Lib.extract_data, List.take_of_length_le (by rw [List.length_drop]; omega)]
  have x2 : X.size = X.data.toList.length := rfl
  have y2 : Y.size = Y.data.toList.length := rfl
  refine ⟨by rw [x1, y1, List.take_append_drop], ?_, ?_⟩
  · rw [x2, x1, List.length_take]; omega
  · rw [y2, y1, List.length_drop]; omega
theorem feed_piece {R A X Y : ByteArray} {rest : List (List UInt8)} (h : Left (R.data.toList ++ A.data.toList) rest) (hA : A.data.toList = X.data.toList ++ Y.data.toList) (hb : R.size + X.size ≤ 200000) :
    ∃ (L : List ByteArray) (R' : ByteArray) (rest' : List (List UInt8)), feedL R.data.toList false X.data.toList = (lists L, 0, R'.data.toList, false) ∧ (unpackL R'.data.toList).2.2 = 3 ∧ Left (R'.data.toList ++ Y.data.toList) rest' ∧ rest = lists L ++ rest' ∧ R'.size ≤ R.size + X.size := by
  rw [hA] at h
  obtain ⟨L, R', rest', h1, h2, h3, h4, h5⟩ := h.feed hb
  refine ⟨L.map fun l => ⟨l.toArray⟩, ⟨R'.toArray⟩, rest', ?_, ?_, ?_, ?_, ?_⟩
  · rw [lists_mk]; exact h1
  · exact h2
  · exact h3
  · rw [lists_mk]; exact h4
  · exact h5
theorem rest_len {OL : List ByteArray} {rest : List (List UInt8)} {S : Nat → ByteArray} {k : Nat} (h : lists OL ++ rest = first S k) : OL.length ≤ k := by
  have := congrArg List.length h
  simp [lists, first] at this
  omega

theorem tx_congr {w : World} {B n : Nat} {a : Option Addr} {S S' : Nat → ByteArray} (h : Tx w B a n S) (he : ∀ i, i < n → S i = S' i) : Tx w B a n S' := by
  intro hn
  obtain ⟨b, off, e, hb, hc⟩ := h hn
  exact ⟨b, off, e, hb, fun i hi => by rw [← he i hi]; exact hc i hi⟩
theorem texts_at {O : List ByteArray} {S : Nat → ByteArray} {k : Nat} (h : lists O = first S k) {i : Nat} (hi : i < k) : O.getD i ⟨#[]⟩ = S i := by
  have hl : O.length = k := by
    have := congrArg List.length h
    simpa [lists, first] using this
  have hx := congrArg (fun l => l[i]?) h
  simp only [lists, first, List.getElem?_map, List.getElem?_range hi] at hx
  rw [List.getElem?_eq_getElem (by omega)] at hx
  rw [List.getD_eq_getElem?_getD, List.getElem?_eq_getElem (by omega)]
  injection hx with hx
  exact bytes_ext hx

/-- How many bytes a slot's string has: for the loop's measure. -/
def strSize : Value → Nat | .string s => s.size | _ => 0

set_option maxHeartbeats 6400000 in
theorem cut_walk (a : Option Addr) (n cap : Nat) (S : Nat → ByteArray) (cut : Int) (w : World) (hm : n ≤ maxLen) (hz : ∀ j, j < n → (S j).size ≤ maxLen) (hr : Tx w w.heap.size a n S) (hwf : (Lit.int .i64 cut).wf = true) :
    Calls Try.prog 3 #[.slice a n cap, .int .i64 cut] w fun e w' => e = .returned (.bool true) ∧ Below w.heap.size w w' := by
  unfold maxLen at hm hz
  have HZ := hid hz
  have HR := hid hr
  have HW := hid hwf
  clear hz hr hwf
  by_cases hn : 10 < n
  · go_enter Try.func3, Try.ntmps3
    go_wp2_with fail
    refine (live_any _).mono ?_
    rintro e w4 ⟨rfl, b4⟩
    go_wp2_with fail
    go_ret
    exact ⟨rfl, b4⟩
  have hn1 : n ≤ 10 := by omega
  clear hn
  obtain ⟨i0, hi0, hz0, hz1, hz2⟩ := info_parts info9
  obtain ⟨B, hB⟩ : ∃ B, Hid (w.heap.size = B) := ⟨_, rfl⟩
  rw [hB.out] at HR ⊢
  go_enter Try.func3, Try.ntmps3
  go_wp2_with fail
  go_loopw [5, 6] (fun v i wr => ∃ (k : Nat) (A : ByteArray), k ≤ n ∧ i = .int .i64 k ∧ v = .string A ∧ Hid (Below B w wr) ∧ A.size ≤ 502 * k ∧ Hid (A.data.toList = packs (first S k)) ∧ Hid (∀ j, j < k → 1 ≤ (S j).size ∧ (S j).size ≤ 500))
    (fun _ i _ => n - (intOf i).toNat)
  case atStart => exact ⟨0, ⟨#[]⟩, Nat.zero_le _, rfl, rfl, Below.refl _ _, by decide, rfl, fun j hj => absurd hj (by omega)⟩
  case round =>
    obtain ⟨k, A, hk, rfl, rfl, hbel, hAz, hA, hall⟩ := hrel
    have hsz := hbel.out.size
    rw [hB.out] at hsz
    by_cases hlt : k < n
    · obtain ⟨b, off, rfl, e0⟩ := (HR.out.below hbel.out).at_ hlt
      have hs := HZ.out k hlt
      by_cases c1 : (S k).size < 1
      · generalize S k = s at e0 hs c1
        go_wp2_with fail
        refine (live_any _).mono ?_
        rintro e w4 ⟨rfl, b4⟩
        go_wp2_with fail
        go_ret
        exact ⟨rfl, hbel.out.trans (b4.mono hsz)⟩
      by_cases c2 : 500 < (S k).size
      · generalize S k = s at e0 hs c1 c2
        go_wp2_with fail
        refine (live_any _).mono ?_
        rintro e w4 ⟨rfl, b4⟩
        go_wp2_with fail
        go_ret
        exact ⟨rfl, hbel.out.trans (b4.mono hsz)⟩
      have d1 : 1 ≤ (S k).size := by omega
      have d2 : (S k).size ≤ 500 := by omega
      clear c1 c2
      have hall' : Hid (∀ j, j < k + 1 → 1 ≤ (S j).size ∧ (S j).size ≤ 500) := by
        intro j hj
        by_cases e : j = k
        · subst e; exact ⟨d1, d2⟩
        · exact hall.out j (by omega)
      have H1 : Hid (packB (S k) = (headB (S k) ++ S k, 0)) := by
        show (if 1 ≤ (S k).size ∧ (S k).size ≤ 65535 then (headB (S k) ++ S k, (0 : Int)) else (⟨#[]⟩, 1)) = _
        rw [if_pos ⟨d1, by omega⟩]
      have hh : Hid ((headB (S k) ++ S k).data.toList = packL (S k).data.toList) := head_list (S k)
      have hz1 : (headB (S k) ++ S k).size = (S k).size + 2 := by
        rw [ByteArray.size_append]
        show 2 + (S k).size = _
        omega
      obtain ⟨t, ht⟩ : ∃ t, headB (S k) ++ S k = t := ⟨_, rfl⟩
      rw [ht] at H1 hh hz1
      have hA' : Hid ((A ++ t).data.toList = packs (first S (k + 1))) := by
        show _ = _
        rw [ByteArray.data_append, Array.toList_append, hA.out, hh.out, first_succ, packs_snoc]
      have hz2 : A.size + t.size ≤ 502 * (k + 1) := by omega
      have hz3 : A.size + t.size ≤ 9223372036854775807 := by omega
      have hz4 : (A ++ t).size ≤ 502 * (k + 1) := by rw [ByteArray.size_append]; exact hz2
      clear ht hz1 hh hA hall
      generalize S k = s at e0 hs d1 d2 H1
      go_wp2_with fail
      refine (pack_any _ _ _ _ (by omega) H1).mono ?_
      rintro e w1 ⟨rfl, b1⟩
      have hbel' := hid (hbel.out.trans (b1.mono hsz))
      clear b1 hbel e0 H1
      go_wp2_with fail
      go_roundw
      case rel => exact ⟨k + 1, A ++ t, by omega, by go_num, rfl, hbel', hz4, hA', hall'⟩
      case measure => simp [intOf]; omega
    · obtain rfl : k = n := by omega
      clear hk hlt
      have hL0 : Hid (Left (([] : List UInt8) ++ A.data.toList) (first S k)) := by
        show Left _ _
        rw [List.nil_append, hA.out]
        refine Left.start _ fun s hs => ?_
        obtain ⟨i, hi, rfl⟩ := mem_first hs
        have := hall.out i hi
        exact ⟨this.1, Nat.le_trans this.2 (by omega)⟩
      obtain ⟨rb, hrb⟩ : ∃ rb, Hid (wr.heap.size = rb) := ⟨_, rfl⟩
      rw [hrb.out] at hsz
      by_cases hc : cut < 0
      · skip
        skip
        go_wp2_with fail
        refine (new_at rb _ hrb).mono ?_
        rintro e w1 ⟨rfl, rfl⟩
        have hb1 : Hid (Blk (wr.alloc (.cells #[.string ⟨#[]⟩, .bool false] 45)) rb ⟨#[]⟩ false 45) := by
          have := Blk.new wr ⟨#[]⟩ false 45
          rw [hrb.out] at this
          exact this
        have b1 := hid (hbel.out.alloc (by rw [hrb.out]; exact hsz) (.cells #[.string ⟨#[]⟩, .bool false] 45))
        clear hbel
        generalize wr.alloc (.cells #[.string ⟨#[]⟩, .bool false] 45) = w1 at hb1 b1
        go_wp2_with fail
        go_loopw [5, 10] (fun v o wx => ∃ (A R : ByteArray) (O : List ByteArray) (rest : List (List UInt8)), v = .string A ∧ Hid (Own wx B o O) ∧ Hid (o.ownBlock ≠ some rb) ∧ Hid (Blk wx rb R false 45) ∧ Hid (Below B w wx) ∧ Hid (Left (R.data.toList ++ A.data.toList) rest) ∧ Hid (lists O ++ rest = first S k) ∧ Hid ((unpackL R.data.toList).2.2 = 3) ∧ R.size + A.size ≤ 5020)
          (fun v _ _ => strSize v)
        case atStart => exact ⟨A, ⟨#[]⟩, [], first S k, rfl, Own.nil _ _, (fun h => by cases h), hb1, b1, hL0.out, rfl, rfl, by show 0 + A.size ≤ 5020; omega⟩
        case round =>
          clear hb1 b1 hL0 hA hall hAz hrb
          obtain ⟨A, R, O, rest, rfl, hown, hfar, hblk, hbel, hleft, hrest, hstuck, hbd⟩ := hrel
          by_cases h0 : 0 < A.size
          · by_cases hcA : 1 ≤ A.size
            · skip
              obtain ⟨X, hX⟩ : ∃ X, A.extract 0 1 = X := ⟨_, rfl⟩
              obtain ⟨Y, hY⟩ : ∃ Y, A.extract 1 A.size = Y := ⟨_, rfl⟩
              obtain ⟨x1, x2, x3⟩ := piece_facts A X Y 1 (by omega) hX hY
              obtain ⟨L, R', rest', g1, g2, g3, g4, g5⟩ := feed_piece hleft.out x1 (by omega)

              have HF := hid g1
              have HS := hid g2
              have HLeft := hid g3
              have HRest : Hid (lists (O ++ L) ++ rest' = first S k) := by
                show _ = _
                rw [← hrest.out, g4, lists_append, List.append_assoc]
              have hbd' : R'.size + Y.size ≤ 5020 := by omega
              have hXs : X.size ≤ 1000000 := by omega
              have hRs : R.size ≤ 200000 := by omega
              have hYs : Y.size < A.size := by omega
              have hOL := rest_len HRest.out
              have hsx : B ≤ wr.heap.size := by have := hbel.out.size; rw [hB.out] at this; exact this
              clear x1 x2 x3 g1 g2 g3 g4 g5 hleft hrest hstuck hbd
              go_wp2_with fail
              refine (feed_any rb R X false L 0 R' false wr hblk hRs hXs HF).mono ?_
              rintro e w2 ⟨v, rfl, ho2, hk2, hg2⟩
              have HO : Hid (w2.ownsRow B 9 1 u10 O.length (O.map .string)) := hown.out.1.kept hg2 (.inr hfar.out)
              have HN := hid hown.out.2
              have HK := hid hk2
              have HB2 := hid (hbel.out.grown hg2 hsx (fun k hk => by injection hk with hk; omega))
              have hs2 := hg2.size
              have hlt2 := hk2.lt
              have hbase : B ≤ w2.heap.size := by omega
              clear hown hblk hbel hk2 hg2
              cases L with
              | nil =>
                obtain rfl := ho2.none_
                clear ho2
                rw [List.append_nil] at HRest hOL
                go_wp2_with (at_builtin; refine wpList_append_own_none rfl _ _ 22 rfl B 9 i0 1 Try.underlying22 hi0 u10 O.length (O.map .string) rfl HO.out rfl ?_)
                go_roundw
                case rel => exact ⟨_, R', O, rest', rfl, ⟨HO.out, HN.out⟩, hfar, HK, HB2, HLeft, HRest, HS, hbd'⟩
                case measure => exact hYs
              | cons l0 L0 =>
                obtain ⟨g, c0, rfl, hgl, hgh⟩ := ho2.1.form (by simp)
                have hnews := hid (ho2.1.cells (g := g) rfl)
                clear ho2 HN
                go_wp2_with (at_builtin; refine wpList_append_lies _ rfl _ _ 22 rfl B 9 i0 _ 1 16 Try.underlying22 hi0 hz0 hz1 hz2 rfl (by omega) u10 O.length (O.map .string) rfl HO.out ⟨g, 0, none⟩ (l0 :: L0).length c0 ((l0 :: L0).map .string) rfl (by simp) hnews.out (by simp [Value.oneCell']) (by simp) (by rw [← List.length_append]; unfold maxLen; omega) (by rw [← List.length_append]; omega) hbase w2.heap.size rfl ?_; intro gg cap3 w3 hown3 hgrow hat hlt3; clear hnews)
                have HO3 : Hid (Own w3 B (.slice (some ⟨gg, 0, none⟩) (O.length + (l0 :: L0).length) cap3) (O ++ l0 :: L0)) := by
                  refine ⟨?_, fun h => by simp at h⟩
                  rw [List.length_append, List.map_append]
                  exact hown3
                have HG3 : Hid (gg ≠ rb) := by
                  intro he
                  subst he
                  rcases hat with hat | hat
                  · exact hfar.out hat
                  · omega
                have HK3 := hid (HK.out.grown hgrow (Ne.symm hfar.out))
                have HB3 := hid (HB2.out.grown hgrow hbase (fun k hk => (HO.out.lt k hk).1))
                clear hown3 hgrow hat
                go_roundw
                case rel => exact ⟨_, R', O ++ l0 :: L0, rest', rfl, HO3.out, (fun h => HG3.out (by injection h)), HK3, HB3, HLeft, HRest, HS, hbd'⟩
                case measure => exact hYs
            · exact absurd (show 1 ≤ A.size by omega) hcA
          · obtain ⟨hA1, hA2⟩ : A.data.toList = [] ∧ A.size = 0 := by
              have hz : A.size = 0 := by omega
              exact ⟨List.eq_nil_of_length_eq_zero hz, hz⟩
            obtain ⟨hR1, rfl⟩ := Left.done (show Left R.data.toList rest by have := hleft.out; rwa [hA1, List.append_nil] at this) hstuck.out
            have hRz : R.size = 0 := by
              show R.data.toList.length = 0
              rw [hR1]; rfl
            have hO := hrest.out
            rw [List.append_nil] at hO
            have hOk : O.length = k := by
              have := congrArg List.length hO
              simpa [lists, first] using this
            obtain ⟨la, lcap, ho, tx⟩ := own_tx hown.out
            rw [hOk] at ho tx
            subst ho
            have HT1 := hid (tx_congr tx (fun i hi => texts_at hO hi))
            have hsx : B ≤ wr.heap.size := by have := hbel.out.size; rw [hB.out] at this; exact this
            have HT2 := hid ((HR.out.below hbel.out).more hsx)
            clear tx hO hrest hown hfar hleft hstuck hR1 hA1 hA2 hOk
            go_wp2_with fail
            refine (texts_same la a k lcap cap S wr.heap.size wr (by omega) HT1.out HT2.out).mono ?_
            rintro e w2 ⟨rfl, m, rfl⟩
            have HK := hid (hblk.out.drewN m)
            have HB2 := hid (below_drewN hbel.out m)
            have hsy : B ≤ (wr.drewN m).heap.size := hsx
            clear HT1 HT2 hblk hbel hsx
            generalize wr.drewN m = w2 at HK HB2 hsy
            go_wp2_with fail
            refine (waits_any rb R false w2 HK.out).mono ?_
            rintro e w3 ⟨rfl, rfl⟩
            go_wp2_with fail
            refine (live_any _).mono ?_
            rintro e w4 ⟨rfl, b4⟩
            go_wp2_with fail
            go_ret
            exact ⟨rfl, HB2.out.trans (b4.mono hsy)⟩
      · obtain ⟨c, hcN⟩ : ∃ c : Nat, 1 + cut % 40 = (c : Int) := ⟨(1 + cut % 40).toNat, by omega⟩
        have hc1 : 1 ≤ c := by omega
        have hc2 : c ≤ 40 := by omega
        skip
        go_wp2_with fail
        refine (new_at rb _ hrb).mono ?_
        rintro e w1 ⟨rfl, rfl⟩
        have hb1 : Hid (Blk (wr.alloc (.cells #[.string ⟨#[]⟩, .bool false] 45)) rb ⟨#[]⟩ false 45) := by
          have := Blk.new wr ⟨#[]⟩ false 45
          rw [hrb.out] at this
          exact this
        have b1 := hid (hbel.out.alloc (by rw [hrb.out]; exact hsz) (.cells #[.string ⟨#[]⟩, .bool false] 45))
        clear hbel
        generalize wr.alloc (.cells #[.string ⟨#[]⟩, .bool false] 45) = w1 at hb1 b1
        go_wp2_with fail
        go_loopw [5, 10] (fun v o wx => ∃ (A R : ByteArray) (O : List ByteArray) (rest : List (List UInt8)), v = .string A ∧ Hid (Own wx B o O) ∧ Hid (o.ownBlock ≠ some rb) ∧ Hid (Blk wx rb R false 45) ∧ Hid (Below B w wx) ∧ Hid (Left (R.data.toList ++ A.data.toList) rest) ∧ Hid (lists O ++ rest = first S k) ∧ Hid ((unpackL R.data.toList).2.2 = 3) ∧ R.size + A.size ≤ 5020)
          (fun v _ _ => strSize v)
        case atStart => exact ⟨A, ⟨#[]⟩, [], first S k, rfl, Own.nil _ _, (fun h => by cases h), hb1, b1, hL0.out, rfl, rfl, by show 0 + A.size ≤ 5020; omega⟩
        case round =>
          clear hb1 b1 hL0 hA hall hAz hrb
          obtain ⟨A, R, O, rest, rfl, hown, hfar, hblk, hbel, hleft, hrest, hstuck, hbd⟩ := hrel
          by_cases h0 : 0 < A.size
          · by_cases hcA : c ≤ A.size
            · skip
              obtain ⟨X, hX⟩ : ∃ X, A.extract 0 c = X := ⟨_, rfl⟩
              obtain ⟨Y, hY⟩ : ∃ Y, A.extract c A.size = Y := ⟨_, rfl⟩
              obtain ⟨x1, x2, x3⟩ := piece_facts A X Y c (by omega) hX hY
              obtain ⟨L, R', rest', g1, g2, g3, g4, g5⟩ := feed_piece hleft.out x1 (by omega)

              have HF := hid g1
              have HS := hid g2
              have HLeft := hid g3
              have HRest : Hid (lists (O ++ L) ++ rest' = first S k) := by
                show _ = _
                rw [← hrest.out, g4, lists_append, List.append_assoc]
              have hbd' : R'.size + Y.size ≤ 5020 := by omega
              have hXs : X.size ≤ 1000000 := by omega
              have hRs : R.size ≤ 200000 := by omega
              have hYs : Y.size < A.size := by omega
              have hOL := rest_len HRest.out
              have hsx : B ≤ wr.heap.size := by have := hbel.out.size; rw [hB.out] at this; exact this
              clear x1 x2 x3 g1 g2 g3 g4 g5 hleft hrest hstuck hbd
              go_wp2_with fail
              refine (feed_any rb R X false L 0 R' false wr hblk hRs hXs HF).mono ?_
              rintro e w2 ⟨v, rfl, ho2, hk2, hg2⟩
              have HO : Hid (w2.ownsRow B 9 1 u10 O.length (O.map .string)) := hown.out.1.kept hg2 (.inr hfar.out)
              have HN := hid hown.out.2
              have HK := hid hk2
              have HB2 := hid (hbel.out.grown hg2 hsx (fun k hk => by injection hk with hk; omega))
              have hs2 := hg2.size
              have hlt2 := hk2.lt
              have hbase : B ≤ w2.heap.size := by omega
              clear hown hblk hbel hk2 hg2
              cases L with
              | nil =>
                obtain rfl := ho2.none_
                clear ho2
                rw [List.append_nil] at HRest hOL
                go_wp2_with (at_builtin; refine wpList_append_own_none rfl _ _ 22 rfl B 9 i0 1 Try.underlying22 hi0 u10 O.length (O.map .string) rfl HO.out rfl ?_)
                go_roundw
                case rel => exact ⟨_, R', O, rest', rfl, ⟨HO.out, HN.out⟩, hfar, HK, HB2, HLeft, HRest, HS, hbd'⟩
                case measure => exact hYs
              | cons l0 L0 =>
                obtain ⟨g, c0, rfl, hgl, hgh⟩ := ho2.1.form (by simp)
                have hnews := hid (ho2.1.cells (g := g) rfl)
                clear ho2 HN
                go_wp2_with (at_builtin; refine wpList_append_lies _ rfl _ _ 22 rfl B 9 i0 _ 1 16 Try.underlying22 hi0 hz0 hz1 hz2 rfl (by omega) u10 O.length (O.map .string) rfl HO.out ⟨g, 0, none⟩ (l0 :: L0).length c0 ((l0 :: L0).map .string) rfl (by simp) hnews.out (by simp [Value.oneCell']) (by simp) (by rw [← List.length_append]; unfold maxLen; omega) (by rw [← List.length_append]; omega) hbase w2.heap.size rfl ?_; intro gg cap3 w3 hown3 hgrow hat hlt3; clear hnews)
                have HO3 : Hid (Own w3 B (.slice (some ⟨gg, 0, none⟩) (O.length + (l0 :: L0).length) cap3) (O ++ l0 :: L0)) := by
                  refine ⟨?_, fun h => by simp at h⟩
                  rw [List.length_append, List.map_append]
                  exact hown3
                have HG3 : Hid (gg ≠ rb) := by
                  intro he
                  subst he
                  rcases hat with hat | hat
                  · exact hfar.out hat
                  · omega
                have HK3 := hid (HK.out.grown hgrow (Ne.symm hfar.out))
                have HB3 := hid (HB2.out.grown hgrow hbase (fun k hk => (HO.out.lt k hk).1))
                clear hown3 hgrow hat
                go_roundw
                case rel => exact ⟨_, R', O ++ l0 :: L0, rest', rfl, HO3.out, (fun h => HG3.out (by injection h)), HK3, HB3, HLeft, HRest, HS, hbd'⟩
                case measure => exact hYs
            · skip
              obtain ⟨X, hX⟩ : ∃ X, A.extract 0 A.size = X := ⟨_, rfl⟩
              obtain ⟨Y, hY⟩ : ∃ Y, A.extract A.size A.size = Y := ⟨_, rfl⟩
              obtain ⟨x1, x2, x3⟩ := piece_facts A X Y A.size (by omega) hX hY
              obtain ⟨L, R', rest', g1, g2, g3, g4, g5⟩ := feed_piece hleft.out x1 (by omega)
              obtain rfl : ByteArray.empty = Y := bytes_ext (List.eq_nil_of_length_eq_zero (show Y.size = 0 by omega)).symm
              have HF := hid g1
              have HS := hid g2
              have HLeft := hid g3
              have HRest : Hid (lists (O ++ L) ++ rest' = first S k) := by
                show _ = _
                rw [← hrest.out, g4, lists_append, List.append_assoc]
              have hbd' : R'.size + ByteArray.empty.size ≤ 5020 := by omega
              have hXs : X.size ≤ 1000000 := by omega
              have hRs : R.size ≤ 200000 := by omega
              have hYs : ByteArray.empty.size < A.size := by omega
              have hOL := rest_len HRest.out
              have hsx : B ≤ wr.heap.size := by have := hbel.out.size; rw [hB.out] at this; exact this
              clear x1 x2 x3 g1 g2 g3 g4 g5 hleft hrest hstuck hbd
              go_wp2_with fail
              refine (feed_any rb R X false L 0 R' false wr hblk hRs hXs HF).mono ?_
              rintro e w2 ⟨v, rfl, ho2, hk2, hg2⟩
              have HO : Hid (w2.ownsRow B 9 1 u10 O.length (O.map .string)) := hown.out.1.kept hg2 (.inr hfar.out)
              have HN := hid hown.out.2
              have HK := hid hk2
              have HB2 := hid (hbel.out.grown hg2 hsx (fun k hk => by injection hk with hk; omega))
              have hs2 := hg2.size
              have hlt2 := hk2.lt
              have hbase : B ≤ w2.heap.size := by omega
              clear hown hblk hbel hk2 hg2
              cases L with
              | nil =>
                obtain rfl := ho2.none_
                clear ho2
                rw [List.append_nil] at HRest hOL
                go_wp2_with (at_builtin; refine wpList_append_own_none rfl _ _ 22 rfl B 9 i0 1 Try.underlying22 hi0 u10 O.length (O.map .string) rfl HO.out rfl ?_)
                go_roundw
                case rel => exact ⟨_, R', O, rest', rfl, ⟨HO.out, HN.out⟩, hfar, HK, HB2, HLeft, HRest, HS, hbd'⟩
                case measure => exact hYs
              | cons l0 L0 =>
                obtain ⟨g, c0, rfl, hgl, hgh⟩ := ho2.1.form (by simp)
                have hnews := hid (ho2.1.cells (g := g) rfl)
                clear ho2 HN
                go_wp2_with (at_builtin; refine wpList_append_lies _ rfl _ _ 22 rfl B 9 i0 _ 1 16 Try.underlying22 hi0 hz0 hz1 hz2 rfl (by omega) u10 O.length (O.map .string) rfl HO.out ⟨g, 0, none⟩ (l0 :: L0).length c0 ((l0 :: L0).map .string) rfl (by simp) hnews.out (by simp [Value.oneCell']) (by simp) (by rw [← List.length_append]; unfold maxLen; omega) (by rw [← List.length_append]; omega) hbase w2.heap.size rfl ?_; intro gg cap3 w3 hown3 hgrow hat hlt3; clear hnews)
                have HO3 : Hid (Own w3 B (.slice (some ⟨gg, 0, none⟩) (O.length + (l0 :: L0).length) cap3) (O ++ l0 :: L0)) := by
                  refine ⟨?_, fun h => by simp at h⟩
                  rw [List.length_append, List.map_append]
                  exact hown3
                have HG3 : Hid (gg ≠ rb) := by
                  intro he
                  subst he
                  rcases hat with hat | hat
                  · exact hfar.out hat
                  · omega
                have HK3 := hid (HK.out.grown hgrow (Ne.symm hfar.out))
                have HB3 := hid (HB2.out.grown hgrow hbase (fun k hk => (HO.out.lt k hk).1))
                clear hown3 hgrow hat
                go_roundw
                case rel => exact ⟨_, R', O ++ l0 :: L0, rest', rfl, HO3.out, (fun h => HG3.out (by injection h)), HK3, HB3, HLeft, HRest, HS, hbd'⟩
                case measure => exact hYs
          · obtain ⟨hA1, hA2⟩ : A.data.toList = [] ∧ A.size = 0 := by
              have hz : A.size = 0 := by omega
              exact ⟨List.eq_nil_of_length_eq_zero hz, hz⟩
            obtain ⟨hR1, rfl⟩ := Left.done (show Left R.data.toList rest by have := hleft.out; rwa [hA1, List.append_nil] at this) hstuck.out
            have hRz : R.size = 0 := by
              show R.data.toList.length = 0
              rw [hR1]; rfl
            have hO := hrest.out
            rw [List.append_nil] at hO
            have hOk : O.length = k := by
              have := congrArg List.length hO
              simpa [lists, first] using this
            obtain ⟨la, lcap, ho, tx⟩ := own_tx hown.out
            rw [hOk] at ho tx
            subst ho
            have HT1 := hid (tx_congr tx (fun i hi => texts_at hO hi))
            have hsx : B ≤ wr.heap.size := by have := hbel.out.size; rw [hB.out] at this; exact this
            have HT2 := hid ((HR.out.below hbel.out).more hsx)
            clear tx hO hrest hown hfar hleft hstuck hR1 hA1 hA2 hOk
            go_wp2_with fail
            refine (texts_same la a k lcap cap S wr.heap.size wr (by omega) HT1.out HT2.out).mono ?_
            rintro e w2 ⟨rfl, m, rfl⟩
            have HK := hid (hblk.out.drewN m)
            have HB2 := hid (below_drewN hbel.out m)
            have hsy : B ≤ (wr.drewN m).heap.size := hsx
            clear HT1 HT2 hblk hbel hsx
            generalize wr.drewN m = w2 at HK HB2 hsy
            go_wp2_with fail
            refine (waits_any rb R false w2 HK.out).mono ?_
            rintro e w3 ⟨rfl, rfl⟩
            go_wp2_with fail
            refine (live_any _).mono ?_
            rintro e w4 ⟨rfl, b4⟩
            go_wp2_with fail
            go_ret
            exact ⟨rfl, HB2.out.trans (b4.mono hsy)⟩


end Go.Proofs.Ytbghjmgijjhihaa
