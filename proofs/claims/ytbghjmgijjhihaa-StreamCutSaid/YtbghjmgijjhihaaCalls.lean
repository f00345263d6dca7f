/-
  The contracts of package stream's Pack and Unpack, and of the reference's, over the translation.
-/
import Derived.Test.YtbghjmgijjhihaaRows
import Derived.Test.YtbghjmgijjhihaaPlain
import Derived.WalkKit
import Derived.WalkSpells
import Derived.WalkLawsBesides
import Derived.Deep.QuietTactic
import Derived.BigQuiet
import Derived.Laws.BytesArg
import Derived.Lib.Strings
namespace Go.Proofs.Ytbghjmgijjhihaa
open Go.RowKit

theorem hid {p : Prop} (h : p) : Hid p := h
/-- The call returns v; nothing is written, some draws are made. -/
def Drawn (v : Value) (w : World) (e : Ending) (w' : World) : Prop := e = .returned v ∧ ∃ k, w' = w.drewN k

theorem list_two (s : ByteArray) (h : 2 ≤ s.size) : s.data.toList = s[0]'(by omega) :: s[1]'(by omega) :: s.data.toList.drop 2 := by
  have hl : s.data.toList.length = s.size := rfl
  have e0 : s.data.toList = s.data.toList[0]'(by omega) :: s.data.toList.drop 1 := (List.drop_zero (l := s.data.toList)).symm.trans (List.drop_eq_getElem_cons (by omega))
  have e1 : s.data.toList.drop 1 = s.data.toList[1]'(by omega) :: s.data.toList.drop 2 := List.drop_eq_getElem_cons (by omega)
  rw [e1] at e0
  exact e0
theorem bytes_ext {s t : ByteArray} (h : s.data.toList = t.data.toList) : s = t := by
  apply ByteArray.ext
  exact Array.toList_inj.1 h
theorem list_short (s : ByteArray) (h : s.size < 2) : unpackL s.data.toList = ([], 0, 3) := by
  have hl : s.data.toList.length = s.size := rfl
  match hx : s.data.toList with
  | [] => rfl
  | [_] => rfl
  | _ :: _ :: _ => rw [hx] at hl; simp at hl; omega

theorem sum_prog (b0 b1 : Nat) (h0 : b0 < 256) (h1 : b1 < 256) : wrap64 (wrap64 (2 + wrap64 (wrap64 (b0 : Int) * 256)) + wrap64 (b1 : Int)) = ((256 * b0 + b1 + 2 : Nat) : Int) := by
  unfold wrap64
  omega
theorem sum_ref (b0 b1 : Nat) (h0 : b0 < 256) (h1 : b1 < 256) : wrap64 (wrap64 (256 * wrap64 (b0 : Int)) + wrap64 (b1 : Int)) = ((256 * b0 + b1 : Nat) : Int) := by
  unfold wrap64
  omega

set_option maxHeartbeats 800000 in
theorem unpack_any (s t : ByteArray) (n : Nat) (er : Int) (w : World) (hm : s.size ≤ 9223372036854775807) (H : Hid (unpackL s.data.toList = (t.data.toList, n, er))) :
    Calls Try.prog 14 #[.string s] w (Drawn (.tuple #[.string t, .int .i64 n, .int .i64 er]) w) := by
  have h := H.out
  clear H
  unfold Drawn
  by_cases hs : s.size < 2
  · rw [list_short s hs] at h
    injection h with ht h
    injection h with hn he
    subst hn he
    obtain rfl : (⟨#[]⟩ : ByteArray) = t := bytes_ext ht
    clear ht
    go_enter Try.func14, Try.ntmps14
    go_wp2_with fail
    go_ret3
    exact ⟨rfl, 0, rfl⟩
  · have hs2 : 2 ≤ s.size := by omega
    clear hs
    rw [list_two s hs2] at h
    obtain ⟨b0, h0⟩ : ∃ b, s[0]'(by omega) = b := ⟨_, rfl⟩
    obtain ⟨b1, h1⟩ : ∃ b, s[1]'(by omega) = b := ⟨_, rfl⟩
    rw [h0, h1] at h
    have k0 := b0.toNat_lt
    have k1 := b1.toNat_lt
    have hsum := sum_prog b0.toNat b1.toNat k0 k1
    obtain ⟨N, hN⟩ : ∃ N, 256 * b0.toNat + b1.toNat = N := ⟨_, rfl⟩
    simp only [unpackL] at h
    rw [hN] at h hsum
    have hNb : N ≤ 65535 := by omega
    clear k0 k1
    have hl : (s.data.toList.drop 2).length = s.size - 2 := by rw [List.length_drop]; rfl
    rw [hl] at h
    clear hl
    by_cases c1 : N = 0
    · rw [if_pos c1] at h
      injection h with ht h
      injection h with hn he
      subst hn he
      obtain rfl : (⟨#[]⟩ : ByteArray) = t := bytes_ext ht
      subst c1
      have hsum' : wrap64 (wrap64 (2 + wrap64 (wrap64 (b0.toNat : Int) * 256)) + wrap64 (b1.toNat : Int)) = 2 := hsum
      clear hN ht hsum
      go_enter Try.func14, Try.ntmps14
      go_wp2_with fail
      go_quiet (fail)
      go_wp2_with fail
      go_ret3
      exact ⟨rfl, _, rfl⟩
    · rw [if_neg c1] at h
      have c1' : ((↑(N + 2) : Int) == 2) = false := by simp; omega
      by_cases c2 : s.size - 2 < N
      · rw [if_pos c2] at h
        injection h with ht h
        injection h with hn he
        subst hn he
        obtain rfl : (⟨#[]⟩ : ByteArray) = t := bytes_ext ht
        have c3 : s.size < N + 2 := by omega
        clear hN ht c1 c2
        generalize N + 2 = m at hsum c1' c3
        go_enter Try.func14, Try.ntmps14
        go_wp2_with fail
        go_quiet (fail)
        go_wp2_with fail
        go_ret3
        exact ⟨rfl, _, rfl⟩
      · rw [if_neg c2] at h
        injection h with ht h
        injection h with hn he
        have c3 : N + 2 ≤ s.size := by omega
        have c4 : 2 ≤ N + 2 := by omega
        have HT : Hid (s.extract 2 (N + 2) = t) := by
          apply bytes_ext
          rw [Lib.extract_data, ← ht]
          congr 1
        subst hn he
        clear hN ht c1 c2
        generalize N + 2 = m at hsum c1' c3 c4 HT
        go_enter Try.func14, Try.ntmps14
        go_wp2_with fail
        go_quiet (fail)
        go_wp2_with fail
        go_ret3
        exact ⟨by rw [← HT.out, ← hsum]; rfl, _, rfl⟩

set_option maxHeartbeats 800000 in
theorem unpackR_any (s t : ByteArray) (n : Nat) (er : Int) (w : World) (hm : s.size ≤ 9223372036854775807) (H : Hid (unpackL s.data.toList = (t.data.toList, n, er))) :
    Calls Try.prog 16 #[.string s] w (Drawn (.tuple #[.string t, .int .i64 n, .int .i64 er]) w) := by
  have h := H.out
  clear H
  unfold Drawn
  by_cases hs : s.size < 2
  · rw [list_short s hs] at h
    injection h with ht h
    injection h with hn he
    subst hn he
    obtain rfl : (⟨#[]⟩ : ByteArray) = t := bytes_ext ht
    clear ht
    go_enter Try.func16, Try.ntmps16
    go_wp2_with fail
    go_ret3
    exact ⟨rfl, 0, rfl⟩
  · have hs2 : 2 ≤ s.size := by omega
    clear hs
    rw [list_two s hs2] at h
    obtain ⟨b0, h0⟩ : ∃ b, s[0]'(by omega) = b := ⟨_, rfl⟩
    obtain ⟨b1, h1⟩ : ∃ b, s[1]'(by omega) = b := ⟨_, rfl⟩
    rw [h0, h1] at h
    have k0 := b0.toNat_lt
    have k1 := b1.toNat_lt
    have hsum := sum_ref b0.toNat b1.toNat k0 k1
    obtain ⟨N, hN⟩ : ∃ N, 256 * b0.toNat + b1.toNat = N := ⟨_, rfl⟩
    simp only [unpackL] at h
    rw [hN] at h hsum
    have hNb : N ≤ 65535 := by omega
    clear k0 k1
    have hl : (s.data.toList.drop 2).length = s.size - 2 := by rw [List.length_drop]; rfl
    rw [hl] at h
    clear hl
    by_cases c1 : N = 0
    · rw [if_pos c1] at h
      injection h with ht h
      injection h with hn he
      subst hn he
      obtain rfl : (⟨#[]⟩ : ByteArray) = t := bytes_ext ht
      subst c1
      have hsum' : wrap64 (wrap64 (256 * wrap64 (b0.toNat : Int)) + wrap64 (b1.toNat : Int)) = 0 := hsum
      clear hN ht hsum
      go_enter Try.func16, Try.ntmps16
      go_wp2_with fail
      go_quiet (fail)
      go_wp2_with fail
      go_ret3
      exact ⟨rfl, _, rfl⟩
    · rw [if_neg c1] at h
      have c1' : ((↑N : Int) == 0) = false := by simp; omega
      by_cases c2 : s.size - 2 < N
      · rw [if_pos c2] at h
        injection h with ht h
        injection h with hn he
        subst hn he
        obtain rfl : (⟨#[]⟩ : ByteArray) = t := bytes_ext ht
        have c3 : s.size < N + 2 := by omega
        clear hN ht c1 c2
        go_enter Try.func16, Try.ntmps16
        go_wp2_with fail
        go_quiet (fail)
        go_wp2_with fail
        go_ret3
        exact ⟨rfl, _, rfl⟩
      · rw [if_neg c2] at h
        injection h with ht h
        injection h with hn he
        have c3 : N + 2 ≤ s.size := by omega
        have c4 : 2 ≤ N + 2 := by omega
        have HT : Hid (s.extract 2 (N + 2) = t) := by
          apply bytes_ext
          rw [Lib.extract_data, ← ht]
          congr 1
        subst hn he
        clear hN ht c1 c2
        go_enter Try.func16, Try.ntmps16
        go_wp2_with fail
        go_quiet (fail)
        go_wp2_with fail
        go_ret3
        exact ⟨by rw [← HT.out, show ((N + 2 : Nat) : Int) = (N : Int) + 2 from by omega, ← hsum]; rfl, _, rfl⟩

/-- The two bytes ahead of s. -/
def headB (s : ByteArray) : ByteArray := strOfNums [(s.size : Int) / 256, (s.size : Int) % 256]
theorem head_list (s : ByteArray) : (headB s ++ s).data.toList = packL s.data.toList := by
  have hl : s.data.toList.length = s.size := rfl
  rw [ByteArray.data_append, Array.toList_append]
  show (strOfNums [(s.size : Int) / 256, (s.size : Int) % 256]).data.toList ++ _ = _
  rw [strOfNums_data]
  simp only [List.map_cons, List.map_nil, packL, List.cons_append, List.nil_append, hl]
  rw [show ((s.size : Int) / 256).toNat = s.size / 256 by omega, show ((s.size : Int) % 256).toNat = s.size % 256 by omega]
theorem head_cells (w : World) (x y : Int) : ∀ i, i < 2 → (w.alloc (.cells #[.int .u8 x, .int .u8 y] 5)).cell? ⟨w.heap.size, 0 + i, none⟩ = some (.int .u8 ([x, y].getD i 0)) := by
  intro i hi
  match i, hi with
  | 0, _ => go_simp
  | 1, _ => go_simp

/-- What Pack answers. -/
def packB (s : ByteArray) : ByteArray × Int := if 1 ≤ s.size ∧ s.size ≤ 65535 then (headB s ++ s, 0) else (⟨#[]⟩, 1)

set_option maxHeartbeats 800000 in
theorem pack_any (s t : ByteArray) (er : Int) (w : World) (hm : s.size ≤ 9223372036854775807) (H : Hid (packB s = (t, er))) :
    Calls Try.prog 9 #[.string s] w fun e w' => e = .returned (.tuple #[.string t, .int .i64 er]) ∧ Below w.heap.size w w' := by
  have h := H.out
  clear H
  unfold packB at h
  by_cases c : 1 ≤ s.size ∧ s.size ≤ 65535
  · rw [if_pos c] at h
    injection h with h1 h2
    subst h1 h2
    obtain ⟨c1, c2⟩ := c
    have hk := run_convert_bytes_arg (P := Try.prog) (w.alloc (.cells #[.int .u8 ((s.size : Int) / 256), .int .u8 ((s.size : Int) % 256)] 5)) 43 5 Try.underlying43 Try.underlying5 w.heap.size 0 2 2 [(s.size : Int) / 256, (s.size : Int) % 256] rfl (head_cells w _ _) 9 Try.underlying9
    have hh : strOfNums [(s.size : Int) / 256, (s.size : Int) % 256] = headB s := rfl
    rw [hh] at hk
    have hz : (headB s).size = 2 := rfl
    have hz1 : (headB s).size + s.size ≤ 9223372036854775807 := by omega
    generalize headB s = q at hk hz1
    clear hh hz
    go_enter Try.func9, Try.ntmps9
    go_wp2_with fail
    go_ret2
    exact ⟨rfl, (Below.refl _ _).alloc (Nat.le_refl _) _⟩
  · rw [if_neg c] at h
    injection h with h1 h2
    subst h1 h2
    by_cases c1 : s.size < 1
    · clear c
      go_enter Try.func9, Try.ntmps9
      go_wp2_with fail
      go_ret2
      exact ⟨rfl, Below.refl _ _⟩
    · have c2 : 65535 < s.size := by omega
      clear c
      go_enter Try.func9, Try.ntmps9
      go_wp2_with fail
      go_ret2
      exact ⟨rfl, Below.refl _ _⟩

set_option maxHeartbeats 800000 in
theorem packR_any (s t : ByteArray) (er : Int) (w : World) (hm : s.size ≤ 9223372036854775807) (H : Hid (packB s = (t, er))) :
    Calls Try.prog 15 #[.string s] w fun e w' => e = .returned (.tuple #[.string t, .int .i64 er]) ∧ Below w.heap.size w w' := by
  have h := H.out
  clear H
  unfold packB at h
  by_cases c : 1 ≤ s.size ∧ s.size ≤ 65535
  · rw [if_pos c] at h
    injection h with h1 h2
    subst h1 h2
    obtain ⟨c1, c2⟩ := c
    have hk := run_convert_bytes_arg (P := Try.prog) (w.alloc (.cells #[.int .u8 ((s.size : Int) / 256), .int .u8 ((s.size : Int) % 256)] 5)) 43 5 Try.underlying43 Try.underlying5 w.heap.size 0 2 2 [(s.size : Int) / 256, (s.size : Int) % 256] rfl (head_cells w _ _) 9 Try.underlying9
    have hh : strOfNums [(s.size : Int) / 256, (s.size : Int) % 256] = headB s := rfl
    rw [hh] at hk
    have hz : (headB s).size = 2 := rfl
    have hz1 : (headB s).size + s.size ≤ 9223372036854775807 := by omega
    generalize headB s = q at hk hz1
    clear hh hz
    go_enter Try.func15, Try.ntmps15
    go_wp2_with fail
    go_ret2
    exact ⟨rfl, (Below.refl _ _).alloc (Nat.le_refl _) _⟩
  · rw [if_neg c] at h
    injection h with h1 h2
    subst h1 h2
    by_cases c1 : s.size < 1
    · clear c
      go_enter Try.func15, Try.ntmps15
      go_wp2_with fail
      go_ret2
      exact ⟨rfl, Below.refl _ _⟩
    · have c2 : 65535 < s.size := by omega
      clear c
      go_enter Try.func15, Try.ntmps15
      go_wp2_with fail
      go_ret2
      exact ⟨rfl, Below.refl _ _⟩

end Go.Proofs.Ytbghjmgijjhihaa
