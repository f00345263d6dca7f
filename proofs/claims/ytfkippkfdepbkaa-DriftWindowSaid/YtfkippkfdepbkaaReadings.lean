/-
  The contract of the statements' own 'readings', over the translation: a slice of its own that holds the same readings.
-/
import Derived.Test.YtfkippkfdepbkaaCheck
import Derived.Deep.RegionHeld3
import Derived.Deep.AppendLies
import Derived.StillTactics
namespace Go.Proofs.Ytfkippkfdepbkaa
open Go.RowKit

theorem info43 : (Try.prog.info? 43).map (fun i => (i.zero, i.size, i.bytes)) = some (some (.agg #[.int .i64 0, .int .i64 0]), 2, 16) := by kernel_rfl

/-- The cells of the first k readings. -/
def flat (T C : Nat → Int) : Nat → List Value
  | 0 => []
  | k + 1 => flat T C k ++ [.int .i64 (T k), .int .i64 (C k)]
theorem flat_len (T C : Nat → Int) (k : Nat) : (flat T C k).length = k * 2 := by
  induction k with
  | zero => rfl
  | succ k ih => simp only [flat, List.length_append, ih, List.length_cons, List.length_nil]; omega
theorem flat_at (T C : Nat → Int) (k i : Nat) (h : i < k) : (flat T C k)[i * 2]? = some (.int .i64 (T i)) ∧ (flat T C k)[i * 2 + 1]? = some (.int .i64 (C i)) := by
  induction k with
  | zero => omega
  | succ k ih =>
    have hl := flat_len T C k
    by_cases e : i = k
    · subst e
      simp only [flat]
      rw [List.getElem?_append_right (by omega), List.getElem?_append_right (by omega), hl]
      simp
    · obtain ⟨h1, h2⟩ := ih (by omega)
      simp only [flat]
      rw [List.getElem?_append_left (by omega), List.getElem?_append_left (by omega)]
      exact ⟨h1, h2⟩

theorem own_far {w : World} {base : Nat} {e : TypeId} {size : Nat} {v : Value} {n : Nat} {xs : List Value} (h : w.ownsRow base e size v n xs) {b : Nat} (hb : b < base) : v.ownBlock ≠ some b := by
  intro he
  have := (h.lt b he).1
  omega

theorem Rd.lt {w : World} {B n b off : Nat} {T C : Nat → Int} (h : Rd w B (some ⟨b, off, none⟩) n T C) (hn : 0 < n) : b < B := by
  obtain ⟨b', off', e, hb, _⟩ := h hn
  injection e with e
  injection e with e1 e2
  omega

theorem own_reads {w : World} {base n : Nat} {v : Value} {T C : Nat → Int} (h : w.ownsRow base 43 2 v n (flat T C n)) :
    ∃ ra rcap, v = .slice ra n rcap ∧ Rd w w.heap.size ra n T C := by
  rcases Nat.eq_zero_or_pos n with hz | hz
  · subst hz
    rcases h.2 with ⟨rfl, _⟩ | ⟨g, c, cur, rfl, _⟩
    · exact ⟨_, _, rfl, fun h => absurd h (by omega)⟩
    · exact ⟨_, _, rfl, fun h => absurd h (by omega)⟩
  · obtain ⟨g, c, rfl, hg0, hg1⟩ := h.form hz
    refine ⟨_, _, rfl, fun _ => ⟨g, 0, rfl, hg1, fun i hi => ?_⟩⟩
    obtain ⟨f0, f1⟩ := flat_at T C n i hi
    exact ⟨by rw [Nat.zero_add, h.cellAt _ (by omega)]; exact f0, by rw [Nat.zero_add, h.cellAt _ (by omega)]; exact f1⟩

set_option maxRecDepth 100000 in
set_option maxHeartbeats 3200000 in
theorem readings_any (a : Option Addr) (n cap : Nat) (T C : Nat → Int) (w : World) (hn : n ≤ 200) (hr : Rd w w.heap.size a n T C) :
    Calls Try.prog 11 #[.slice a n cap] w fun e w' => ∃ ra rcap, e = .returned (.slice ra n rcap) ∧ Rd w' w'.heap.size ra n T C ∧ Below w.heap.size w w' := by
  obtain ⟨i0, hi0, hz0, hz1, hz2⟩ := info_parts info43
  have HR := hid hr
  clear hr
  go_enter Try.func11, Try.ntmps11
  go_wp2_with fail
  go_loopw [3, 4] (fun v i wr => ∃ k : Nat, k ≤ n ∧ i = .int .i64 k ∧ wr.ownsRow w.heap.size 43 2 v k (flat T C k) ∧ Below w.heap.size w wr) (fun _ i _ => n - (intOf i).toNat)
  case atStart => exact ⟨0, Nat.zero_le _, rfl, World.ownsRow_nil _ _ _ _, Below.refl _ _⟩
  case round =>
    obtain ⟨k, hk, rfl, hown, hbel⟩ := hrel
    by_cases hlt : k < n
    · obtain ⟨b, off, rfl, e0, e1⟩ := (HR.out.below hbel).at_ hlt
      have hbb := HR.out.lt (by omega)
      have far := own_far hown hbb
      have hs := hbel.size
      have hk0 : (0 : Int) ≤ (k : Int) := Int.natCast_nonneg _
      have hk1 : (k : Int) < (n : Int) := by omega
      go_wp2_with fail
      go_region_held3 (fun w' => w'.cell? ⟨b, off + k * 2, none⟩ = some (.int .i64 (T k)) ∧ w'.cell? ⟨b, off + k * 2 + 1, none⟩ = some (.int .i64 (C k)))
        (first
          | go_keep
          | (go_split_ands
             refine ⟨?_, ?_⟩
             · (rw [hgrow.cell_far _ (by simp; omega) (Ne.symm far)]; assumption)
             · (rw [hgrow.cell_far _ (by simp; omega) (Ne.symm far)]; assumption)))
        ((refine step_append_lies _ (by rfl) _ _ _ (by rfl) w.heap.size 43 i0 _ 2 16 Try.underlying26 hi0 hz0 hz1 hz2 rfl (by omega) u3 k (flat T C k) (by rfl) ((hown.alloc _).drew)
            ⟨wr.heap.size, 0, none⟩ 1 1 [.int .i64 (T k), .int .i64 (C k)] (by rfl) (by rfl) (World.news_of_block (cs := #[.int .i64 (T k), .int .i64 (C k)]) (t := 43) (fr := (0, 0)) (heap_alloc_new wr _)) (by simp [Value.oneCell'])
            (by omega) (by unfold maxLen; omega) (by omega) (by simp; omega) (wr.heap.size + 1) (by simp) ?_; intro gg cap w1 hown1 hgrow hat hlt))
      have hown2 := hid hown1
      have hbel2 := hid (((hbel.alloc hs (.cells #[.int .i64 (T k), .int .i64 (C k)] 43)).drew).grown hgrow (by simp; omega) (fun g hg => (hown.lt g hg).1))
      clear hown1 hgrow hat far e0 e1 hown hbel
      go_wp2_with fail
      go_roundw
      case rel => exact ⟨k + 1, by omega, by go_num, hown2.out, hbel2.out⟩
      case measure => simp [intOf]; omega
    · obtain rfl : k = n := by omega
      clear hk hlt
      obtain ⟨ra, rcap, rfl, hrd⟩ := own_reads hown
      have HD := hid hrd
      have hb := hid hbel
      clear hown hbel hrd
      go_wp2_with fail
      go_ret
      exact ⟨_, _, rfl, HD.out, hb.out⟩

end Go.Proofs.Ytfkippkfdepbkaa
