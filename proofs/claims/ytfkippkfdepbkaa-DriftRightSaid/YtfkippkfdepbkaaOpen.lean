/-
  How a slice of readings that came in is opened: the two numbers of each element, cell by cell.
-/
import Derived.Test.YtfkippkfdepbkaaCheck
import Derived.ProofKit
import Derived.Deep.Slices
import Derived.ChangeSame
import Derived.ChangeOld
import Derived.Lib.SmallJoins
namespace Go.Proofs.Ytfkippkfdepbkaa
open Go.ChangeShapes Go.WideShapes Go.RowKit Go.Deep

theorem own : ownKnob Try.prog.godebug = none := by kernel_rfl
theorem laidOut : laidOutB Try.prog = true := by kernel_rfl
theorem cells37 : Try.prog.cellsOf 37 = 2 := by kernel_rfl
theorem cells3 : Try.prog.cellsOf 3 = 1 := by kernel_rfl

theorem plain_add (b off i : Nat) : (⟨b, off, none⟩ : Addr).add i = ⟨b, off + i, none⟩ := by
  unfold Addr.add
  split
  · rename_i h; subst h; rfl
  · rfl

section
variable {H : Type} {enc : TypeId × Value → H} {w : World} {base : Nat} {spare : Nat → Bool} {held : Bool}

theorem pair_cells {fuel : Nat} {a : Addr} {cs : List Value} {x : DataW H × List MemPlace} (hc : w.cells? base a (Try.prog.cellsOf 37) = some cs) (h : DataW.trod enc Try.prog w base spare held fuel 37 cs = some x) :
    ∃ t c : Int, w.cell? a = some (.int .i64 t) ∧ w.cell? (a.add 1) = some (.int .i64 c) := by
  rw [cells37] at hc
  obtain ⟨_, hlen, hat⟩ := World.cells?_some hc
  match cs, hlen with
  | [v0, v1], _ =>
    obtain ⟨y0, y1, n, _, _, h0, h1⟩ := trod_struct2 Try.underlying37 h
    simp only [cells3] at h0 h1
    obtain ⟨t, e0, _, _⟩ := DataW.trod_int Try.underlying3 h0
    obtain ⟨c, e1, _, _⟩ := DataW.trod_int Try.underlying3 h1
    simp at e0 e1
    subst e0 e1
    exact ⟨t, c, hat 0 (by omega), hat 1 (by omega)⟩

theorem open_readings {fuel : Nat} {cs : List Value} {x : DataW H × List MemPlace} (h : DataW.trod enc Try.prog w base spare held fuel 22 cs = some x) :
    ∃ (a : Option Addr) (n cap : Nat) (T C : Nat → Int), cs = [.slice a n cap] ∧ n ≤ maxLen ∧ Rd w w.heap.size a n T C := by
  rcases open_slice Try.underlying22 h with ⟨rfl, _⟩ | ⟨a, len, cap, m, n, D, Pl, rfl, hb, hl, hm, hmm, hx, hi⟩
  · exact ⟨none, 0, 0, fun _ => 0, fun _ => 0, rfl, Nat.zero_le _, fun h => absurd h (by omega)⟩
  · have hle : len ≤ m := by rw [hmm]; split <;> omega
    have hone : ∀ i, i < len → ∃ p : Int × Int, w.cell? (a.add (i * 2)) = some (.int .i64 p.1) ∧ w.cell? ((a.add (i * 2)).add 1) = some (.int .i64 p.2) := by
      intro i hil
      obtain ⟨cs', hc, ht⟩ := hi i (by omega)
      obtain ⟨t, c, e0, e1⟩ := pair_cells hc ht
      rw [cells37] at e0 e1
      exact ⟨(t, c), e0, e1⟩
    obtain ⟨f, hf⟩ := choose_lt hone
    refine ⟨some a, len, cap, fun i => (f i).1, fun i => (f i).2, rfl, by omega, fun hpos => ?_⟩
    obtain ⟨b, off, spot⟩ := a
    have h0 := (hf 0 hpos).1
    have hs : spot = none := by simpa [Addr.add] using World.cell?_spot h0
    subst hs
    refine ⟨b, off, rfl, ?_, fun i hil => ?_⟩
    · have := World.block_lt_of_cell? w _ h0
      simpa [plain_add] using this
    · have := hf i hil
      rw [plain_add, plain_add] at this
      exact this
end

end Go.Proofs.Ytfkippkfdepbkaa
