/-
  How a slice of texts that came in is opened: each element's string, cell by cell.
-/
import Derived.Test.YtbghjmgijjhihaaMore
import Derived.ProofKit
import Derived.Deep.Slices
import Derived.ChangeSame
import Derived.ChangeOld
import Derived.ShutString
namespace Go.Proofs.Ytbghjmgijjhihaa
open Go.ChangeShapes Go.WideShapes Go.RowKit Go.Deep

theorem own : ownKnob Try.prog.godebug = none := by kernel_rfl
theorem laidOut : laidOutB Try.prog = true := by kernel_rfl
theorem cells9 : Try.prog.cellsOf 9 = 1 := by kernel_rfl

theorem plain_add (b off i : Nat) : (⟨b, off, none⟩ : Addr).add i = ⟨b, off + i, none⟩ := by
  unfold Addr.add
  split
  · rename_i h; subst h; rfl
  · rfl

section
variable {H : Type} {enc : TypeId × Value → H} {w : World} {base : Nat} {spare : Nat → Bool} {held : Bool}

theorem open_texts {fuel : Nat} {cs : List Value} {x : DataW H × List MemPlace} (h : DataW.trod enc Try.prog w base spare held fuel 22 cs = some x) :
    ∃ (a : Option Addr) (n cap : Nat) (S : Nat → ByteArray), cs = [.slice a n cap] ∧ n ≤ maxLen ∧ (∀ j, j < n → (S j).size ≤ maxLen) ∧ Tx w w.heap.size a n S := by
  rcases open_slice1 Try.underlying22 cells9 h with ⟨rfl, _⟩ | ⟨a, len, cap, m, n, V, D, Pl, rfl, hb, hl, hm, hmm, hx, hi⟩
  · exact ⟨none, 0, 0, fun _ => ⟨#[]⟩, rfl, Nat.zero_le _, fun j hj => absurd hj (by omega), fun h => absurd h (by omega)⟩
  · have hle : len ≤ m := by rw [hmm]; split <;> omega
    have hone : ∀ i, i < len → ∃ s : ByteArray, w.cell? (a.add i) = some (.string s) ∧ s.size ≤ maxLen := by
      intro i hil
      obtain ⟨hc, ht⟩ := hi i (by omega)
      obtain ⟨s, e, _, hs⟩ := DataW.trod_string Try.underlying9 ht
      injection e with e _
      rw [e] at hc
      exact ⟨s, hc, hs⟩
    obtain ⟨f, hf⟩ := choose_lt hone
    refine ⟨some a, len, cap, f, rfl, by omega, fun j hj => (hf j hj).2, fun hpos => ?_⟩
    obtain ⟨b, off, spot⟩ := a
    have h0 := (hf 0 hpos).1
    have hs : spot = none := by simpa [Addr.add] using World.cell?_spot h0
    subst hs
    refine ⟨b, off, rfl, ?_, fun i hil => ?_⟩
    · have := World.block_lt_of_cell? w _ h0
      simpa [plain_add] using this
    · have := (hf i hil).1
      rw [plain_add] at this
      exact this
end

end Go.Proofs.Ytbghjmgijjhihaa
