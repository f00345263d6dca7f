/-
  Words for the memory of layer 6: a reader's two cells; a slice of texts.
-/
import Derived.Test.YtbghjmgijjhihaaCalls
import Derived.Deep.AppendLies
import Derived.Deep.RegionHeld3
import Derived.Maps.Range
namespace Go.Proofs.Ytbghjmgijjhihaa
open Go.RowKit

/-- Block b is a reader of type T: what waits, and whether it failed. -/
def Blk (w : World) (b : Nat) (r : ByteArray) (f : Bool) (T : TypeId) : Prop := w.heap[b]? = some (.cells #[.string r, .bool f] T (0, 0))
theorem Blk.lt {w : World} {b : Nat} {r : ByteArray} {f : Bool} {T : TypeId} (h : Blk w b r f T) : b < w.heap.size := by
  rcases Nat.lt_or_ge b w.heap.size with hlt | hge
  · exact hlt
  · unfold Blk at h; rw [Array.getElem?_eq_none hge] at h; cases h
theorem Blk.cell0 {w : World} {b : Nat} {r : ByteArray} {f : Bool} {T : TypeId} (h : Blk w b r f T) : w.cell? ⟨b, 0, none⟩ = some (.string r) := cell_of_row w b 0 _ T (0, 0) h
theorem Blk.cell1 {w : World} {b : Nat} {r : ByteArray} {f : Bool} {T : TypeId} (h : Blk w b r f T) : w.cell? ⟨b, 1, none⟩ = some (.bool f) := cell_of_row w b 1 _ T (0, 0) h
theorem Blk.free {w : World} {b : Nat} {r : ByteArray} {f : Bool} {T : TypeId} (h : Blk w b r f T) (i : Nat) : w.frozen? ⟨b, i, none⟩ = false := by
  unfold Blk at h
  simp [World.frozen?, h]
theorem Blk.set0 {w : World} {b : Nat} {r : ByteArray} {f : Bool} {T : TypeId} (h : Blk w b r f T) (q : ByteArray) : Blk (w.setCell ⟨b, 0, none⟩ (.string q)) b q f T := by
  unfold Blk at h ⊢
  simp [World.setCell, Array.getElem?_modify, h]
theorem Blk.set1 {w : World} {b : Nat} {r : ByteArray} {f : Bool} {T : TypeId} (h : Blk w b r f T) (g : Bool) : Blk (w.setCell ⟨b, 1, none⟩ (.bool g)) b r g T := by
  unfold Blk at h ⊢
  simp [World.setCell, Array.getElem?_modify, h]
theorem Blk.far {w : World} {b : Nat} {r : ByteArray} {f : Bool} {T : TypeId} (h : Blk w b r f T) {p : Addr} (hp : b ≠ p.block) (u : Value) : Blk (w.setCell p u) b r f T := (Below.heap_setCell w p u b hp).trans h
theorem Blk.alloc {w : World} {b : Nat} {r : ByteArray} {f : Bool} {T : TypeId} (h : Blk w b r f T) (o : Obj) : Blk (w.alloc o) b r f T := (Below.heap_alloc w o b h.lt).trans h
theorem Blk.drewN {w : World} {b : Nat} {r : ByteArray} {f : Bool} {T : TypeId} (h : Blk w b r f T) (k : Nat) : Blk (w.drewN k) b r f T := h
theorem Blk.drew {w : World} {b : Nat} {r : ByteArray} {f : Bool} {T : TypeId} (h : Blk w b r f T) : Blk w.drew b r f T := h
theorem Blk.grown {w w' : World} {b : Nat} {r : ByteArray} {f : Bool} {T : TypeId} (h : Blk w b r f T) {row : Option Nat} (hg : w.grownBy w' row) (hne : some b ≠ row) : Blk w' b r f T := (hg.block b h.lt hne).trans h
theorem Blk.below {w w' : World} {b B : Nat} {r : ByteArray} {f : Bool} {T : TypeId} (h : Blk w b r f T) (hg : Below B w w') (hb : b < B) : Blk w' b r f T := (hg.block b hb).trans h
theorem Blk.new (w : World) (r : ByteArray) (f : Bool) (T : TypeId) : Blk (w.alloc (.cells #[.string r, .bool f] T)) w.heap.size r f T := heap_alloc_new w _

/-- Steps of 'grownBy' over one block. -/
theorem gb_set {a w : World} {b : Nat} (h : a.grownBy w (some b)) {p : Addr} (hp : p.block = b) (u : Value) : a.grownBy (w.setCell p u) (some b) :=
  ⟨h.os, h.tape, h.output, by simpa [World.setCell] using h.size, fun k hk hne => by
    rw [Below.heap_setCell w p u k (fun e => hne (by rw [e, hp]))]
    exact h.block k hk hne⟩
theorem gb_alloc {a w : World} {row : Option Nat} (h : a.grownBy w row) (o : Obj) : a.grownBy (w.alloc o) row :=
  h.andThen (World.grownBy_alloc w o none) (fun j hj => by cases hj)
theorem gb_drewN {a w : World} {row : Option Nat} (h : a.grownBy w row) (k : Nat) : a.grownBy (w.drewN k) row := ⟨h.os, h.tape, h.output, h.size, h.block⟩
theorem gb_drew {a w : World} {row : Option Nat} (h : a.grownBy w row) : a.grownBy w.drew row := ⟨h.os, h.tape, h.output, h.size, h.block⟩

/-- What a call owns: the texts L in a slice of its own; nil, if there are none. -/
def Own (w : World) (base : Nat) (v : Value) (L : List ByteArray) : Prop := w.ownsRow base 9 1 v L.length (L.map .string) ∧ (L = [] → v = .slice none 0 0)
theorem Own.nil (w : World) (base : Nat) : Own w base (.slice none 0 0) [] := ⟨World.ownsRow_nil _ _ _ _, fun _ => rfl⟩

theorem info9 : (Try.prog.info? 9).map (fun i => (i.zero, i.size, i.bytes)) = some (some (.string ⟨#[]⟩), 1, 16) := by kernel_rfl

end Go.Proofs.Ytbghjmgijjhihaa
