/- What becomes of memory: 'Upd M w w2': w2 is w but for the blocks that M names, and new ones. Blocks known whole. No condition. -/
import Derived.Below
import Derived.Laws.AppendOwn
import Derived.Laws.Rows
import Derived.Deep.Draws
import Derived.OwnWalk
import Derived.Deep.OwnRows
import Derived.OneCell
import Derived.Test.YtainkpgplmkiaaaWWords
namespace Go.Proofs.Ytainkpgplmkiaaa.MWorld
open Go.RowKit Go.Proofs.YtainkpgplmkiaaaW.PrintWords

structure Upd (M : Nat → Prop) (w w' : World) : Prop where
  os : w'.os = w.os
  tape : w'.tape = w.tape
  output : w'.output = w.output
  size : w.heap.size ≤ w'.heap.size
  block : ∀ k, k < w.heap.size → ¬ M k → w'.heap[k]? = w.heap[k]?

section
variable {M M' : Nat → Prop} {w a b c : World}
theorem Upd.refl (M : Nat → Prop) (w : World) : Upd M w w := ⟨rfl, rfl, rfl, Nat.le_refl _, fun _ _ _ => rfl⟩
theorem Upd.trans' (h : Upd M a b) (k : Upd M' b c) (hM : ∀ i, i < a.heap.size → M' i → M i) : Upd M a c :=
  ⟨k.os.trans h.os, k.tape.trans h.tape, k.output.trans h.output, Nat.le_trans h.size k.size,
    fun i hi hn => (k.block i (Nat.lt_of_lt_of_le hi h.size) (fun hm => hn (hM i hi hm))).trans (h.block i hi hn)⟩
theorem Upd.trans (h : Upd M a b) (k : Upd M b c) : Upd M a c := h.trans' k (fun _ _ hm => hm)
theorem Upd.mono (h : Upd M a b) (hM : ∀ i, i < a.heap.size → M i → M' i) : Upd M' a b :=
  ⟨h.os, h.tape, h.output, h.size, fun i hi hn => h.block i hi (fun hm => hn (hM i hi hm))⟩
theorem Upd.drew (h : Upd M a b) : Upd M a b.drew := ⟨h.os, h.tape, h.output, h.size, h.block⟩
theorem Upd.drewN (h : Upd M a b) (n : Nat) : Upd M a (b.drewN n) := ⟨h.os, h.tape, h.output, h.size, h.block⟩
theorem Upd.alloc (h : Upd M a b) (o : Obj) : Upd M a (b.alloc o) :=
  ⟨h.os, h.tape, h.output, Nat.le_trans h.size (by simp), fun i hi hn => (Below.heap_alloc b o i (Nat.lt_of_lt_of_le hi h.size)).trans (h.block i hi hn)⟩
theorem Upd.setCell (h : Upd M a b) {p : Addr} (hp : M p.block ∨ a.heap.size ≤ p.block) (u : Value) : Upd M a (b.setCell p u) :=
  ⟨h.os, h.tape, h.output, by simpa [World.setCell] using h.size, fun i hi hn => (Below.heap_setCell b p u i (by
    rintro rfl
    rcases hp with hp | hp
    · exact hn hp
    · omega)).trans (h.block i hi hn)⟩
theorem Upd.of_below {B : Nat} (h : Below B a b) (hB : a.heap.size ≤ B) (M : Nat → Prop) : Upd M a b :=
  ⟨h.os, h.tape, h.output, h.size, fun i hi _ => h.block i (by omega)⟩
theorem Upd.of_grown {row : Option Nat} (h : a.grownBy b row) (hM : ∀ k, row = some k → k < a.heap.size → M k) : Upd M a b :=
  ⟨h.os, h.tape, h.output, h.size, fun i hi hn => h.block i hi (fun e => hn (hM i e.symm hi))⟩
theorem Upd.below {B : Nat} (h : Upd M a b) (hB : B ≤ a.heap.size) (hM : ∀ k, k < a.heap.size → M k → B ≤ k) : Below B a b :=
  ⟨h.os, h.tape, h.output, h.size, fun i hi => h.block i (by omega) (fun hm => by have := hM i (by omega) hm; omega)⟩
/-- A step behind what was below. -/
theorem below_upd {B : Nat} (h : Below B w a) (k : Upd M a b) (hB : B ≤ a.heap.size) (hM : ∀ k, M k → B ≤ k) : Below B w b :=
  h.trans (k.below hB (fun i _ hm => hM i hm))
theorem Upd.blk (h : Upd M a b) {g : Nat} {o : Obj} (hg : a.heap[g]? = some o) (hn : ¬ M g) : b.heap[g]? = some o := (h.block g (blk_lt hg) hn).trans hg
theorem Upd.cell (h : Upd M a b) {p : Addr} {v : Value} (hc : a.cell? p = some v) (hn : ¬ M p.block) : b.cell? p = some v :=
  (World.cell?_of_block (h.block p.block (World.block_lt_of_cell? a p hc) hn)).trans hc
end

theorem set_size (cs : Array Value) (i : Nat) (v : Value) : (cs.setIfInBounds i v).size = cs.size := by simp
theorem set_at (cs : Array Value) (i j : Nat) (v : Value) : (cs.setIfInBounds i v)[j]? = if i = j then (if i < cs.size then some v else none) else cs[j]? := by
  rw [Array.getElem?_setIfInBounds]
/-- A block that was just laid. -/
theorem new_cell (w : World) (cs : Array Value) (t : TypeId) (i : Nat) : (w.alloc (.cells cs t)).cell? ⟨w.heap.size, i, none⟩ = cs[i]? := blk_cell (blk_new w _) i
theorem new_frozen (w : World) (cs : Array Value) (t : TypeId) (i : Nat) : (w.alloc (.cells cs t)).frozen? ⟨w.heap.size, i, none⟩ = false := blk_frozen (blk_new w _) i
theorem Upd.one_alloc (w : World) (o : Obj) (M : Nat → Prop) : Upd M w (w.alloc o) := (Upd.refl M w).alloc o
theorem own_upd {w w' : World} {M : Nat → Prop} {base n size : Nat} {e : TypeId} {v : Value} {xs : List Value} (h : w.ownsRow base e size v n xs) (k : Upd M w w') (hn : ∀ g, base ≤ g → g < w.heap.size → v.ownBlock = some g → ¬ M g) : w'.ownsRow base e size v n xs := by
  refine ⟨h.1, ?_⟩
  rcases h.2 with h0 | ⟨g, cap, cur, rfl, hb, hg, rest⟩
  · exact .inl h0
  · exact .inr ⟨g, cap, cur, rfl, hb, k.blk hg (hn g hb (blk_lt hg) rfl), rest⟩
theorem own_drew {w : World} {base n size : Nat} {e : TypeId} {v : Value} {xs : List Value} (h : w.ownsRow base e size v n xs) : w.drew.ownsRow base e size v n xs := h
theorem own_drewN' {w : World} {base n size : Nat} {e : TypeId} {v : Value} {xs : List Value} (h : w.ownsRow base e size v n xs) (k : Nat) : (w.drewN k).ownsRow base e size v n xs := h
end Go.Proofs.Ytainkpgplmkiaaa.MWorld
