/- What a call leaves as it was: all blocks but those of a list, and new ones. -/
import Derived.Test.YtdgebfdjlbcogaaBytes
namespace Go.Proofs.Ytdgebfdjlbcogaa
open Go.RowKit

/-- w' is w with new blocks, and writes into the blocks of l alone. -/
structure Mod (l : List Nat) (w w' : World) : Prop where
  os : w'.os = w.os
  tape : w'.tape = w.tape
  output : w'.output = w.output
  size : w.heap.size ≤ w'.heap.size
  block : ∀ k, k < w.heap.size → k ∉ l → w'.heap[k]? = w.heap[k]?

theorem Mod.refl (l : List Nat) (w : World) : Mod l w w := ⟨rfl, rfl, rfl, Nat.le_refl _, fun _ _ _ => rfl⟩
theorem Mod.trans {l l' : List Nat} {a b c : World} (h : Mod l a b) (k : Mod l' b c) (hl : ∀ x ∈ l', x < a.heap.size → x ∈ l) : Mod l a c :=
  ⟨k.os.trans h.os, k.tape.trans h.tape, k.output.trans h.output, Nat.le_trans h.size k.size, fun x hx hn =>
    (k.block x (Nat.lt_of_lt_of_le hx h.size) (fun hm => hn (hl x hm hx))).trans (h.block x hx hn)⟩
theorem Mod.then {l : List Nat} {a b c : World} (h : Mod l a b) (k : Mod l b c) : Mod l a c := h.trans k (fun _ hx _ => hx)
theorem Mod.more {l l' : List Nat} {a b : World} (h : Mod l a b) (hl : ∀ x ∈ l, x < a.heap.size → x ∈ l') : Mod l' a b :=
  ⟨h.os, h.tape, h.output, h.size, fun x hx hn => h.block x hx (fun hm => hn (hl x hm hx))⟩
theorem Mod.drew {l : List Nat} {a w : World} (h : Mod l a w) : Mod l a w.drew := ⟨h.os, h.tape, h.output, h.size, h.block⟩
theorem Mod.drewN {l : List Nat} {a w : World} (n : Nat) (h : Mod l a w) : Mod l a (w.drewN n) := ⟨h.os, h.tape, h.output, h.size, h.block⟩
theorem Mod.alloc {l : List Nat} {a w : World} (h : Mod l a w) (o : Obj) : Mod l a (w.alloc o) := by
  refine ⟨h.os, h.tape, h.output, Nat.le_trans h.size (by show _ ≤ (w.heap.push o).size; simp), fun k hk hn => ?_⟩
  rw [Below.heap_alloc w o k (Nat.lt_of_lt_of_le hk h.size)]
  exact h.block k hk hn
theorem setCell_size (w : World) (a : Addr) (u : Value) : (w.setCell a u).heap.size = w.heap.size := by simp
theorem Mod.setCell {l : List Nat} {a w : World} (h : Mod l a w) {p : Addr} (hp : p.block < a.heap.size → p.block ∈ l) (u : Value) : Mod l a (w.setCell p u) := by
  refine ⟨h.os, h.tape, h.output, by rw [setCell_size]; exact h.size, fun k hk hn => ?_⟩
  rw [Below.heap_setCell w p u k (fun e => hn (e ▸ hp (e ▸ hk)))]
  exact h.block k hk hn
theorem Mod.setNew {l : List Nat} {a w : World} (h : Mod l a w) {p : Addr} (hp : a.heap.size ≤ p.block) (u : Value) : Mod l a (w.setCell p u) :=
  h.setCell (fun h => absurd h (Nat.not_lt.2 hp)) u
theorem Mod.below {l : List Nat} {B : Nat} {w w' : World} (h : Mod l w w') (hB : B ≤ w.heap.size) (hl : ∀ k ∈ l, B ≤ k) : Below B w w' :=
  ⟨h.os, h.tape, h.output, h.size, fun k hk => h.block k (Nat.lt_of_lt_of_le hk hB) (fun hm => absurd (hl k hm) (Nat.not_le.2 hk))⟩
theorem Mod.of_below {w w' : World} (h : Below w.heap.size w w') : Mod [] w w' := ⟨h.os, h.tape, h.output, h.size, fun k hk _ => h.block k hk⟩
theorem Mod.to_below {w w' : World} (h : Mod [] w w') : Below w.heap.size w w' := h.below (Nat.le_refl _) (by simp)
theorem Mod.cell {l : List Nat} {w w' : World} (h : Mod l w w') {p : Addr} (hp : p.block < w.heap.size) (hn : p.block ∉ l) : w'.cell? p = w.cell? p :=
  World.cell?_of_block (w := w) (h.block p.block hp hn)
theorem Mod.frozen {l : List Nat} {w w' : World} (h : Mod l w w') {p : Addr} (hp : p.block < w.heap.size) (hn : p.block ∉ l) : w'.frozen? p = w.frozen? p :=
  World.frozen?_of_block (w := w) (h.block p.block hp hn)

end Go.Proofs.Ytdgebfdjlbcogaa
