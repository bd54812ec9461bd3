/- What a call leaves as it was: all blocks but those of a list, and new ones. -/
import Derived.Test.YtngeijdfpgmcfaaBytes
namespace Go.Proofs.Ytngeijdfpgmcfaa
open Go.RowKit

/-- w' is w with new blocks, and writes into the blocks of l alone. -/
structure Mod (l : List Nat) (w w' : World) : Prop where
  os : w'.os = w.os
  tape : w'.tape = w.tape
  output : w'.output = w.output
  size : w.heap.size ≤ w'.heap.size
  block : ∀ k, k < w.heap.size → k ∉ l → w'.heap[k]? = w.heap[k]?

theorem Mod.refl (l : List Nat) (w : World) : Mod l w w := ⟨rfl, rfl, rfl, Nat.le_refl _, fun _ _ _ => rfl⟩
theorem Mod.trans {l l' : List Nat} {a b c : World} (h : Mod l a b) (k : Mod l' b c) (hl : ∀ x ∈ l', x < a.heap.size → x ∈ l) : Mod l a c :=
  ⟨k.os.trans h.os, k.tape.trans h.tape, k.output.trans h.output, Nat.le_trans h.size k.size, fun x hx hn =>
    (k.block x (Nat.lt_of_lt_of_le hx h.size) (fun hm => hn (hl x hm hx))).trans (h.block x hx hn)⟩
theorem Mod.then {l : List Nat} {a b c : World} (h : Mod l a b) (k : Mod l b c) : Mod l a c := h.trans k (fun _ hx _ => hx)
theorem Mod.more {l l' : List Nat} {a b : World} (h : Mod l a b) (hl : ∀ x ∈ l, x < a.heap.size → x ∈ l') : Mod l' a b :=
  ⟨h.os, h.tape, h.output, h.size, fun x hx hn => h.block x hx (fun hm => hn (hl x hm hx))⟩
theorem Mod.drew {l : List Nat} {a w : World} (h : Mod l a w) : Mod l a w.drew := ⟨h.os, h.tape, h.output, h.size, h.block⟩
theorem Mod.drewN {l : List Nat} {a w : World} (n : Nat) (h : Mod l a w) : Mod l a (w.drewN n) := ⟨h.os, h.tape, h.output, h.size, h.block⟩
theorem Mod.alloc {l : List Nat} {a w : World} (h : Mod l a w) (o : Obj) : Mod l a (w.alloc o) := by
  refine ⟨h.os, h.tape, h.output, Nat.le_trans h.size (by show _ ≤ (w.heap.push o).size; simp), fun k hk hn => ?_⟩
  rw [Below.heap_alloc w o k (Nat.lt_of_lt_of_le hk h.size)]
  exact h.block k hk hn
theorem setCell_size (w : World) (a : Addr) (u : Value) : (w.setCell a u).heap.size = w.heap.size := by simp
theorem Mod.setCell {l : List Nat} {a w : World} (h : Mod l a w) {p : Addr} (hp : p.block < a.heap.size → p.block ∈ l) (u : Value) : Mod l a (w.setCell p u) := by
  refine ⟨h.os, h.tape, h.output, by rw [setCell_size]; exact h.size, fun k hk hn => ?_⟩
  rw [Below.heap_setCell w p u k (fun e => hn (e ▸ hp (e ▸ hk)))]
  exact h.block k hk hn
theorem Mod.setNew {l : List Nat} {a w : World} (h : Mod l a w) {p : Addr} (hp : a.heap.size ≤ p.block) (u : Value) : Mod l a (w.setCell p u) :=
  h.setCell (fun h => absurd h (Nat.not_lt.2 hp)) u
theorem Mod.below {l : List Nat} {B : Nat} {w w' : World} (h : Mod l w w') (hB : B ≤ w.heap.size) (hl : ∀ k ∈ l, B ≤ k) : Below B w w' :=
  ⟨h.os, h.tape, h.output, h.size, fun k hk => h.block k (Nat.lt_of_lt_of_le hk hB) (fun hm => absurd (hl k hm) (Nat.not_le.2 hk))⟩
theorem Mod.of_below {w w' : World} (h : Below w.heap.size w w') : Mod [] w w' := ⟨h.os, h.tape, h.output, h.size, fun k hk _ => h.block k hk⟩
theorem Mod.to_below {w w' : World} (h : Mod [] w w') : Below w.heap.size w w' := h.below (Nat.le_refl _) (by simp)
theorem Mod.cell {l : List Nat} {w w' : World} (h : Mod l w w') {p : Addr} (hp : p.block < w.heap.size) (hn : p.block ∉ l) : w'.cell? p = w.cell? p :=
  World.cell?_of_block (w := w) (h.block p.block hp hn)
theorem Mod.frozen {l : List Nat} {w w' : World} (h : Mod l w w') {p : Addr} (hp : p.block < w.heap.size) (hn : p.block ∉ l) : w'.frozen? p = w.frozen? p :=
  World.frozen?_of_block (w := w) (h.block p.block hp hn)

/-- Block b is just these cells, none of them frozen. -/
def Blk (w : World) (b : Nat) (cs : Array Value) (t : TypeId) : Prop := w.heap[b]? = some (.cells cs t (0, 0))
theorem Blk.lt {w : World} {b : Nat} {cs : Array Value} {t : TypeId} (h : Blk w b cs t) : b < w.heap.size := by
  rcases Nat.lt_or_ge b w.heap.size with h' | h'
  · exact h'
  · unfold Blk at h; rw [Array.getElem?_eq_none h'] at h; simp at h
theorem Blk.new (w : World) (cs : Array Value) (t : TypeId) : Blk (w.alloc (.cells cs t)) w.heap.size cs t := by
  show (w.heap.push _)[w.heap.size]? = _
  simp
theorem Blk.alloc {w : World} {b : Nat} {cs : Array Value} {t : TypeId} (h : Blk w b cs t) (o : Obj) : Blk (w.alloc o) b cs t :=
  (Below.heap_alloc w o b h.lt).trans h
theorem Blk.kept {w w' : World} {b : Nat} {cs : Array Value} {t : TypeId} {l : List Nat} (h : Blk w b cs t) (m : Mod l w w') (hn : b ∉ l) : Blk w' b cs t :=
  (m.block b h.lt hn).trans h
theorem Blk.drew {w : World} {b : Nat} {cs : Array Value} {t : TypeId} (h : Blk w b cs t) : Blk w.drew b cs t := h
theorem Blk.drewN {w : World} {b : Nat} {cs : Array Value} {t : TypeId} (n : Nat) (h : Blk w b cs t) : Blk (w.drewN n) b cs t := h
theorem Blk.cell {w : World} {b : Nat} {cs : Array Value} {t : TypeId} (h : Blk w b cs t) (i : Nat) : w.cell? ⟨b, i, none⟩ = cs[i]? := by
  unfold Blk at h; simp [World.cell?, h]
theorem Blk.frozen {w : World} {b : Nat} {cs : Array Value} {t : TypeId} (h : Blk w b cs t) (i : Nat) : w.frozen? ⟨b, i, none⟩ = false := by
  unfold Blk at h; simp [World.frozen?, h]
theorem Blk.set {w : World} {b : Nat} {cs : Array Value} {t : TypeId} (h : Blk w b cs t) (i : Nat) (v : Value) : Blk (w.setCell ⟨b, i, none⟩ v) b (cs.setIfInBounds i v) t := by
  unfold Blk at h ⊢
  simp only [World.setCell]
  rw [Array.getElem?_modify]
  simp [h]
theorem Blk.three {w : World} {b : Nat} {x y z : Value} {t : TypeId} (h : Blk w b #[x, y, z] t) :
    w.cell? ⟨b, 0, none⟩ = some x ∧ w.cell? ⟨b, 1, none⟩ = some y ∧ w.cell? ⟨b, 2, none⟩ = some z ∧ w.frozen? ⟨b, 0, none⟩ = false ∧ w.frozen? ⟨b, 1, none⟩ = false ∧ w.frozen? ⟨b, 2, none⟩ = false :=
  ⟨h.cell 0, h.cell 1, h.cell 2, h.frozen 0, h.frozen 1, h.frozen 2⟩
theorem Blk.two {w : World} {b : Nat} {x y : Value} {t : TypeId} (h : Blk w b #[x, y] t) :
    w.cell? ⟨b, 0, none⟩ = some x ∧ w.cell? ⟨b, 1, none⟩ = some y ∧ w.frozen? ⟨b, 0, none⟩ = false ∧ w.frozen? ⟨b, 1, none⟩ = false :=
  ⟨h.cell 0, h.cell 1, h.frozen 0, h.frozen 1⟩
theorem Blk.other {w : World} {b : Nat} {cs : Array Value} {t : TypeId} (h : Blk w b cs t) {a : Addr} (ha : a.block ≠ b) (v : Value) : Blk (w.setCell a v) b cs t :=
  (Below.heap_setCell w a v b (fun e => ha e.symm)).trans h

theorem res2 {w w1 : World} {a b : Value} {t : TypeId} {l : List Nat} (hl : ∀ x ∈ l, x < w.heap.size) (m : Mod l (w.alloc (.cells #[a, b] t)) w1) :
    w1.cell? ⟨w.heap.size, 0, none⟩ = some a ∧ w1.cell? ⟨w.heap.size, 1, none⟩ = some b ∧ w1.frozen? ⟨w.heap.size, 0, none⟩ = false ∧ w1.frozen? ⟨w.heap.size, 1, none⟩ = false ∧ w.heap.size < w1.heap.size := by
  have h2 : w.heap.size + 1 ≤ w1.heap.size := by have := m.size; simpa using this
  have hn : w.heap.size ∉ l := fun h => Nat.lt_irrefl _ (hl _ h)
  refine ⟨?_, ?_, ?_, ?_, by omega⟩
  · rw [m.cell (p := ⟨w.heap.size, 0, none⟩) (by simp) hn]; simp
  · rw [m.cell (p := ⟨w.heap.size, 1, none⟩) (by simp) hn]; simp
  · rw [m.frozen (p := ⟨w.heap.size, 0, none⟩) (by simp) hn]; simp
  · rw [m.frozen (p := ⟨w.heap.size, 1, none⟩) (by simp) hn]; simp
theorem res3 {w w1 : World} {a b c : Value} {t : TypeId} {l : List Nat} (hl : ∀ x ∈ l, x < w.heap.size) (m : Mod l (w.alloc (.cells #[a, b, c] t)) w1) :
    w1.cell? ⟨w.heap.size, 0, none⟩ = some a ∧ w1.cell? ⟨w.heap.size, 1, none⟩ = some b ∧ w1.cell? ⟨w.heap.size, 2, none⟩ = some c ∧
    w1.frozen? ⟨w.heap.size, 0, none⟩ = false ∧ w1.frozen? ⟨w.heap.size, 1, none⟩ = false ∧ w1.frozen? ⟨w.heap.size, 2, none⟩ = false ∧ w.heap.size < w1.heap.size := by
  have h2 : w.heap.size + 1 ≤ w1.heap.size := by have := m.size; simpa using this
  have hn : w.heap.size ∉ l := fun h => Nat.lt_irrefl _ (hl _ h)
  refine ⟨?_, ?_, ?_, ?_, ?_, ?_, by omega⟩
  · rw [m.cell (p := ⟨w.heap.size, 0, none⟩) (by simp) hn]; simp
  · rw [m.cell (p := ⟨w.heap.size, 1, none⟩) (by simp) hn]; simp
  · rw [m.cell (p := ⟨w.heap.size, 2, none⟩) (by simp) hn]; simp
  · rw [m.frozen (p := ⟨w.heap.size, 0, none⟩) (by simp) hn]; simp
  · rw [m.frozen (p := ⟨w.heap.size, 1, none⟩) (by simp) hn]; simp
  · rw [m.frozen (p := ⟨w.heap.size, 2, none⟩) (by simp) hn]; simp

end Go.Proofs.Ytngeijdfpgmcfaa
