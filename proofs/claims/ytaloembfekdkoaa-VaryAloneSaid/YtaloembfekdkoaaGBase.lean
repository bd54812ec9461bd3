/-
  Cells that are bytes, as lists of bytes: the conversion to a string; small facts on rows.
  What a call leaves as it was: all blocks but those of a list, and new ones.
  Regions that draw their order, whose operations only add to the world: one walk of one order serves every order.
   Steady operations yield one value in every world that is the region's first one with new blocks; late ones (an allocation, a call that makes memory) yield a value of which a fact holds that stays.
-/
import Derived.Test.YtaloembfekdkoaaRows
import Derived.WalkKit
import Derived.WalkSpells
import Derived.WalkLawsBesides
import Derived.Lib.Hide
import Derived.Laws.IdiomStrings
import Derived.StillTail

namespace Go.Proofs.Ytaloembfekdkoaa
open Go.RowKit
def bcell (b : UInt8) : Value := .int .u8 b.toNat
def bs (l : List UInt8) : ByteArray := ⟨l.toArray⟩
theorem bs_size (l : List UInt8) : (bs l).size = l.length := rfl
theorem foldl_push (ns : List UInt8) : ∀ (s : ByteArray), (ns.map fun b => (b.toNat : Int)).foldl (fun r n => r.push (UInt8.ofNat n.toNat)) s = ⟨s.data ++ ns.toArray⟩ := by
  induction ns with
  | nil => intro s; simp
  | cons b r ih =>
    intro s
    simp only [List.map_cons, List.foldl_cons, Int.toNat_natCast, UInt8.ofNat_toNat]
    rw [ih]
    congr 1
    show s.data.push b ++ r.toArray = _
    apply Array.ext'
    simp
theorem conv_bytes {P : Program} (w : World) (src dst e : TypeId) (a : Addr) (cap : Nat) (l : List UInt8)
    (hs : P.underlying src = some (.slice e)) (he : P.underlying e = some (.int .u8)) (hd : P.underlying dst = some .string)
    (h : ∀ j u, l[j]? = some u → w.cell? (a.add j) = some (bcell u)) :
    (convert src dst (.slice (some a) l.length cap)).run P w = .ok (.string (bs l)) w := by
  rw [run_convert_bytes_string w src dst e _ _ _ hs he hd]
  have hl := run_loadCells_list (P := P) w a (l.map bcell) (fun j v hv => by
    rw [List.getElem?_map] at hv
    cases hj : l[j]? with
    | none => rw [hj] at hv; simp at hv
    | some u => rw [hj] at hv; simp at hv; subst hv; exact h j u hj)
  rw [List.length_map] at hl
  rw [run_bytesToString w a l.length cap (l.map fun b => (b.toNat : Int)) (by rw [hl]; simp only [List.map_map]; rfl)]
  rw [foldl_push]
  congr 2
  show (⟨(#[] : Array UInt8) ++ l.toArray⟩ : ByteArray) = _
  simp [bs]
theorem conv_new {P : Program} (w : World) (src dst e : TypeId) (cap n : Nat) (l : List UInt8) (cs : Array Value) (t : TypeId)
    (hs : P.underlying src = some (.slice e)) (he : P.underlying e = some (.int .u8)) (hd : P.underlying dst = some .string)
    (hn : n = l.length) (h : cs.toList.take n = l.map bcell) :
    (convert src dst (.slice (some ⟨w.heap.size, 0, none⟩) n cap)).run P (w.alloc (.cells cs t)) = .ok (.string (bs l)) (w.alloc (.cells cs t)) := by
  subst hn
  refine conv_bytes _ src dst e ⟨w.heap.size, 0, none⟩ cap l hs he hd fun j u hj => ?_
  have hj' : j < l.length := by
    rcases Nat.lt_or_ge j l.length with h' | h'
    · exact h'
    · rw [List.getElem?_eq_none h'] at hj; simp at hj
  have : (w.alloc (.cells cs t)).cell? (Addr.add ⟨w.heap.size, 0, none⟩ j) = cs[j]? := by
    by_cases h0 : j = 0
    · subst h0; simp [Addr.add]
    · simp [Addr.add, h0]
  rw [this]
  have h2 : (cs.toList.take l.length)[j]? = some (bcell u) := by rw [h, List.getElem?_map, hj]; rfl
  rw [List.getElem?_take] at h2
  simp only [hj', if_true] at h2
  rw [← h2]; simp
end Go.Proofs.Ytaloembfekdkoaa

namespace Go.Proofs.Ytaloembfekdkoaa
open Go.RowKit
structure Mod (l : List Nat) (w w' : World) : Prop where
  os : w'.os = w.os
  tape : w'.tape = w.tape
  output : w'.output = w.output
  size : w.heap.size ≤ w'.heap.size
  block : ∀ k, k < w.heap.size → k ∉ l → w'.heap[k]? = w.heap[k]?
theorem Mod.refl (l : List Nat) (w : World) : Mod l w w := ⟨rfl, rfl, rfl, Nat.le_refl _, fun _ _ _ => rfl⟩
theorem Mod.trans {l l' : List Nat} {a b c : World} (h : Mod l a b) (k : Mod l' b c) (hl : ∀ x ∈ l', x < a.heap.size → x ∈ l) : Mod l a c :=
  ⟨k.os.trans h.os, k.tape.trans h.tape, k.output.trans h.output, Nat.le_trans h.size k.size, fun x hx hn =>
    (k.block x (Nat.lt_of_lt_of_le hx h.size) (fun hm => hn (hl x hm hx))).trans (h.block x hx hn)⟩
theorem Mod.then {l : List Nat} {a b c : World} (h : Mod l a b) (k : Mod l b c) : Mod l a c := h.trans k (fun _ hx _ => hx)
theorem Mod.more {l l' : List Nat} {a b : World} (h : Mod l a b) (hl : ∀ x ∈ l, x < a.heap.size → x ∈ l') : Mod l' a b :=
  ⟨h.os, h.tape, h.output, h.size, fun x hx hn => h.block x hx (fun hm => hn (hl x hm hx))⟩
theorem Mod.drew {l : List Nat} {a w : World} (h : Mod l a w) : Mod l a w.drew := ⟨h.os, h.tape, h.output, h.size, h.block⟩
theorem Mod.drewN {l : List Nat} {a w : World} (n : Nat) (h : Mod l a w) : Mod l a (w.drewN n) := ⟨h.os, h.tape, h.output, h.size, h.block⟩
theorem Mod.alloc {l : List Nat} {a w : World} (h : Mod l a w) (o : Obj) : Mod l a (w.alloc o) := by
  refine ⟨h.os, h.tape, h.output, Nat.le_trans h.size (by show _ ≤ (w.heap.push o).size; simp), fun k hk hn => ?_⟩
  rw [Below.heap_alloc w o k (Nat.lt_of_lt_of_le hk h.size)]
  exact h.block k hk hn
theorem setCell_size (w : World) (a : Addr) (u : Value) : (w.setCell a u).heap.size = w.heap.size := by simp
theorem Mod.setCell {l : List Nat} {a w : World} (h : Mod l a w) {p : Addr} (hp : p.block < a.heap.size → p.block ∈ l) (u : Value) : Mod l a (w.setCell p u) := by
  refine ⟨h.os, h.tape, h.output, by rw [setCell_size]; exact h.size, fun k hk hn => ?_⟩
  rw [Below.heap_setCell w p u k (fun e => hn (e ▸ hp (e ▸ hk)))]
  exact h.block k hk hn
theorem Mod.setNew {l : List Nat} {a w : World} (h : Mod l a w) {p : Addr} (hp : a.heap.size ≤ p.block) (u : Value) : Mod l a (w.setCell p u) :=
  h.setCell (fun h => absurd h (Nat.not_lt.2 hp)) u
theorem Mod.below {l : List Nat} {B : Nat} {w w' : World} (h : Mod l w w') (hB : B ≤ w.heap.size) (hl : ∀ k ∈ l, B ≤ k) : Below B w w' :=
  ⟨h.os, h.tape, h.output, h.size, fun k hk => h.block k (Nat.lt_of_lt_of_le hk hB) (fun hm => absurd (hl k hm) (Nat.not_le.2 hk))⟩
theorem Mod.of_below {w w' : World} (h : Below w.heap.size w w') : Mod [] w w' := ⟨h.os, h.tape, h.output, h.size, fun k hk _ => h.block k hk⟩
theorem Mod.to_below {w w' : World} (h : Mod [] w w') : Below w.heap.size w w' := h.below (Nat.le_refl _) (by simp)
theorem Mod.cell {l : List Nat} {w w' : World} (h : Mod l w w') {p : Addr} (hp : p.block < w.heap.size) (hn : p.block ∉ l) : w'.cell? p = w.cell? p :=
  World.cell?_of_block (w := w) (h.block p.block hp hn)
theorem Mod.frozen {l : List Nat} {w w' : World} (h : Mod l w w') {p : Addr} (hp : p.block < w.heap.size) (hn : p.block ∉ l) : w'.frozen? p = w.frozen? p :=
  World.frozen?_of_block (w := w) (h.block p.block hp hn)
def Blk (w : World) (b : Nat) (cs : Array Value) (t : TypeId) : Prop := w.heap[b]? = some (.cells cs t (0, 0))
theorem Blk.lt {w : World} {b : Nat} {cs : Array Value} {t : TypeId} (h : Blk w b cs t) : b < w.heap.size := by
  rcases Nat.lt_or_ge b w.heap.size with h' | h'
  · exact h'
  · unfold Blk at h; rw [Array.getElem?_eq_none h'] at h; simp at h
theorem Blk.new (w : World) (cs : Array Value) (t : TypeId) : Blk (w.alloc (.cells cs t)) w.heap.size cs t := by
  show (w.heap.push _)[w.heap.size]? = _
  simp
theorem Blk.alloc {w : World} {b : Nat} {cs : Array Value} {t : TypeId} (h : Blk w b cs t) (o : Obj) : Blk (w.alloc o) b cs t :=
  (Below.heap_alloc w o b h.lt).trans h
theorem Blk.kept {w w' : World} {b : Nat} {cs : Array Value} {t : TypeId} {l : List Nat} (h : Blk w b cs t) (m : Mod l w w') (hn : b ∉ l) : Blk w' b cs t :=
  (m.block b h.lt hn).trans h
theorem Blk.drew {w : World} {b : Nat} {cs : Array Value} {t : TypeId} (h : Blk w b cs t) : Blk w.drew b cs t := h
theorem Blk.drewN {w : World} {b : Nat} {cs : Array Value} {t : TypeId} (n : Nat) (h : Blk w b cs t) : Blk (w.drewN n) b cs t := h
theorem Blk.cell {w : World} {b : Nat} {cs : Array Value} {t : TypeId} (h : Blk w b cs t) (i : Nat) : w.cell? ⟨b, i, none⟩ = cs[i]? := by
  unfold Blk at h; simp [World.cell?, h]
theorem Blk.frozen {w : World} {b : Nat} {cs : Array Value} {t : TypeId} (h : Blk w b cs t) (i : Nat) : w.frozen? ⟨b, i, none⟩ = false := by
  unfold Blk at h; simp [World.frozen?, h]
theorem Blk.set {w : World} {b : Nat} {cs : Array Value} {t : TypeId} (h : Blk w b cs t) (i : Nat) (v : Value) : Blk (w.setCell ⟨b, i, none⟩ v) b (cs.setIfInBounds i v) t := by
  unfold Blk at h ⊢
  simp only [World.setCell]
  rw [Array.getElem?_modify]
  simp [h]
theorem Blk.three {w : World} {b : Nat} {x y z : Value} {t : TypeId} (h : Blk w b #[x, y, z] t) :
    w.cell? ⟨b, 0, none⟩ = some x ∧ w.cell? ⟨b, 1, none⟩ = some y ∧ w.cell? ⟨b, 2, none⟩ = some z ∧ w.frozen? ⟨b, 0, none⟩ = false ∧ w.frozen? ⟨b, 1, none⟩ = false ∧ w.frozen? ⟨b, 2, none⟩ = false :=
  ⟨h.cell 0, h.cell 1, h.cell 2, h.frozen 0, h.frozen 1, h.frozen 2⟩
theorem Blk.two {w : World} {b : Nat} {x y : Value} {t : TypeId} (h : Blk w b #[x, y] t) :
    w.cell? ⟨b, 0, none⟩ = some x ∧ w.cell? ⟨b, 1, none⟩ = some y ∧ w.frozen? ⟨b, 0, none⟩ = false ∧ w.frozen? ⟨b, 1, none⟩ = false :=
  ⟨h.cell 0, h.cell 1, h.frozen 0, h.frozen 1⟩
theorem Blk.other {w : World} {b : Nat} {cs : Array Value} {t : TypeId} (h : Blk w b cs t) {a : Addr} (ha : a.block ≠ b) (v : Value) : Blk (w.setCell a v) b cs t :=
  (Below.heap_setCell w a v b (fun e => ha e.symm)).trans h
theorem res3 {w w1 : World} {a b c : Value} {t : TypeId} {l : List Nat} (hl : ∀ x ∈ l, x < w.heap.size) (m : Mod l (w.alloc (.cells #[a, b, c] t)) w1) :
    w1.cell? ⟨w.heap.size, 0, none⟩ = some a ∧ w1.cell? ⟨w.heap.size, 1, none⟩ = some b ∧ w1.cell? ⟨w.heap.size, 2, none⟩ = some c ∧
    w1.frozen? ⟨w.heap.size, 0, none⟩ = false ∧ w1.frozen? ⟨w.heap.size, 1, none⟩ = false ∧ w1.frozen? ⟨w.heap.size, 2, none⟩ = false ∧ w.heap.size < w1.heap.size := by
  have h2 : w.heap.size + 1 ≤ w1.heap.size := by have := m.size; simpa using this
  have hn : w.heap.size ∉ l := fun h => Nat.lt_irrefl _ (hl _ h)
  refine ⟨?_, ?_, ?_, ?_, ?_, ?_, by omega⟩
  · rw [m.cell (p := ⟨w.heap.size, 0, none⟩) (by simp) hn]; simp
  · rw [m.cell (p := ⟨w.heap.size, 1, none⟩) (by simp) hn]; simp
  · rw [m.cell (p := ⟨w.heap.size, 2, none⟩) (by simp) hn]; simp
  · rw [m.frozen (p := ⟨w.heap.size, 0, none⟩) (by simp) hn]; simp
  · rw [m.frozen (p := ⟨w.heap.size, 1, none⟩) (by simp) hn]; simp
  · rw [m.frozen (p := ⟨w.heap.size, 2, none⟩) (by simp) hn]; simp
end Go.Proofs.Ytaloembfekdkoaa

namespace Go.Proofs.Ytaloembfekdkoaa
open Go.RowKit
set_option linter.unusedVariables false
section
variable {P : Program} {ops : Array Oper} {md : Region.Mode} {W : World} {L : Nat → Option (Value → World → Prop)}
def Late (P : Program) (o : Oper) (a : Act) (W : World) (T : Value → World → Prop) : Prop :=
  ∀ w, Mod [] W w → o.wp P a w (fun a' w' => ∃ v, a' = a.put o.dst v ∧ Mod [] w w' ∧ T v w') (fun _ _ _ => False)
def Steady (P : Program) (o : Oper) (a : Act) (W : World) (v : Value) : Prop := Late P o a W (fun u _ => u = v)
def Stays (T : World → Prop) : Prop := ∀ w w', T w → Mod [] w w' → T w'
def mOp (P : Program) (ops : Array Oper) (W : World) (L : Nat → Option (Value → World → Prop)) (i : Nat) (K : Act → (World → Prop) → Prop) (a : Act) (F : World → Prop) : Prop :=
  match ops[i]?, L i with
  | some o, none => if Region.wanted o (yielded ops a.tmps) then ∃ v, Steady P o a W v ∧ K (a.put o.dst v) F else K (a.put o.dst undef) F
  | some o, some T => o.guard = none ∧ Late P o a W T ∧ ∀ v, K (a.put o.dst v) (fun w => F w ∧ T v w)
  | none, _ => False
def wpAnyM (P : Program) (md : Region.Mode) (ops : Array Oper) (W : World) (L : Nat → Option (Value → World → Prop)) (n : Nat) (Fin : Array Bool → Act → (World → Prop) → Prop) : Nat → Array Bool → Act → (World → Prop) → Prop
  | 0, listed, a, F => Fin listed a F
  | f + 1, listed, a, F => Region.ready md ops listed ≠ [] ∧ ∀ i ∈ Region.ready md ops listed, i < n ∧ mOp P ops W L i (wpAnyM P md ops W L n Fin f (listed.setIfInBounds i true)) a F
theorem wp_of_late {o : Oper} {a : Act} {T : Value → World → Prop} {K : Act → World → Prop} {Q : Exit → Act → World → Prop} {w : World} (hw : Mod [] W w) (h : Late P o a W T)
    (hK : ∀ v w', Mod [] w w' → T v w' → K (a.put o.dst v) w') : o.wp P a w K Q := by
  have h3 := h w hw
  unfold Oper.wp at *
  generalize (execOp a.eval o).run P w = r at *
  cases r with
  | ok n w' =>
    cases n <;> simp only [Oper.upon] at h3 ⊢
    case value u => obtain ⟨v, e, m, t⟩ := h3; rw [e]; exact hK _ _ m t
    case skip => obtain ⟨v, e, m, t⟩ := h3; rw [e]; exact hK _ _ m t
    case defer d => obtain ⟨v, e, m, t⟩ := h3; rw [e]; exact hK _ _ m t
    case enter f args =>
      refine Calls.mono h3 fun e w'' he => ?_
      cases e with
      | returned u =>
        obtain ⟨v, e, m, t⟩ := he
        show K (a.put o.dst u) w''
        rw [e]; exact hK _ _ m t
      | panicked c => exact he.elim
      | outgrown => obtain ⟨_, _, h⟩ := he; exact h.elim
    case row row args => exact Rows.mono h3 fun u w'' he => by obtain ⟨v, e, m, t⟩ := he; rw [e]; exact hK _ _ m t
  | halt x w' => cases x <;> simp only [Oper.upon] at h3
theorem wp_of_steady {o : Oper} {a : Act} {v : Value} {K : Act → World → Prop} {Q : Exit → Act → World → Prop} {w : World} (hw : Mod [] W w) (h : Steady P o a W v)
    (hK : ∀ w', Mod [] w w' → K (a.put o.dst v) w') : o.wp P a w K Q :=
  wp_of_late hw h fun u w' m hu => by rw [hu]; exact hK w' m
theorem wpOp_of_mOp {i : Nat} {a : Act} {F : World → Prop} {K : Act → (World → Prop) → Prop} {K' : Act → World → Prop} {Q : Exit → Act → World → Prop} {w : World}
    (hT : ∀ i T, L i = some T → ∀ v, Stays (T v)) (hs : Stays F) (hw : Mod [] W w) (hF : F w) (h : ∀ a F w', Mod [] W w' → Stays F → F w' → K a F → K' a w') (hh : mOp P ops W L i K a F) : wpOp P ops Q i K' a w := by
  unfold mOp at hh
  unfold wpOp
  split at hh
  · rename_i o ho hl
    simp only [ho]
    split
    · rename_i hwn; simp only [hwn, if_true] at hh
      obtain ⟨v, h1, h2⟩ := hh
      exact .inl (wp_of_steady hw h1 fun w' m => h _ _ _ (hw.then m) hs (hs _ _ hF m) h2)
    · rename_i hwn; simp only [hwn] at hh; exact h _ _ _ hw hs hF hh
  · rename_i o T ho hl
    obtain ⟨hg, h1, h2⟩ := hh
    simp only [ho, Region.wanted, hg, if_true]
    exact .inl (wp_of_late hw h1 fun v w' m t => h _ _ _ (hw.then m) (fun x y hx hm => ⟨hs _ _ hx.1 hm, hT i T hl v _ _ hx.2 hm⟩) ⟨hs _ _ hF m, t⟩ (h2 v))
  · exact hh.elim
theorem wpAny_of_M {n g : Nat} {Fin : Array Bool → Act → (World → Prop) → Prop} {Q : Exit → Act → World → Prop} (hT : ∀ i T, L i = some T → ∀ v, Stays (T v))
    (hFin : ∀ listed a F w, Mod [] W w → F w → Fin listed a F → wpAny P md ops Q g listed a w) :
    ∀ (f : Nat) (listed : Array Bool) (a : Act) (F : World → Prop) (w : World), Stays F → Mod [] W w → F w → wpAnyM P md ops W L n Fin f listed a F → wpAny P md ops Q (f + g) listed a w
  | 0, listed, a, F, w, _, hw, hF, h => by rw [Nat.zero_add]; exact hFin _ _ _ _ hw hF h
  | f + 1, listed, a, F, w, hs, hw, hF, h => by
    rw [show f + 1 + g = (f + g) + 1 by omega]
    exact ⟨fun h0 => absurd h0 h.1, fun i hi => wpOp_of_mOp hT hs hw hF (fun a' F' w' hw' hs' hF' h' => wpAny_of_M hT hFin f _ a' F' w' hs' hw' hF' h') (h.2 i hi).2⟩
def YieldsS (P : Program) (ops : Array Oper) (W : World) (o : Oper) (v : Value) (a : Act) : Prop :=
  (Region.wanted o (yielded ops a.tmps) = true ∧ Steady P o a W v) ∨ (Region.wanted o (yielded ops a.tmps) = false ∧ v = undef)
theorem YieldsS.mOp {i : Nat} {o : Oper} {v : Value} {a : Act} {F : World → Prop} (hi : ops[i]? = some o) (hl : L i = none) (hy : YieldsS P ops W o v a) {K : Act → (World → Prop) → Prop} (h : K (a.put o.dst v) F) : mOp P ops W L i K a F := by
  unfold Proofs.Ytaloembfekdkoaa.mOp
  simp only [hi, hl]
  rcases hy with ⟨hw, hv⟩ | ⟨hw, rfl⟩
  · simp only [hw, if_true]; exact ⟨v, hv, h⟩
  · simp only [hw, Bool.false_eq_true, if_false]; exact h
theorem late_put {o : Oper} (hs : ∀ cs b, o.op ≠ .select cs b) {a : Act} {d : Option Tmp} {v : Value} {T : Value → World → Prop} (h1 : ∀ t, d = some t → t ∉ o.looksAt ops) (h2 : ∀ t, d = some t → o.dst ≠ some t)
    (h : Late P o (a.put d v) W T) : Late P o a W T := by
  intro w hw
  have h3 := h w hw
  unfold Oper.wp at *
  rw [execOp_put o hs a d v h1] at h3
  have key : ∀ (x : Value) w', (∃ u, (a.put d v).put o.dst x = (a.put d v).put o.dst u ∧ Mod [] w w' ∧ T u w') → ∃ u, a.put o.dst x = a.put o.dst u ∧ Mod [] w w' ∧ T u w' := by
    rintro x w' ⟨u, e, m, t⟩
    refine ⟨u, ?_, m, t⟩
    rw [Act.put_comm a v x h2, Act.put_comm a v u h2] at e
    cases d with
    | none => exact e
    | some t =>
      cases ho : o.dst with
      | none => rfl
      | some s =>
        rw [ho] at e
        have hne : s ≠ t := fun hst => h2 t rfl (by rw [ho, hst])
        have e2 := congrArg Act.tmps e
        simp only [Act.put] at e2 ⊢
        have e3 : a.tmps.setIfInBounds s x = a.tmps.setIfInBounds s u := by
          apply Array.ext_getElem?
          intro k
          have := congrArg (fun z => z[k]?) e2
          by_cases hk : t = k
          · subst hk
            rw [Array.getElem?_setIfInBounds_ne hne, Array.getElem?_setIfInBounds_ne hne]
          · rwa [Array.getElem?_setIfInBounds_ne hk, Array.getElem?_setIfInBounds_ne hk] at this
        rw [e3]
  generalize (execOp a.eval o).run P w = r at *
  cases r with
  | ok n w' =>
    cases n <;> simp only [Oper.upon] at h3 ⊢
    case value u => exact key _ _ h3
    case skip => exact key _ _ h3
    case defer x =>
      obtain ⟨u, e, m, t⟩ := h3
      have e2 := congrArg Act.defers e
      exfalso
      have hl : ∀ (b : Act) (d : Option Tmp) (v : Value), (b.put d v).defers = b.defers := fun b d v => by cases d <;> rfl
      have e3 : x :: a.defers = a.defers := by simpa only [hl] using e2
      have := congrArg List.length e3
      simp at this
    case enter f args =>
      refine Calls.mono h3 fun e w'' he => ?_
      cases e with
      | returned u => exact key _ _ he
      | panicked c => exact he.elim
      | outgrown => obtain ⟨_, _, h⟩ := he; exact h.elim
    case row row args => exact Rows.mono h3 fun u w'' he => key _ _ he
  | halt x w' => cases x <;> simp only [Oper.upon] at h3
theorem late_put' {o : Oper} (hs : ∀ cs b, o.op ≠ .select cs b) {a : Act} {d : Option Tmp} {v : Value} {T : Value → World → Prop} (h1 : ∀ t, d = some t → t ∉ o.looksAt ops) (h2 : ∀ t, d = some t → o.dst ≠ some t)
    (h : Late P o a W T) : Late P o (a.put d v) W T := by
  intro w hw
  have h3 := h w hw
  unfold Oper.wp at *
  rw [execOp_put o hs a d v h1]
  have key : ∀ (x : Value) w', (∃ u, a.put o.dst x = a.put o.dst u ∧ Mod [] w w' ∧ T u w') → ∃ u, (a.put d v).put o.dst x = (a.put d v).put o.dst u ∧ Mod [] w w' ∧ T u w' := by
    rintro x w' ⟨u, e, m, t⟩
    exact ⟨u, by rw [Act.put_comm a v x h2, Act.put_comm a v u h2, e], m, t⟩
  generalize (execOp a.eval o).run P w = r at *
  cases r with
  | ok n w' =>
    cases n <;> simp only [Oper.upon] at h3 ⊢
    case value u => exact key _ _ h3
    case skip => exact key _ _ h3
    case defer x =>
      obtain ⟨u, e, m, t⟩ := h3
      have e2 := congrArg Act.defers e
      exfalso
      have hl : ∀ (b : Act) (d : Option Tmp) (v : Value), (b.put d v).defers = b.defers := fun b d v => by cases d <;> rfl
      have e3 : x :: a.defers = a.defers := by simpa only [hl] using e2
      have := congrArg List.length e3
      simp at this
    case enter f args =>
      refine Calls.mono h3 fun e w'' he => ?_
      cases e with
      | returned u => exact key _ _ he
      | panicked c => exact he.elim
      | outgrown => obtain ⟨_, _, h⟩ := he; exact h.elim
    case row row args => exact Rows.mono h3 fun u w'' he => key _ _ he
  | halt x w' => cases x <;> simp only [Oper.upon] at h3
theorem mOp_put {j : Nat} {oi oj : Oper} {v : Value} (hj : ops[j]? = some oj) (hap : oi.apart ops oj = true)
    (hsi : ∀ cs b, oi.op ≠ .select cs b) (hsj : ∀ cs b, oj.op ≠ .select cs b) {K : Act → (World → Prop) → Prop} {a : Act} {F : World → Prop}
    (hy : YieldsS P ops W oi v a) (h : mOp P ops W L j K (a.put oi.dst v) F) :
    mOp P ops W L j (fun a' F' => YieldsS P ops W oi v a' ∧ K (a'.put oi.dst v) F') a F := by
  obtain ⟨h1, h2, h3⟩ := Oper.apart_spec hap
  have h2' : ∀ d, oj.dst = some d → oi.dst ≠ some d := fun d hd hi' => h2 d hi' hd
  have keep : ∀ (a : Act), YieldsS P ops W oi v a → ∀ u, YieldsS P ops W oi v (a.put oj.dst u) := fun a hy u => by
    unfold YieldsS at *
    rw [wanted_put oi a oj.dst u h3]
    exact hy.imp (fun hh => ⟨hh.1, late_put' hsi h3 h2' hh.2⟩) id
  unfold mOp at *
  cases hl : L j with
  | none =>
    simp only [hj, hl] at h ⊢
    rw [wanted_put oj a oi.dst v h1] at h
    split
    · rename_i hw
      simp only [hw, if_true] at h
      obtain ⟨u, hu, hn⟩ := h
      exact ⟨u, late_put hsj h1 h2 hu, keep a hy u, by rw [← Act.put_comm a v u h2]; exact hn⟩
    · rename_i hw
      simp only [hw] at h
      exact ⟨keep a hy _, by rw [← Act.put_comm a v undef h2]; exact h⟩
  | some T =>
    simp only [hj, hl] at h ⊢
    exact ⟨h.1, late_put hsj h1 h2 h.2.1, fun u => ⟨keep a hy u, by rw [← Act.put_comm a v u h2]; exact h.2.2 u⟩⟩
def Region.tailB (md : Region.Mode) (ops : Array Oper) (n : Nat) : Bool := decide (n = ops.size) || (decide (n < ops.size) && Region.sinkB md ops n && Region.chainB md ops n)
theorem ready_lt {n i : Nat} {listed : Array Bool} (ht : Region.tailB md ops n = true) (inv : HeadInv md ops n listed) (hi : i < n) (hun : listed.getD i true = false) {j : Nat} (hj : j ∈ Region.ready md ops listed) : j < n := by
  simp only [Region.tailB, Bool.or_eq_true, Bool.and_eq_true, decide_eq_true_eq] at ht
  rcases ht with ht | ⟨⟨hn, hs⟩, hc⟩
  · obtain ⟨_, oj, hoj, _⟩ := mem_ready.1 hj
    rw [ht]; exact (Array.getElem?_eq_some_iff.1 hoj).1
  · rcases Nat.lt_or_ge j n with h | h
    · exact h
    · exact absurd hj (tail_waits hs hc hn inv _ i rfl hi hun j h)
theorem mOp_same {j : Nat} {a : Act} {F : World → Prop} {K K' : Act → (World → Prop) → Prop} (h : ∀ a F, K a F → K' a F) (hh : mOp P ops W L j K a F) : mOp P ops W L j K' a F := by
  unfold mOp at *
  split
  · rename_i o ho hl
    simp only [ho, hl] at hh
    split
    · rename_i hw; simp only [hw, if_true] at hh; obtain ⟨v, h1, h2⟩ := hh; exact ⟨v, h1, h _ _ h2⟩
    · rename_i hw; simp only [hw] at hh; exact h _ _ hh
  · rename_i o T ho hl
    simp only [ho, hl] at hh
    exact ⟨hh.1, hh.2.1, fun v => h _ _ (hh.2.2 v)⟩
  · rename_i ho
    simp only [ho] at hh
theorem wpAnyM_first {n i : Nat} {oi : Oper} {v : Value} {Fin : Array Bool → Act → (World → Prop) → Prop} (hi : ops[i]? = some oi) (hl : L i = none) (hsel : ∀ (j : Nat) (o : Oper) cs b, ops[j]? = some o → o.op ≠ .select cs b)
    (ht : Region.tailB md ops n = true) (hin : i < n) (hdone : ∀ listed a F, Fin listed a F → ∀ j ∈ Region.ready md ops listed, n ≤ j) :
    ∀ (f : Nat) (listed : Array Bool) (a : Act) (F : World → Prop), HeadInv md ops n listed →
      (∀ j oj, ops[j]? = some oj → j ≠ i → listed.getD j true = false → (∀ e ∈ oj.after, Region.binds md e = true → e.on ≠ i) → oi.apart ops oj = true) →
      i ∈ Region.ready md ops listed → YieldsS P ops W oi v a →
      wpAnyM P md ops W L n Fin f (listed.setIfInBounds i true) (a.put oi.dst v) F → wpAnyM P md ops W L n Fin (f + 1) listed a F := by
  intro f
  induction f with
  | zero =>
    intro listed a F inv _ hr hy H
    have hun := (mem_ready.1 hr).1
    refine ⟨fun h => (by rw [h] at hr; cases hr), fun j hj => ?_⟩
    have hjn := ready_lt ht inv hin hun hj
    refine ⟨hjn, ?_⟩
    by_cases hji : j = i
    · subst hji; exact hy.mOp hi hl H
    · have := hdone _ _ _ H j (ready_mono hj hji)
      omega
  | succ f ih =>
    intro listed a F inv hfree hr hy H
    have hun := (mem_ready.1 hr).1
    refine ⟨fun h => (by rw [h] at hr; cases hr), fun j hj => ?_⟩
    have hjn := ready_lt ht inv hin hun hj
    refine ⟨hjn, ?_⟩
    by_cases hji : j = i
    · subst hji; exact hy.mOp hi hl H
    · have h1 := (H.2 j (ready_mono hj hji)).2
      obtain ⟨hjun, oj, hoj, hall⟩ := mem_ready.1 hj
      have hnot : ∀ e ∈ oj.after, Region.binds md e = true → e.on ≠ i := fun e he hb heq => by
        have h1 := hall e he hb
        rw [heq, getD_both hun] at h1
        cases h1
      have h2 := mOp_put hoj (hfree j oj hoj hji hjun hnot) (fun cs b => hsel i oi cs b hi) (fun cs b => hsel j oj cs b hoj) hy h1
      have hfree' : ∀ k ok, ops[k]? = some ok → k ≠ i → (listed.setIfInBounds j true).getD k true = false →
          (∀ e ∈ ok.after, Region.binds md e = true → e.on ≠ i) → oi.apart ops ok = true := fun k ok hk hki hun hno => by
        refine hfree k ok hk hki ?_ hno
        by_cases hjk : j = k
        · subst hjk; exact hjun
        · rw [getD_set_ne true hjk] at hun; exact hun
      refine mOp_same (fun a' F' h3 => ih (listed.setIfInBounds j true) a' F' (inv.set hj hjn) hfree' (ready_mono hr (Ne.symm hji)) h3.1 ?_) h2
      rw [Array.setIfInBounds_comm _ _ hji]
      exact h3.2
def wpSteady (P : Program) (ops : Array Oper) (W : World) (K : Act → Prop) : List Nat → Act → Prop
  | [], a => K a
  | i :: l, a => match ops[i]? with
    | none => False
    | some o => if Region.wanted o (yielded ops a.tmps) then ∃ v, Steady P o a W v ∧ wpSteady P ops W K l (a.put o.dst v) else wpSteady P ops W K l (a.put o.dst undef)
def wpLates (P : Program) (ops : Array Oper) (W : World) (E : Act → (World → Prop) → Prop) : List (Nat × (Value → World → Prop)) → Act → (World → Prop) → Prop
  | [], a, F => E a F
  | p :: l, a, F => match ops[p.1]? with
    | none => False
    | some o => o.guard = none ∧ Late P o a W p.2 ∧ ∀ v, wpLates P ops W E l (a.put o.dst v) (fun w => F w ∧ p.2 v w)
theorem wpLates_mono {E : Act → (World → Prop) → Prop} (hE : ∀ a F F', (∀ w, F' w → F w) → E a F → E a F') : ∀ (l : List (Nat × (Value → World → Prop))) (a : Act) (F F' : World → Prop), (∀ w, F' w → F w) → wpLates P ops W E l a F → wpLates P ops W E l a F'
  | [], _, _, _, hF, h => hE _ _ _ hF h
  | p :: l, a, F, F', hF, h => by
    unfold wpLates at *
    split
    · rename_i ho; simp only [ho] at h
    · rename_i o ho
      simp only [ho] at h
      exact ⟨h.1, h.2.1, fun v => wpLates_mono hE l _ _ _ (fun w hw => ⟨hF w hw.1, hw.2⟩) (h.2.2 v)⟩
def lateApart (ops : Array Oper) : List Nat → Bool
  | [] => true
  | i :: l => !l.contains i && l.all (fun j => match ops[i]?, ops[j]? with | some x, some y => x.apart ops y | _, _ => false) && lateApart ops l
theorem lateApart_cons {i : Nat} {l : List Nat} (h : lateApart ops (i :: l) = true) : i ∉ l ∧ (∀ j ∈ l, ∃ x y, ops[i]? = some x ∧ ops[j]? = some y ∧ x.apart ops y = true) ∧ lateApart ops l = true := by
  simp only [lateApart, Bool.and_eq_true, List.all_eq_true] at h
  refine ⟨by simpa using h.1.1, fun j hj => ?_, h.2⟩
  have := h.1.2 j hj
  split at this
  · rename_i x y hx hy; exact ⟨x, y, hx, hy, this⟩
  · cases this
theorem wpLates_take {E : Act → (World → Prop) → Prop} (hE : ∀ a F F', (∀ w, F' w → F w) → E a F → E a F') (hsel : ∀ (j : Nat) (o : Oper) cs b, ops[j]? = some o → o.op ≠ .select cs b) {i : Nat} {T : Value → World → Prop} :
    ∀ (l : List (Nat × (Value → World → Prop))) (a : Act) (F : World → Prop), lateApart ops (l.map (·.1)) = true → (i, T) ∈ l → wpLates P ops W E l a F →
      ∃ o, ops[i]? = some o ∧ o.guard = none ∧ Late P o a W T ∧ ∀ v, wpLates P ops W E (l.filter fun p => p.1 != i) (a.put o.dst v) (fun w => F w ∧ T v w)
  | p :: l, a, F, hap, hm, h => by
    obtain ⟨hni, hall, hap'⟩ := lateApart_cons (by simpa using hap)
    unfold wpLates at h
    cases ho : ops[p.1]? with
    | none => simp only [ho] at h
    | some o =>
      simp only [ho] at h
      obtain ⟨hg, hla, hK⟩ := h
      rcases List.mem_cons.1 hm with he | hm'
      · subst he
        refine ⟨o, ho, hg, hla, fun v => ?_⟩
        have hf : (((i, T) :: l).filter fun p => p.1 != i) = l := by
          rw [List.filter_cons_of_neg (by simp), List.filter_eq_self.2 (fun q hq => ?_)]
          simp only [bne_iff_ne, ne_eq]
          intro heq
          exact hni (by simpa [← heq] using List.mem_map_of_mem (f := (·.1)) hq)
        rw [hf]
        exact hK v
      · have hi : i ∈ l.map (·.1) := List.mem_map_of_mem (f := (·.1)) hm'
        have hne : p.1 ≠ i := fun e => hni (e ▸ hi)
        obtain ⟨x, y, hx, hy, hxy⟩ := hall i hi
        rw [ho] at hx
        cases hx
        obtain ⟨h1, h2, h3⟩ := Oper.apart_spec hxy
        have h2' : ∀ d, y.dst = some d → o.dst ≠ some d := fun d hd ho' => h2 d ho' hd
        have ih := fun u => wpLates_take hE hsel l (a.put o.dst u) _ hap' hm' (hK u)
        obtain ⟨o', ho', hg', hl', _⟩ := ih undef
        rw [hy] at ho'
        cases ho'
        refine ⟨y, hy, hg', late_put (hsel i y · · hy) h1 h2 hl', fun v => ?_⟩
        rw [List.filter_cons_of_pos (by simpa using hne)]
        unfold wpLates
        simp only [ho]
        refine ⟨hg, late_put' (hsel p.1 o · · ho) h3 h2' hla, fun u => ?_⟩
        obtain ⟨o', ho', _, _, hk⟩ := ih u
        rw [hy] at ho'
        cases ho'
        rw [Act.put_comm a v u h2']
        exact wpLates_mono hE _ _ _ _ (fun w hw => ⟨⟨hw.1.1, hw.2⟩, hw.1.2⟩) (hk v)
def Region.canon (ops : Array Oper) (n : Nat) : Array Bool := ((List.range ops.size).map fun i => decide (i < n)).toArray
def Region.downB (md : Region.Mode) (ops : Array Oper) : Bool := (List.range ops.size).all fun i => match ops[i]? with | some o => o.after.all fun e => !Region.binds md e || decide (e.on < i) | none => true
theorem ready_some (hd : Region.downB md ops = true) {listed : Array Bool} : ∀ (i : Nat), i < ops.size → listed.getD i true = false → Region.ready md ops listed ≠ [] := by
  intro i
  induction i using Nat.strongRecOn with
  | _ i ih =>
    intro hi hun
    by_cases hex : ∃ j, j < i ∧ listed.getD j true = false
    · obtain ⟨j, hj, hjun⟩ := hex
      exact ih j hj (by omega) hjun
    · have hr : i ∈ Region.ready md ops listed := by
        refine mem_ready.2 ⟨hun, ops[i], by simp [hi], fun e he hb => ?_⟩
        have h1 := List.all_eq_true.1 hd i (List.mem_range.2 hi)
        simp only [hi, getElem?_pos] at h1
        have h2 := Array.all_eq_true_iff_forall_mem.1 h1 e he
        simp only [hb, Bool.not_true, Bool.false_or, decide_eq_true_eq] at h2
        cases hl : listed.getD e.on false with
        | true => rfl
        | false =>
          have hsz : e.on < listed.size := by
            rcases Nat.lt_or_ge i listed.size with h | h
            · omega
            · simp [Array.getElem?_eq_none h] at hun
          exact absurd ⟨e.on, h2, getD_in hsz hl⟩ hex
      intro h
      rw [h] at hr
      cases hr
theorem lateApart_nodup : ∀ {l : List Nat}, lateApart ops l = true → l.Nodup
  | [], _ => List.nodup_nil
  | _ :: _, h => let ⟨h1, _, h2⟩ := lateApart_cons h; List.nodup_cons.2 ⟨h1, lateApart_nodup h2⟩
theorem lateApart_filter {i : Nat} : ∀ (l : List (Nat × (Value → World → Prop))), lateApart ops (l.map (·.1)) = true → lateApart ops ((l.filter fun p => p.1 != i).map (·.1)) = true
  | [], _ => rfl
  | p :: l, h => by
    obtain ⟨h1, h2, h3⟩ := lateApart_cons (by simpa using h)
    have ih := lateApart_filter (i := i) l h3
    by_cases hp : p.1 = i
    · rw [List.filter_cons_of_neg (by simpa using hp)]; exact ih
    · rw [List.filter_cons_of_pos (by simpa using hp)]
      simp only [List.map_cons, lateApart, Bool.and_eq_true, List.all_eq_true]
      have hsub : ∀ j, j ∈ (l.filter fun p => p.1 != i).map (·.1) → j ∈ l.map (·.1) := fun j hj => by
        obtain ⟨q, hq, rfl⟩ := List.mem_map.1 hj
        exact List.mem_map_of_mem (List.mem_filter.1 hq).1
      refine ⟨⟨?_, fun j hj => ?_⟩, ih⟩
      · simp only [Bool.not_eq_true']
        cases hc : ((l.filter fun p => p.1 != i).map (·.1)).contains p.1 with
        | false => rfl
        | true => exact absurd (hsub _ (by simpa using hc)) h1
      · obtain ⟨x, y, hx, hy, hxy⟩ := h2 j (hsub j hj)
        simp only [hx, hy]; exact hxy
theorem length_filter_ne : ∀ (l : List (Nat × (Value → World → Prop))) (i : Nat), (l.map (·.1)).Nodup → i ∈ l.map (·.1) → (l.filter fun p => p.1 != i).length + 1 = l.length
  | p :: l, i, hn, hm => by
    simp only [List.map_cons, List.nodup_cons] at hn
    by_cases hp : p.1 = i
    · rw [List.filter_cons_of_neg (by simpa using hp), List.filter_eq_self.2 (fun q hq => ?_)]
      · simp
      · simp only [bne_iff_ne, ne_eq]
        intro heq
        exact hn.1 (by rw [hp, ← heq]; exact List.mem_map_of_mem hq)
    · rw [List.filter_cons_of_pos (by simpa using hp)]
      have hm' : i ∈ l.map (·.1) := by
        rcases List.mem_cons.1 hm with h | h
        · exact absurd h.symm hp
        · exact h
      simp [length_filter_ne l i hn.2 hm']
theorem lookup_late : ∀ (l : List (Nat × (Value → World → Prop))) (p : Nat × (Value → World → Prop)), p ∈ l → (l.map (·.1)).Nodup → (l.find? fun q => q.1 == p.1).map (·.2) = some p.2
  | q :: l, p, hm, hn => by
    simp only [List.map_cons, List.nodup_cons] at hn
    by_cases hq : q.1 = p.1
    · rw [List.find?_cons_of_pos (by simpa using hq)]
      rcases List.mem_cons.1 hm with h | h
      · rw [h]; rfl
      · exact absurd (by rw [hq]; exact List.mem_map_of_mem h) hn.1
    · rw [List.find?_cons_of_neg (by simpa using hq)]
      rcases List.mem_cons.1 hm with h | h
      · exact absurd (by rw [h]) hq
      · exact lookup_late l p h hn.2
theorem wpAnyM_lates {n g : Nat} {E : Act → (World → Prop) → Prop} (hE : ∀ a F F', (∀ w, F' w → F w) → E a F → E a F') (hsel : ∀ (j : Nat) (o : Oper) cs b, ops[j]? = some o → o.op ≠ .select cs b)
    (ht : Region.tailB md ops n = true) (hd : Region.downB md ops = true) (hn : n ≤ ops.size) (hseq : Region.seqB md ops g n (Region.canon ops n) = true) :
    ∀ (m : Nat) (l : List (Nat × (Value → World → Prop))) (listed : Array Bool) (a : Act) (F : World → Prop), l.length = m → HeadInv md ops n listed → lateApart ops (l.map (·.1)) = true →
      (∀ p ∈ l, L p.1 = some p.2) → (∀ i, i < n → (listed.getD i true = false ↔ i ∈ l.map (·.1))) → (∀ p ∈ l, p.1 < n) → wpLates P ops W E l a F →
      wpAnyM P md ops W L n (fun listed' a' F' => Region.seqB md ops g n listed' = true ∧ E a' F') m listed a F := by
  intro m
  induction m with
  | zero =>
    intro l listed a F hlen inv _ _ hun _ h
    obtain rfl := List.length_eq_zero_iff.1 hlen
    refine ⟨?_, h⟩
    have : listed = Region.canon ops n := by
      refine Array.ext (by simp [Region.canon, inv.size]) fun i hi hi' => ?_
      simp only [Region.canon, List.getElem_toArray, List.getElem_map, List.getElem_range]
      by_cases hin : i < n
      · have := (hun i hin).1
        simp [hi] at this
        simp [this, hin]
      · have h2 := inv.tail i (by omega) (by rw [← inv.size]; exact hi)
        simp [hi] at h2
        simp [h2, hin]
    rw [this]; exact hseq
  | succ m ih =>
    intro l listed a F hlen inv hap hL hun hlt h
    cases l with
    | nil => simp at hlen
    | cons p0 l0 =>
      have hp0n : p0.1 < n := hlt p0 (by simp)
      have hp0 : listed.getD p0.1 true = false := (hun p0.1 hp0n).2 (by simp)
      refine ⟨ready_some hd p0.1 (by omega) hp0, fun j hj => ?_⟩
      have hjn := ready_lt ht inv hp0n hp0 hj
      have hjl := (hun j hjn).1 (mem_ready.1 hj).1
      obtain ⟨⟨j', T⟩, hp, hpj⟩ := List.mem_map.1 hjl
      simp only at hpj
      subst hpj
      obtain ⟨o, ho, hg, hla, hk⟩ := wpLates_take hE hsel _ _ _ hap hp h
      refine ⟨hjn, ?_⟩
      unfold mOp
      have hLj : L j' = some T := hL _ hp
      simp only [ho, hLj]
      refine ⟨hg, hla, fun v => ih _ _ _ _ ?_ (inv.set hj hjn) ?_ ?_ ?_ ?_ (hk v)⟩
      · have := length_filter_ne (p0 :: l0) j' (lateApart_nodup hap) hjl
        omega
      · exact lateApart_filter _ hap
      · exact fun p hp => hL p (List.mem_filter.1 hp).1
      · intro i hin
        by_cases hij : j' = i
        · subst hij
          have hsz : j' < listed.size := by rw [inv.size]; omega
          simp [hsz]
        · rw [getD_set_ne true hij, hun i hin]
          simp only [List.mem_map, List.mem_filter, bne_iff_ne, ne_eq]
          constructor
          · rintro ⟨q, hq, rfl⟩; exact ⟨q, ⟨hq, fun h => hij h.symm⟩, rfl⟩
          · rintro ⟨q, ⟨hq, _⟩, rfl⟩; exact ⟨q, hq, rfl⟩
      · exact fun p hp => hlt p (List.mem_filter.1 hp).1
def Region.ordB (md : Region.Mode) (ops : Array Oper) (n : Nat) (late : List Nat) : List Nat → Array Bool → Bool
  | [], listed => (List.range n).all fun i => (listed.getD i true == false) == late.contains i
  | i :: l, listed => decide (i < n) && !late.contains i && (Region.ready md ops listed).contains i && Region.free md ops listed i && Region.ordB md ops n late l (listed.setIfInBounds i true)
theorem wpAnyM_ord {n m : Nat} {late : List Nat} {Fin : Array Bool → Act → (World → Prop) → Prop} {F : World → Prop} {K : Act → Prop} (hsel : Region.noSelect ops = true)
    (ht : Region.tailB md ops n = true) (hdone : ∀ listed a F, Fin listed a F → ∀ j ∈ Region.ready md ops listed, n ≤ j) (hL : ∀ i, late.contains i = false → L i = none)
    (hK : ∀ a listed, HeadInv md ops n listed → Region.ordB md ops n late [] listed = true → K a → wpAnyM P md ops W L n Fin m listed a F) :
    ∀ (l : List Nat) (listed : Array Bool) (a : Act), HeadInv md ops n listed → Region.ordB md ops n late l listed = true → wpSteady P ops W K l a →
      wpAnyM P md ops W L n Fin (l.length + m) listed a F
  | [], listed, a, inv, hB, h => by rw [List.length_nil, Nat.zero_add]; exact hK _ _ inv hB h
  | i :: l, listed, a, inv, hB, h => by
    simp only [Region.ordB, Bool.and_eq_true, decide_eq_true_eq, Bool.not_eq_true'] at hB
    obtain ⟨⟨⟨⟨hin, hnl⟩, hr⟩, hf⟩, hB'⟩ := hB
    have hr' : i ∈ Region.ready md ops listed := by simpa using hr
    unfold wpSteady at h
    cases ho : ops[i]? with
    | none => simp only [ho] at h
    | some o =>
      simp only [ho] at h
      obtain ⟨v, hy, hk⟩ : ∃ v, YieldsS P ops W o v a ∧ wpSteady P ops W K l (a.put o.dst v) := by
        by_cases hw : Region.wanted o (yielded ops a.tmps) = true
        · simp only [hw, if_true] at h
          obtain ⟨v, h1, h2⟩ := h
          exact ⟨v, .inl ⟨hw, h1⟩, h2⟩
        · simp only [hw] at h
          exact ⟨undef, .inr ⟨by simpa using hw, rfl⟩, h⟩
      rw [List.length_cons, show l.length + 1 + m = (l.length + m) + 1 by omega]
      exact wpAnyM_first ho (hL i hnl) (Region.noSelect_spec hsel) ht hin hdone (l.length + m) listed a F inv (Region.free_spec ho hf) hr' hy
        (wpAnyM_ord hsel ht hdone hL hK l _ _ (inv.set hr' hin) hB' hk)
def Region.monoB (md : Region.Mode) (ops : Array Oper) (n : Nat) (ord late : List Nat) : Bool :=
  Region.noSelect ops && decide (n ≤ ops.size) && decide (ord.length + late.length = n) && late.all (fun i => decide (i < n)) && Region.tailB md ops n && Region.downB md ops && Region.seqB md ops (ops.size - n) n (Region.canon ops n) &&
    lateApart ops late && Region.ordB md ops n late ord (Array.replicate ops.size false)
theorem wp_region_mono {id : Nat} {Q : Exit → Act → World → Prop} {a : Act} {w : World} {l : List Oper} (n : Nat) (ord : List Nat) (late : List (Nat × (Value → World → Prop)))
    (hm : P.follows .mixedOrders = true) (hB : Region.monoB .any l.toArray n ord (late.map (·.1)) = true) (hT : ∀ p ∈ late, ∀ v, Stays (p.2 v))
    (h : wpSteady P l.toArray w (fun a' => wpLates P l.toArray w (fun a'' F => ∀ w', Mod [] w w' → F w' → wpList P l.toArray Q (l.drop n) a'' w') late a' (fun _ => True)) ord a) :
    (Code.region id l.toArray true).wp P Q a w := by
  simp only [Region.monoB, Bool.and_eq_true, decide_eq_true_eq] at hB
  obtain ⟨⟨⟨⟨⟨⟨⟨⟨hsel, hn⟩, hlen⟩, hlt⟩, ht⟩, hd⟩, hseq⟩, hap⟩, hord⟩ := hB
  let L : Nat → Option (Value → World → Prop) := fun i => (late.find? fun p => p.1 == i).map (·.2)
  have hLn : ∀ i, (late.map (·.1)).contains i = false → L i = none := fun i hi => by
    simp only [L, Option.map_eq_none_iff, List.find?_eq_none]
    intro p hp he
    have : (late.map (·.1)).contains i = true := by simpa using ⟨p.2, by simpa [← (beq_iff_eq.1 he)] using hp⟩
    rw [hi] at this; cases this
  have hLs : ∀ p ∈ late, L p.1 = some p.2 := fun p hp => lookup_late late p hp (lateApart_nodup hap)
  have hLT : ∀ i T, L i = some T → ∀ v, Stays (T v) := fun i T hi v => by
    simp only [L, Option.map_eq_some_iff] at hi
    obtain ⟨p, hp, rfl⟩ := hi
    exact hT p (List.mem_of_find?_eq_some hp) v
  have inv0 : HeadInv .any l.toArray n (Array.replicate l.toArray.size false) :=
    ⟨by simp, fun j oj _ hl => (by rw [getD_replicate_false] at hl; cases hl), fun t _ ht => getD_in (by simpa using ht) (getD_replicate_false _ _)⟩
  have hE : ∀ (a : Act) (F F' : World → Prop), (∀ w, F' w → F w) → (∀ w', Mod [] w w' → F w' → wpList P l.toArray Q (l.drop n) a w') → (∀ w', Mod [] w w' → F' w' → wpList P l.toArray Q (l.drop n) a w') :=
    fun a F F' hF h w' hw hf => h w' hw (hF w' hf)
  have hdl : (l.drop n).length = l.toArray.size - n := by simp
  have H := wpAnyM_ord (P := P) (W := w) (L := L) (m := late.length) (late := late.map (·.1)) (F := fun _ => True)
    (Fin := fun listed a F => Region.seqB .any l.toArray (l.toArray.size - n) n listed = true ∧ ∀ w', Mod [] w w' → F w' → wpList P l.toArray Q (l.drop n) a w')
    hsel ht (fun listed a F hf => seqB_ready hf.1) hLn (fun a listed inv hB hk => by
      refine wpAnyM_lates hE (Region.noSelect_spec hsel) ht hd hn hseq late.length late listed a _ rfl inv hap hLs (fun i hi => ?_) (fun p hp => ?_) hk
      · have := List.all_eq_true.1 hB i (List.mem_range.2 hi)
        simp only [beq_iff_eq] at this
        rw [Bool.eq_iff_iff] at this
        simp only [beq_iff_eq, List.contains_iff_mem] at this
        exact this
      · have := List.all_eq_true.1 hlt p.1 (List.mem_map_of_mem hp)
        simpa using this) ord _ a inv0 hord h
  refine wp_region_any hm ?_
  have hfin := wpAny_of_M (P := P) (md := .any) (ops := l.toArray) (W := w) (Q := Q) (g := l.toArray.size - n) hLT (fun listed a F w' hw hF hf => by
    have := wpAny_of_seq (md := .any) (Q' := Q) (l.drop n) n listed a w' (fun j => by simp [List.getElem?_drop]) (by rw [hdl]; exact hf.1) (hf.2 w' hw hF)
    rwa [hdl] at this) _ _ _ _ { w with drawn := w.drawn + 1 } (fun _ _ _ _ => trivial) ((Mod.refl [] w).drew) trivial H
  have hl2 : ord.length + late.length + (l.toArray.size - n) = l.toArray.size := by simp only [List.length_map] at hlen; omega
  rwa [hl2] at hfin
theorem steady_val {K : Act → Prop} {i : Nat} {l : List Nat} {a : Act} {o : Oper} {v : Value} (ho : ops[i]? = some o) (hg : Region.wanted o (yielded ops a.tmps) = true)
    (h : ∀ w, Mod [] W w → (execOp a.eval o).run P w = .ok (.value v) w) (hk : ∀ K' : Act → Prop, (∀ a, wpSteady P ops W K l a → K' a) → K' (a.put o.dst v)) : wpSteady P ops W K (i :: l) a := by
  unfold wpSteady
  simp only [ho, hg, if_true]
  exact ⟨v, fun w hw => by unfold Oper.wp; rw [h w hw]; exact ⟨v, rfl, Mod.refl _ _, rfl⟩, hk _ fun _ h => h⟩
theorem steady_call {K : Act → Prop} {i : Nat} {l : List Nat} {a : Act} {o : Oper} {v : Value} {f : FuncId} {args : Array Value} (hc : ∀ w, Mod [] W w → Calls P f args w fun e w' => e = .returned v ∧ Mod [] w w')
    (ho : ops[i]? = some o) (hg : Region.wanted o (yielded ops a.tmps) = true) (h : ∀ w, Mod [] W w → (execOp a.eval o).run P w = .ok (.enter f args) w)
    (hk : ∀ K' : Act → Prop, (∀ a, wpSteady P ops W K l a → K' a) → K' (a.put o.dst v)) : wpSteady P ops W K (i :: l) a := by
  unfold wpSteady
  simp only [ho, hg, if_true]
  exact ⟨v, fun w hw => by unfold Oper.wp; rw [h w hw]; exact (hc w hw).mono fun e w' ⟨he, hm⟩ => by subst he; exact ⟨v, rfl, hm, rfl⟩, hk _ fun _ h => h⟩
theorem steady_end {K : Act → Prop} {a : Act} (h : K a) : wpSteady P ops W K [] a := h
theorem lates_end {E : Act → (World → Prop) → Prop} {a : Act} {F : World → Prop} (h : E a F) : wpLates P ops W E [] a F := h
def NewBlk (B : Nat) (cs : Array Value) (t : TypeId) (v : Value) (w : World) : Prop := ∃ b, v = .pointer (some ⟨b, 0, none⟩) ∧ B ≤ b ∧ Blk w b cs t
theorem NewBlk.stays (B : Nat) (cs : Array Value) (t : TypeId) (v : Value) : Stays (NewBlk B cs t v) := fun _ _ ⟨b, h1, h2, h3⟩ m => ⟨b, h1, h2, h3.kept m (by simp)⟩
theorem late_alloc {o : Oper} {a : Act} {cs : Array Value} {t : TypeId} (h : ∀ w, (execOp a.eval o).run P w = .ok (.value (.pointer (some ⟨w.heap.size, 0, none⟩))) (w.alloc (.cells cs t))) : Late P o a W (NewBlk W.heap.size cs t) := by
  intro w hw
  unfold Oper.wp
  rw [h w]
  exact ⟨_, rfl, (Mod.refl _ _).alloc _, w.heap.size, rfl, hw.size, Blk.new w cs t⟩
theorem lates_one {E : Act → (World → Prop) → Prop} {a : Act} {i : Nat} {o : Oper} {T : Value → World → Prop} (ho : ops[i]? = some o) (hg : o.guard = none) (hl : Late P o a W T)
    (hk : ∀ v, E (a.put o.dst v) (fun w => True ∧ T v w)) : wpLates P ops W E [(i, T)] a (fun _ => True) := by
  unfold wpLates
  simp only [ho]
  exact ⟨hg, hl, hk⟩
theorem calls_same {f : FuncId} {args : Array Value} {v : Value} (h : ∀ w, Calls P f args w fun e w' => e = .returned v ∧ w = w') : ∀ w, Mod [] W w → Calls P f args w fun e w' => e = .returned v ∧ Mod [] w w' :=
  fun w _ => (h w).mono fun _ _ ⟨he, hw⟩ => ⟨he, hw ▸ Mod.refl _ _⟩
theorem calls_mod {f : FuncId} {args : Array Value} {v : Value} (h : ∀ w, Calls P f args w fun e w' => e = .returned v ∧ Mod [] w w') : ∀ w, Mod [] W w → Calls P f args w fun e w' => e = .returned v ∧ Mod [] w w' :=
  fun w _ => h w
theorem Blk.ever {b : Nat} {cs : Array Value} {t : TypeId} (h : Blk W b cs t) (i : Nat) : ∀ w, Mod [] W w → w.cell? ⟨b, i, none⟩ = cs[i]? := fun _ hw => (h.kept hw (by simp)).cell i
def wpSteadyL (P : Program) (ops : Array Oper) (W : World) (K : Act → Prop) : List Oper → Act → Prop
  | [], a => K a
  | o :: l, a => if Region.wanted o (yielded ops a.tmps) then ∃ v, Steady P o a W v ∧ wpSteadyL P ops W K l (a.put o.dst v) else wpSteadyL P ops W K l (a.put o.dst undef)
def pickM : List Oper → List Bool → List Oper
  | o :: l, true :: m => o :: pickM l m
  | _ :: l, false :: m => pickM l m
  | _, _ => []
def idxM : Nat → List Bool → List Nat
  | k, true :: m => k :: idxM (k + 1) m
  | k, false :: m => idxM (k + 1) m
  | _, [] => []
theorem steady_of_list {K : Act → Prop} : ∀ (m : List Bool) (k : Nat) (l : List Oper) (a : Act), (∀ j, l[j]? = ops[k + j]?) → m.length ≤ l.length → wpSteadyL P ops W K (pickM l m) a → wpSteady P ops W K (idxM k m) a
  | [], _, l, _, _, _, h => by cases l <;> exact h
  | b :: m, k, [], _, _, hl, _ => by simp at hl
  | b :: m, k, o :: l, a, hj, hl, h => by
    have h0 : ops[k]? = some o := by simpa using (hj 0).symm
    have hj' : ∀ j, l[j]? = ops[k + 1 + j]? := fun j => by have := hj (j + 1); simpa [Nat.add_assoc, Nat.add_comm 1 j] using this
    have hl' : m.length ≤ l.length := by simpa using hl
    cases b with
    | false => exact steady_of_list m (k + 1) l a hj' hl' h
    | true =>
      simp only [pickM, wpSteadyL] at h
      simp only [idxM, wpSteady, h0]
      split
      · rename_i hw
        rw [if_pos hw] at h
        obtain ⟨v, h1, h2⟩ := h
        exact ⟨v, h1, steady_of_list m (k + 1) l _ hj' hl' h2⟩
      · rename_i hw
        rw [if_neg hw] at h
        exact steady_of_list m (k + 1) l _ hj' hl' h
structure WSteady (P : Program) (ops : Array Oper) (W : World) (K : Act → Prop) (l : List Oper) (a : Act) : Prop where
  out : wpSteadyL P ops W K l a
theorem wp_region_mask {id : Nat} {Q : Exit → Act → World → Prop} {a : Act} {w : World} {l : List Oper} (n : Nat) (mask : List Bool) (late : List (Nat × (Value → World → Prop)))
    (hm : P.follows .mixedOrders = true) (hB : (Region.monoB .any l.toArray n (idxM 0 mask) (late.map (·.1)) && decide (mask.length ≤ l.length)) = true) (hT : ∀ p ∈ late, ∀ v, Stays (p.2 v))
    (h : WSteady P l.toArray w (fun a' => wpLates P l.toArray w (fun a'' F => ∀ w', Mod [] w w' → F w' → wpList P l.toArray Q (l.drop n) a'' w') late a' (fun _ => True)) (pickM l mask) a) :
    (Code.region id l.toArray true).wp P Q a w := by
  simp only [Bool.and_eq_true, decide_eq_true_eq] at hB
  exact wp_region_mono n (idxM 0 mask) late hm hB.1 hT (steady_of_list mask 0 l a (by simp) hB.2 h.out)
theorem put_of_wp {o : Oper} {a a' : Act} {w : World} {R : World → Prop} (hd : a'.defers = a.defers) (h : o.wp P a w (fun x y => x = a' ∧ R y) (fun _ _ _ => False)) : ∃ u, a.put o.dst u = a' := by
  unfold Oper.wp at h
  generalize (execOp a.eval o).run P w = r at *
  cases r with
  | ok n w' =>
    cases n <;> simp only [Oper.upon] at h
    case value u => exact ⟨u, h.1⟩
    case skip => exact ⟨_, h.1⟩
    case defer x =>
      exfalso
      have hl : ∀ (b : Act) (d : Option Tmp) (v : Value), (b.put d v).defers = b.defers := fun b d v => by cases d <;> rfl
      have e2 := congrArg Act.defers h.1
      rw [hl, hd] at e2
      have := congrArg List.length e2
      simp at this
    case enter f args =>
      obtain ⟨e, w'', fr, hR, _⟩ := h []
      cases e with
      | returned u => exact ⟨u, hR.1⟩
      | panicked c => exact hR.elim
      | outgrown => obtain ⟨_, _, h⟩ := hR; exact h.elim
    case row row args =>
      obtain ⟨v, w'', hR, _⟩ := h (default : Frame) []
      exact ⟨v, hR.1⟩
  | halt x w' => cases x <;> simp only [Oper.upon] at h
theorem steady_go {K : Act → Prop} {l : List Oper} {a a' : Act} {o : Oper} (hg : Region.wanted o (yielded ops a.tmps) = true) (hd : a'.defers = a.defers)
    (h : ∀ w, Mod [] W w → ∀ (K : Act → World → Prop) (Q : Exit → Act → World → Prop), (∀ w', Mod [] w w' → K a' w') → o.wp P a w K Q) (hr : WSteady P ops W K l a') : WSteady P ops W K (o :: l) a := by
  refine ⟨?_⟩
  obtain ⟨u, hu⟩ := put_of_wp (R := fun _ => True) hd (h W (Mod.refl _ _) _ _ fun w' _ => ⟨rfl, trivial⟩)
  unfold wpSteadyL
  rw [if_pos hg]
  refine ⟨u, fun w hw => h w hw _ _ fun w' m => ⟨u, hu.symm, m, rfl⟩, ?_⟩
  rw [hu]
  exact hr.out
theorem steady_done {K : Act → Prop} {a : Act} (h : K a) : WSteady P ops W K [] a := ⟨h⟩
structure Own (w0 w : World) (l : List (Nat × Array Value × TypeId)) : Prop where
  mod : Mod [] w0 w
  blk : ∀ p ∈ l, w0.heap.size ≤ p.1 ∧ Blk w p.1 p.2.1 p.2.2
  nodup : (l.map (·.1)).Nodup
theorem Own.start (w : World) : Own w w [] := ⟨Mod.refl _ _, by simp, List.nodup_nil⟩
theorem Own.new {w0 w w' : World} {l : List (Nat × Array Value × TypeId)} {b : Nat} {cs : Array Value} {t : TypeId} (S : Own w0 w l) (m : Mod [] w w') (hb : w.heap.size ≤ b) (B : Blk w' b cs t) : Own w0 w' (l ++ [(b, cs, t)]) := by
  refine ⟨S.mod.then m, fun p hp => ?_, ?_⟩
  · rcases List.mem_append.1 hp with hp | hp
    · exact ⟨(S.blk p hp).1, (S.blk p hp).2.kept m (by simp)⟩
    · obtain rfl := List.mem_singleton.1 hp
      exact ⟨Nat.le_trans S.mod.size hb, B⟩
  · rw [List.map_append, List.nodup_append]
    refine ⟨S.nodup, by simp, fun x hx y hy hxy => ?_⟩
    obtain ⟨p, hp, rfl⟩ := List.mem_map.1 hx
    have := (S.blk p hp).2.lt
    simp only [List.map_cons, List.map_nil, List.mem_singleton] at hy
    omega
theorem Own.alloc {w0 w : World} {l : List (Nat × Array Value × TypeId)} (S : Own w0 w l) (cs : Array Value) (t : TypeId) : Own w0 (w.alloc (.cells cs t)) (l ++ [(w.heap.size, cs, t)]) :=
  S.new ((Mod.refl _ _).alloc _) (Nat.le_refl _) (Blk.new w cs t)
theorem own1 (w : World) (c1 : Array Value) (t1 : TypeId) : Own w (w.alloc (.cells c1 t1)) [(w.heap.size, c1, t1)] := (Own.start w).alloc c1 t1
theorem own2 (w : World) (c1 : Array Value) (t1 : TypeId) (c2 : Array Value) (t2 : TypeId) : Own w ((w.alloc (.cells c1 t1)).alloc (.cells c2 t2)) [(w.heap.size, c1, t1), (w.heap.size + 1, c2, t2)] := by
  have := (own1 w c1 t1).alloc c2 t2
  simpa using this
theorem own3 (w : World) (c1 : Array Value) (t1 : TypeId) (c2 : Array Value) (t2 : TypeId) (c3 : Array Value) (t3 : TypeId) :
    Own w (((w.alloc (.cells c1 t1)).alloc (.cells c2 t2)).alloc (.cells c3 t3)) [(w.heap.size, c1, t1), (w.heap.size + 1, c2, t2), (w.heap.size + 1 + 1, c3, t3)] := by
  have := (own2 w c1 t1 c2 t2).alloc c3 t3
  simpa using this
theorem own4 (w : World) (c1 : Array Value) (t1 : TypeId) (c2 : Array Value) (t2 : TypeId) (c3 : Array Value) (t3 : TypeId) (c4 : Array Value) (t4 : TypeId) :
    Own w ((((w.alloc (.cells c1 t1)).alloc (.cells c2 t2)).alloc (.cells c3 t3)).alloc (.cells c4 t4)) [(w.heap.size, c1, t1), (w.heap.size + 1, c2, t2), (w.heap.size + 1 + 1, c3, t3), (w.heap.size + 1 + 1 + 1, c4, t4)] := by
  have := (own3 w c1 t1 c2 t2 c3 t3).alloc c4 t4
  simpa using this
theorem Own.call {w0 w w' : World} {l : List (Nat × Array Value × TypeId)} (S : Own w0 w l) (m : Mod [] w w') : Own w0 w' l :=
  ⟨S.mod.then m, fun p hp => ⟨(S.blk p hp).1, (S.blk p hp).2.kept m (by simp)⟩, S.nodup⟩
theorem Own.drewN {w0 w : World} {l : List (Nat × Array Value × TypeId)} (S : Own w0 w l) (n : Nat) : Own w0 (w.drewN n) l := S.call ((Mod.refl _ _).drewN n)
theorem Own.drew {w0 w : World} {l : List (Nat × Array Value × TypeId)} (S : Own w0 w l) : Own w0 w.drew l := S.call ((Mod.refl _ _).drew)
theorem Own.at {w0 w : World} {l : List (Nat × Array Value × TypeId)} {b : Nat} {cs : Array Value} {t : TypeId} (S : Own w0 w l) (k : Nat) (hk : l[k]? = some (b, cs, t)) : Blk w b cs t := (S.blk _ (List.mem_of_getElem? hk)).2
theorem Own.ge {w0 w : World} {l : List (Nat × Array Value × TypeId)} {b : Nat} {cs : Array Value} {t : TypeId} (S : Own w0 w l) (k : Nat) (hk : l[k]? = some (b, cs, t)) : w0.heap.size ≤ b := (S.blk _ (List.mem_of_getElem? hk)).1
theorem nodup_get {l : List Nat} (h : l.Nodup) (i j : Nat) (hij : i < j) (hj : j < l.length) : l[i]? ≠ l[j]? := by
  have := List.pairwise_iff_getElem.1 h i j (by omega) hj hij
  rw [List.getElem?_eq_getElem (by omega), List.getElem?_eq_getElem hj]
  exact fun he => this (Option.some.inj he)
theorem Own.set {w0 w : World} {l : List (Nat × Array Value × TypeId)} {b : Nat} {cs : Array Value} {t : TypeId} (S : Own w0 w l) (k : Nat) (hk : l[k]? = some (b, cs, t)) (i : Nat) (v : Value) :
    Own w0 (w.setCell ⟨b, i, none⟩ v) (l.set k (b, cs.setIfInBounds i v, t)) := by
  obtain ⟨hkl, hke⟩ := List.getElem?_eq_some_iff.1 hk
  have hmap : (l.set k (b, cs.setIfInBounds i v, t)).map (·.1) = l.map (·.1) := by
    rw [List.map_set]
    apply List.ext_getElem?
    intro j
    rw [List.getElem?_set]
    split
    · rename_i hj
      subst hj
      simp [hkl, hke]
    · rfl
  refine ⟨S.mod.setNew (S.ge k hk) v, fun p hp => ?_, by rw [hmap]; exact S.nodup⟩
  obtain ⟨j, hj⟩ := List.getElem?_of_mem hp
  rw [List.getElem?_set] at hj
  split at hj
  · rename_i hkj
    subst hkj
    simp only [Option.some.injEq] at hj
    subst hj
    exact ⟨S.ge k hk, (S.at k hk).set i v⟩
  · rename_i hkj
    have hm := List.mem_of_getElem? hj
    refine ⟨(S.blk p hm).1, (S.blk p hm).2.other (fun he => ?_) v⟩
    have hjl : j < l.length := (List.getElem?_eq_some_iff.1 hj).1
    have hje : l[j] = p := (List.getElem?_eq_some_iff.1 hj).2
    have := nodup_get S.nodup
    rcases Nat.lt_or_ge k j with h | h
    · exact this k j h (by simpa using hjl) (by simp only [List.getElem?_map, hk, hj, Option.map_some]; rw [← he])
    · exact this j k (by omega) (by simpa using hkl) (by simp only [List.getElem?_map, hk, hj, Option.map_some]; rw [← he])
theorem Own.lt {w0 w : World} {l : List (Nat × Array Value × TypeId)} {b : Nat} {cs : Array Value} {t : TypeId} (S : Own w0 w l) (k : Nat) (hk : l[k]? = some (b, cs, t)) : b < w.heap.size := (S.at k hk).lt
theorem Own.to {w0 w : World} {l l' : List (Nat × Array Value × TypeId)} (S : Own w0 w l) (h : l = l') : Own w0 w l' := h ▸ S
theorem Blk.every {b : Nat} {cs : Array Value} {t : TypeId} (h : Blk W b cs t) : ∀ w, Mod [] W w → ∀ i, w.cell? ⟨b, i, none⟩ = cs[i]? := fun _ hw i => (h.kept hw (by simp)).cell i
end
end Go.Proofs.Ytaloembfekdkoaa
