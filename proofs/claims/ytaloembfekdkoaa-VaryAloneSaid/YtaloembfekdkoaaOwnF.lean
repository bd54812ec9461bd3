/- The call's own blocks, where some old blocks are written. -/
import Derived.Test.YtaloembfekdkoaaGKit
import Derived.Test.YtaloembfekdkoaaIntMap
namespace Go.Proofs.Ytaloembfekdkoaa
open Go.RowKit
set_option linter.unusedVariables false
structure OwnF (F : List Nat) (w0 w : World) (l : List (Nat × Array Value × TypeId)) : Prop where
  mod : Mod F w0 w
  old : ∀ x ∈ F, x < w0.heap.size
  blk : ∀ p ∈ l, w0.heap.size ≤ p.1 ∧ Blk w p.1 p.2.1 p.2.2
  nodup : (l.map (·.1)).Nodup
section
variable {F : List Nat} {w0 w w' : World} {l : List (Nat × Array Value × TypeId)} {b : Nat} {cs : Array Value} {t : TypeId}
theorem OwnF.of (S : Own w0 w l) (hF : ∀ x ∈ F, x < w0.heap.size) : OwnF F w0 w l := ⟨S.mod.more (by simp), hF, S.blk, S.nodup⟩
theorem OwnF.off (S : OwnF F w0 w l) (m : Mod F w0 w') (h : ∀ p ∈ l, w'.heap[p.1]? = w.heap[p.1]?) : OwnF F w0 w' l := ⟨m, S.old, fun p hp => ⟨(S.blk p hp).1, (h p hp).trans (S.blk p hp).2⟩, S.nodup⟩
theorem OwnF.callF (S : OwnF F w0 w l) (m : Mod F w w') : OwnF F w0 w' l :=
  S.off (S.mod.then m) fun p hp => m.block p.1 (S.blk p hp).2.lt (fun h => by have := S.old _ h; have := (S.blk p hp).1; omega)
theorem OwnF.call (S : OwnF F w0 w l) (m : Mod [] w w') : OwnF F w0 w' l := S.callF (m.more (by simp))
theorem OwnF.at (S : OwnF F w0 w l) (k : Nat) (hk : l[k]? = some (b, cs, t)) : Blk w b cs t := (S.blk _ (List.mem_of_getElem? hk)).2
theorem OwnF.ge (S : OwnF F w0 w l) (k : Nat) (hk : l[k]? = some (b, cs, t)) : w0.heap.size ≤ b := (S.blk _ (List.mem_of_getElem? hk)).1
theorem OwnF.lt (S : OwnF F w0 w l) (k : Nat) (hk : l[k]? = some (b, cs, t)) : b < w.heap.size := (S.at k hk).lt
theorem OwnF.new (S : OwnF F w0 w l) (m : Mod [] w w') (hb : w.heap.size ≤ b) (B : Blk w' b cs t) : OwnF F w0 w' (l ++ [(b, cs, t)]) := by
  refine ⟨(S.call m).mod, S.old, fun p hp => ?_, ?_⟩
  · rcases List.mem_append.1 hp with hp | hp
    · exact (S.call m).blk p hp
    · obtain rfl := List.mem_singleton.1 hp
      exact ⟨Nat.le_trans S.mod.size hb, B⟩
  · rw [List.map_append, List.nodup_append]
    refine ⟨S.nodup, by simp, fun x hx y hy hxy => ?_⟩
    obtain ⟨p, hp, rfl⟩ := List.mem_map.1 hx
    have := (S.blk p hp).2.lt
    simp only [List.map_cons, List.map_nil, List.mem_singleton] at hy
    omega
theorem OwnF.alloc (S : OwnF F w0 w l) (cs : Array Value) (t : TypeId) : OwnF F w0 (w.alloc (.cells cs t)) (l ++ [(w.heap.size, cs, t)]) := S.new ((Mod.refl _ _).alloc _) (Nat.le_refl _) (Blk.new w cs t)
theorem OwnF.set (S : OwnF F w0 w l) (k : Nat) (hk : l[k]? = some (b, cs, t)) (i : Nat) (v : Value) : OwnF F w0 (w.setCell ⟨b, i, none⟩ v) (l.set k (b, cs.setIfInBounds i v, t)) := by
  obtain ⟨hkl, hke⟩ := List.getElem?_eq_some_iff.1 hk
  have hmap : (l.set k (b, cs.setIfInBounds i v, t)).map (·.1) = l.map (·.1) := by
    rw [List.map_set]
    apply List.ext_getElem?
    intro j
    rw [List.getElem?_set]
    split
    · rename_i hj
      subst hj
      simp [hkl, hke]
    · rfl
  refine ⟨S.mod.setNew (p := ⟨b, i, none⟩) (S.ge k hk) v, S.old, fun p hp => ?_, by rw [hmap]; exact S.nodup⟩
  obtain ⟨j, hj⟩ := List.getElem?_of_mem hp
  rw [List.getElem?_set] at hj
  split at hj
  · rename_i hkj
    subst hkj
    simp only [Option.some.injEq] at hj
    subst hj
    exact ⟨S.ge k hk, (S.at k hk).set i v⟩
  · rename_i hkj
    have hm := List.mem_of_getElem? hj
    refine ⟨(S.blk p hm).1, (S.blk p hm).2.other (fun he => ?_) v⟩
    have hjl : j < l.length := (List.getElem?_eq_some_iff.1 hj).1
    have := nodup_get S.nodup
    rcases Nat.lt_or_ge k j with h | h
    · exact this k j h (by simpa using hjl) (by simp only [List.getElem?_map, hk, hj, Option.map_some]; rw [← he])
    · exact this j k (by omega) (by simpa using hkl) (by simp only [List.getElem?_map, hk, hj, Option.map_some]; rw [← he])
theorem OwnF.left {l' : List (Nat × Array Value × TypeId)} (S : OwnF F w0 w (l ++ l')) : OwnF F w0 w l :=
  ⟨S.mod, S.old, fun p hp => S.blk p (List.mem_append.2 (.inl hp)), by have := S.nodup; rw [List.map_append, List.nodup_append] at this; exact this.1⟩
theorem IMap.modF {m : List (Int × Value)} (h : IMap w b m) (hm : Mod F w w') (hb : b ∉ F) : IMap w' b m := h.of (hm.block b h.lt hb)
end
def lookP {α : Type} (m : List (Int × α)) (k : Int) : Option α := (m.find? fun p => p.1 == k).map (·.2)
def putP {α : Type} (m : List (Int × α)) (k : Int) (v : α) : List (Int × α) := if (m.find? fun p => p.1 == k).isSome then m.map (fun p => if p.1 = k then (k, v) else p) else m ++ [(k, v)]
def mapP {α : Type} (f : α → Value) (m : List (Int × α)) : List (Int × Value) := m.map fun p => (p.1, f p.2)
theorem find_mapP {α : Type} (f : α → Value) (m : List (Int × α)) (k : Int) : (mapP f m).find? (fun p => p.1 == k) = (m.find? fun p => p.1 == k).map fun p => (p.1, f p.2) := by
  unfold mapP
  rw [List.find?_map]
  rfl
theorem look_mapP {α : Type} (f : α → Value) (m : List (Int × α)) (k : Int) : lookM (mapP f m) k = (lookP m k).map f := by
  unfold lookM lookP
  rw [find_mapP]
  cases m.find? (fun p => p.1 == k) <;> rfl
theorem put_mapP {α : Type} (f : α → Value) (m : List (Int × α)) (k : Int) (v : α) : putM (mapP f m) k (f v) = mapP f (putP m k v) := by
  unfold putM putP
  rw [find_mapP]
  cases m.find? (fun p => p.1 == k) with
  | none => simp [mapP]
  | some p =>
    simp only [Option.map_some, Option.isSome_some, if_true]
    unfold mapP
    rw [List.map_map, List.map_map]
    apply List.map_congr_left
    intro q _
    simp only [Function.comp_apply]
    split <;> rfl
end Go.Proofs.Ytaloembfekdkoaa
