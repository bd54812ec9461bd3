/- Maps with int keys, as rows of pairs; looked up, written, ranged over. -/
import Derived.Test.YtaloembfekdkoaaData
import Derived.MapKept
import Derived.Maps.RangeRun
namespace Go.Proofs.Ytaloembfekdkoaa
open Go.RowKit Go.MapKept
open Go.ChangeMaps (setBlock)
set_option linter.unusedVariables false
def IMap (w : World) (b : Nat) (m : List (Int × Value)) : Prop :=
  ∃ es clock, w.heap[b]? = some (.map es clock) ∧ es.toList.map (fun e => (e.key, e.val)) = m.map (fun p => (Value.int .i64 p.1, p.2)) ∧ Stamped es clock
def lookM (m : List (Int × Value)) (k : Int) : Option Value := (m.find? fun p => p.1 == k).map (·.2)
def putM (m : List (Int × Value)) (k : Int) (v : Value) : List (Int × Value) := if (m.find? fun p => p.1 == k).isSome then m.map (fun p => if p.1 = k then (k, v) else p) else m ++ [(k, v)]
theorem IMap.lt {w : World} {b : Nat} {m : List (Int × Value)} (h : IMap w b m) : b < w.heap.size := by
  obtain ⟨es, c, h, _⟩ := h
  exact (Array.getElem?_eq_some_iff.1 h).1
theorem IMap.mod {w w' : World} {b : Nat} {m : List (Int × Value)} (h : IMap w b m) (hm : Mod [] w w') : IMap w' b m := by
  obtain ⟨es, c, h1, h2⟩ := h
  exact ⟨es, c, (hm.block b (Array.getElem?_eq_some_iff.1 h1).1 (by simp)).trans h1, h2⟩
theorem IMap.of {w w' : World} {b : Nat} {m : List (Int × Value)} (h : IMap w b m) (hb : w'.heap[b]? = w.heap[b]?) : IMap w' b m := by
  obtain ⟨es, c, h1, h2⟩ := h
  exact ⟨es, c, hb.trans h1, h2⟩
theorem IMap.new (w : World) : IMap (w.alloc (.map #[] 0)) w.heap.size [] := ⟨#[], 0, by show (w.heap.push _)[w.heap.size]? = _; simp, rfl, by simp [Stamped]⟩
theorem IMap.keys {w : World} {b : Nat} {m : List (Int × Value)} (h : IMap w b m) : (m.map (·.1)).Nodup := by
  obtain ⟨es, c, _, h2, _, _, h3⟩ := h
  have e : es.toList.map (·.key) = m.map (fun p => Value.int .i64 p.1) := by
    have := congrArg (List.map Prod.fst) h2
    simpa [List.map_map, Function.comp_def] using this
  rw [e] at h3
  have : (m.map (·.1)).map (fun k => Value.int .i64 k) = m.map (fun p => Value.int .i64 p.1) := by simp [List.map_map, Function.comp_def]
  rw [← this] at h3
  exact (List.pairwise_map.1 h3).imp (fun h e => h (by rw [e]))
section
variable {P : Program} {w : World} {b : Nat} {m : List (Int × Value)} {t kt et : TypeId}
theorem find_spec {es : List MapEntry} (hk : ∀ x ∈ es, IsKey (.int .i64) x.key) (h2 : es.map (fun e => (e.key, e.val)) = m.map (fun p => (Value.int .i64 p.1, p.2))) (k : Int) :
    (Instr.findNow (.int .i64) (.int .i64 k) es 0 = some none ∧ m.find? (fun p => p.1 == k) = none) ∨
    ∃ j e, Instr.findNow (.int .i64) (.int .i64 k) es 0 = some (some (j, e.val)) ∧ es[j]? = some e ∧ e.key = .int .i64 k ∧ m[j]? = some (k, e.val) := by
  rcases findNow_spec (d := .int .i64) (k := .int .i64 k) (by simp [IsKey]) es 0 hk with ⟨h1, h3⟩ | ⟨j, e, h1, h3, h4⟩
  · left
    refine ⟨h1, List.find?_eq_none.2 fun p hp he => ?_⟩
    have : (Value.int .i64 p.1, p.2) ∈ es.map (fun e => (e.key, e.val)) := by rw [h2]; exact List.mem_map_of_mem (f := fun p : Int × Value => (Value.int .i64 p.1, p.2)) hp
    obtain ⟨e, he2, hee⟩ := List.mem_map.1 this
    have hpk : p.1 = k := by simpa using he
    exact h3 e he2 (by have := congrArg Prod.fst hee; simp only at this; rw [this, hpk])
  · right
    refine ⟨j, e, by rw [h1, Nat.zero_add], h3, h4, ?_⟩
    have h5 : (es.map (fun e => (e.key, e.val)))[j]? = some (e.key, e.val) := by rw [List.getElem?_map, h3]; rfl
    rw [h2, List.getElem?_map] at h5
    cases hm : m[j]? with
    | none => rw [hm] at h5; cases h5
    | some p =>
      rw [hm, h4] at h5
      simp only [Option.map_some, Option.some.injEq, Prod.mk.injEq, Value.int.injEq, true_and] at h5
      obtain ⟨p1, p2⟩ := p
      simp only at h5
      rw [h5.1, h5.2]
theorem find_of_at {m : List (Int × Value)} (hn : (m.map (·.1)).Nodup) {j : Nat} {k : Int} {v : Value} (h : m[j]? = some (k, v)) : m.find? (fun p => p.1 == k) = some (k, v) := by
  induction m generalizing j with
  | nil => simp at h
  | cons p r ih =>
    simp only [List.map_cons, List.nodup_cons] at hn
    cases j with
    | zero => simp only [List.getElem?_cons_zero, Option.some.injEq] at h; subst h; simp
    | succ j =>
      simp only [List.getElem?_cons_succ] at h
      have hne : p.1 ≠ k := fun e => hn.1 (by rw [e]; exact List.mem_map.2 ⟨(k, v), List.mem_of_getElem? h, rfl⟩)
      rw [List.find?_cons_of_neg (by simpa using hne)]
      exact ih hn.2 h
theorem keys_int {es : List MapEntry} (h2 : es.map (fun e => (e.key, e.val)) = m.map (fun p => (Value.int .i64 p.1, p.2))) : ∀ x ∈ es, IsKey (.int .i64) x.key := fun x hx => by
  have : (x.key, x.val) ∈ m.map (fun p => (Value.int .i64 p.1, p.2)) := by rw [← h2]; exact List.mem_map_of_mem (f := fun e : MapEntry => (e.key, e.val)) hx
  obtain ⟨p, _, hp⟩ := List.mem_map.1 this
  have := congrArg Prod.fst hp
  simp only at this
  rw [← this]
  simp [IsKey]
theorem run_look (h : IMap w b m) (ht : P.underlying t = some (.map kt et)) (hk : P.underlying kt = some (.int .i64)) {z : Value} (hz : (zeroValue et).run P w = .ok z w) (k : Int) (ok : Bool) :
    (Instr.lookup t (.map (some b)) (.int .i64 k) ok).run P w = .ok (if ok then .tuple #[(lookM m k).getD z, .bool (lookM m k).isSome] else (lookM m k).getD z) w := by
  have hn := h.keys
  obtain ⟨es, c, h1, h2, h3⟩ := h
  have hck := run_checkKey (P := P) (w := w) (k := .int .i64 k) hk (by simp [IsKey]) es.isEmpty 9999
  have hg := Go.MapKept.run_getObj_map (P := P) h1
  unfold Instr.lookup lookM
  rcases find_spec (keys_int h2) h2 k with ⟨h4, h5⟩ | ⟨j, e, h4, h5, h6, h7⟩
  · have hf := run_findKey (P := P) (w := w) hk h4
    simp only [Sem.run_bind, run_underlying ht, Result.andThen_ok, hg, Sem.run_pure, hck, hf, hz, h5]
    cases ok <;> rfl
  · have hf := run_findKey (P := P) (w := w) hk h4
    rw [find_of_at hn h7]
    simp only [Sem.run_bind, run_underlying ht, Result.andThen_ok, hg, Sem.run_pure, hck, hf]
    cases ok <;> rfl
theorem putM_at {j : Nat} {k : Int} {v u : Value} (hn : (m.map (·.1)).Nodup) (h : m[j]? = some (k, u)) : ∀ q, (m.map fun p => if p.1 = k then (k, v) else p)[q]? = if q = j then some (k, v) else m[q]? := by
  intro q
  rw [List.getElem?_map]
  by_cases hq : q = j
  · subst hq; rw [h, if_pos rfl]; simp
  · rw [if_neg hq]
    cases hm : m[q]? with
    | none => rfl
    | some p =>
      have hne : p.1 ≠ k := fun e => hq (by
        have h1 : (m.map (·.1))[q]? = some k := by rw [List.getElem?_map, hm]; simp [e]
        have h2 : (m.map (·.1))[j]? = some k := by rw [List.getElem?_map, h]; rfl
        have l1 := (List.getElem?_eq_some_iff.1 h1).1
        have l2 := (List.getElem?_eq_some_iff.1 h2).1
        have e1 := (List.getElem?_eq_some_iff.1 h1).2
        have e2 := (List.getElem?_eq_some_iff.1 h2).2
        rcases Nat.lt_trichotomy q j with hlt | heq | hgt
        · exact absurd (e1.trans e2.symm) (List.pairwise_iff_getElem.1 hn q j l1 l2 hlt)
        · exact heq
        · exact absurd (e2.trans e1.symm) (List.pairwise_iff_getElem.1 hn j q l2 l1 hgt))
      simp [hne]
theorem run_put (h : IMap w b m) (ht : P.underlying t = some (.map kt et)) (hk : P.underlying kt = some (.int .i64)) (k : Int) (v : Value) :
    ∃ w', (Instr.mapUpdate t (.map (some b)) (.int .i64 k) v).run P w = .ok () w' ∧ IMap w' b (putM m k v) ∧ w'.os = w.os ∧ w'.tape = w.tape ∧ w'.output = w.output ∧ w'.heap.size = w.heap.size ∧ ∀ b', b' ≠ b → w'.heap[b']? = w.heap[b']? := by
  have hn := h.keys
  have hlt := h.lt
  obtain ⟨es, c, h1, h2, h3⟩ := h
  have hg := Go.MapKept.run_getObj_map (P := P) h1
  have hck := run_checkKey (P := P) (w := w) (k := .int .i64 k) hk (by simp [IsKey]) false 9999
  have hso := fun o => Go.MapKept.run_setObj_map (P := P) o h1
  unfold Instr.mapUpdate
  rcases find_spec (keys_int h2) h2 k with ⟨h4, h5⟩ | ⟨j, e, h4, h5, h6, h7⟩
  · have hf := run_findKey (P := P) (w := w) hk h4
    refine ⟨{ w with heap := w.heap.setIfInBounds b (.map (es.push { key := .int .i64 k, val := v, born := c }) (c + 1)) }, ?_, ?_, rfl, rfl, rfl, by simp, fun b' hb => (heap_set h1).2 b' hb⟩
    · simp only [Sem.run_bind, run_underlying ht, Result.andThen_ok, hg, hck, hf, hso]
    · refine ⟨_, _, (heap_set h1).1, ?_, stamped_push h3 fun x hx he => ?_⟩
      · unfold putM
        rw [h5]
        simp [h2]
      · have : (x.key, x.val) ∈ m.map (fun p => (Value.int .i64 p.1, p.2)) := by rw [← h2]; exact List.mem_map_of_mem (f := fun e : MapEntry => (e.key, e.val)) hx
        obtain ⟨p, hp, hpp⟩ := List.mem_map.1 this
        have e1 := congrArg Prod.fst hpp
        simp only [he] at e1
        exact List.find?_eq_none.1 h5 p hp (by simpa using e1)
  · have hf := run_findKey (P := P) (w := w) hk h4
    have hej : es[j]? = some e := by simpa using h5
    have hst : ∀ w : World, (Instr.keyThatStays (((es[j]?).map (·.key)).getD (.int .i64 k)) (.int .i64 k)).run P w = .ok (.int .i64 k) w := fun w => by
      rw [hej]
      simp only [Option.map_some, Option.getD_some, h6]
      simp [Instr.keyThatStays, Instr.sameBits]
    refine ⟨{ w with heap := w.heap.setIfInBounds b (.map (es.modify j fun e => { e with key := .int .i64 k, val := v }) c) }, ?_, ?_, rfl, rfl, rfl, by simp, fun b' hb => (heap_set h1).2 b' hb⟩
    · simp only [Sem.run_bind, run_underlying ht, Result.andThen_ok, hg, hck, hf, hst, hso]
    · refine ⟨_, _, (heap_set h1).1, ?_, stamped_modify h3 j _ (fun _ _ => rfl) fun x hx hxe => ?_⟩
      · unfold putM
        rw [find_of_at hn h7]
        simp only [Option.isSome_some, if_true]
        apply List.ext_getElem?
        intro q
        rw [List.getElem?_map, List.getElem?_map, putM_at hn h7 q]
        have h8 : (es.toList.map fun e => (e.key, e.val))[q]? = (m.map fun p => (Value.int .i64 p.1, p.2))[q]? := by rw [h2]
        rw [List.getElem?_map, List.getElem?_map] at h8
        rw [show (es.modify j fun e => { e with key := .int .i64 k, val := v }).toList[q]? = if j = q then (es[q]?).map (fun e => { e with key := Value.int .i64 k, val := v }) else es[q]? by rw [Array.toList_modify, List.getElem?_modify]; by_cases hjq : j = q <;> simp [hjq]]
        by_cases hq : q = j
        · subst hq; simp [hej]
        · rw [if_neg (fun e => hq e.symm), if_neg hq]
          simpa using h8
      · rw [hej] at hxe
        cases hxe
        exact h6.symm
end
end Go.Proofs.Ytaloembfekdkoaa
