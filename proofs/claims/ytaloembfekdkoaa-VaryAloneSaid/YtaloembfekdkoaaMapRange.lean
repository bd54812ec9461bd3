/- A loop over a map with int keys, under way. -/
import Derived.Test.YtaloembfekdkoaaOwnF
namespace Go.Proofs.Ytaloembfekdkoaa
open Go.RowKit Go.MapKept
open Go.ChangeMaps (setBlock)
set_option linter.unusedVariables false
def IRange (w : World) (b r : Nat) (m : List (Int × Value)) (D : List Int) (n : Nat) : Prop :=
  ∃ es clock since seen c0, w.heap[b]? = some (.map es clock) ∧ es.toList.map (fun e => (e.key, e.val)) = m.map (fun p => (Value.int .i64 p.1, p.2)) ∧ Stamped es clock ∧
    w.heap[r]? = some (.mapIter (some b) since seen c0) ∧ (∀ x ∈ es.toList, x.born < since) ∧ since ≤ c0 ∧ since ≤ clock ∧ (leftOf es seen).size = n ∧ ∀ x ∈ es.toList, seen.contains x.born = true ↔ ∃ k ∈ D, x.key = .int .i64 k
theorem IRange.lt {w : World} {b r n : Nat} {m : List (Int × Value)} {D : List Int} (h : IRange w b r m D n) : b < w.heap.size ∧ r < w.heap.size := by
  obtain ⟨es, clock, since, seen, c0, h1, h2, h3, h4, h5⟩ := h
  exact ⟨(Array.getElem?_eq_some_iff.1 h1).1, (Array.getElem?_eq_some_iff.1 h4).1⟩
theorem IRange.of {w w' : World} {b r n : Nat} {m : List (Int × Value)} {D : List Int} (h : IRange w b r m D n) (hb : w'.heap[b]? = w.heap[b]?) (hr : w'.heap[r]? = w.heap[r]?) : IRange w' b r m D n := by
  obtain ⟨es, clock, since, seen, c0, h1, h2, h3, h4, h5⟩ := h
  exact ⟨es, clock, since, seen, c0, hb.trans h1, h2, h3, hr.trans h4, h5⟩
theorem IRange.mod {w w' : World} {F : List Nat} {b r n : Nat} {m : List (Int × Value)} {D : List Int} (h : IRange w b r m D n) (hm : Mod F w w') (hb : b ∉ F) (hr : r ∉ F) : IRange w' b r m D n :=
  h.of (hm.block b h.lt.1 hb) (hm.block r h.lt.2 hr)
theorem run_irange {P : Program} {w : World} {b : Nat} {m : List (Int × Value)} {t kt et : TypeId} (h : IMap w b m) (ht : P.underlying t = some (.map kt et)) :
    ∃ it n, (Instr.range t (.map (some b))).run P w = .ok (.pointer (some ⟨w.heap.size, 0, none⟩)) (w.alloc it) ∧ IRange (w.alloc it) b w.heap.size m [] n := by
  have hl := h.lt
  obtain ⟨es, clock, h1, h2, h3⟩ := h
  refine ⟨.mapIter (some b) clock #[] clock, _, run_range_map w t kt et b es clock ht h1, es, clock, clock, #[], clock, (heap_alloc_old w _ hl).trans h1, h2, h3, heap_alloc_new w _, h3.1, Nat.le_refl _, Nat.le_refl _, rfl, fun x hx => ?_⟩
  simp
theorem run_inext {P : Program} {w : World} {b r n : Nat} {m : List (Int × Value)} {D : List Int} (h : IRange w b r m D n) :
    (n = 0 ∧ (∀ ty, (Instr.next (.pointer (some ⟨r, 0, none⟩)) false ty).run P w = .ok (.tuple #[.bool false]) w) ∧ ∀ p ∈ m, p.1 ∈ D) ∨
    ∃ k v w', (k, v) ∈ m ∧ k ∉ D ∧ (∀ ty, (Instr.next (.pointer (some ⟨r, 0, none⟩)) false ty).run P w = .ok (.tuple #[.bool true, .int .i64 k, v]) w') ∧ (Instr.entry (.pointer (some ⟨r, 0, none⟩))).run P w' = .ok (.tuple #[.int .i64 k, v]) w' ∧
      (∃ n', n' < n ∧ IRange w' b r m (k :: D) n') ∧ Mod [r] w w' ∧ w'.heap.size = w.heap.size := by
  obtain ⟨es, clock, since, seen, c0, h1, h2, h3, h4, h5, h6, h7, h8, h9⟩ := h
  have hr := (Array.getElem?_eq_some_iff.1 h4).1
  have hbr : b ≠ r := fun e => by rw [e, h4] at h1; cases h1
  have pair : ∀ e ∈ es.toList, ∃ k, e.key = .int .i64 k ∧ (k, e.val) ∈ m := fun e he => by
    have : (e.key, e.val) ∈ m.map (fun p => (Value.int .i64 p.1, p.2)) := by rw [← h2]; exact List.mem_map_of_mem (f := fun e : MapEntry => (e.key, e.val)) he
    obtain ⟨p, hp, hpe⟩ := List.mem_map.1 this
    cases hpe' : p with
    | mk k v =>
      rw [hpe'] at hpe hp
      simp only [Prod.mk.injEq] at hpe
      exact ⟨k, hpe.1.symm, by rw [← hpe.2]; exact hp⟩
  have step := fun ty => run_next_at (P := P) w ty r b since c0 seen es clock h4 h1 h5 h6
  by_cases h0 : n = 0
  · left
    have hz : (leftOf es seen).size = 0 := by rw [h8, h0]
    refine ⟨h0, fun ty => ?_, fun p hp => ?_⟩
    · rcases step ty with ⟨_, h⟩ | ⟨e, he, _⟩
      · exact h
      · have : (leftOf es seen).toList = [] := List.eq_nil_of_length_eq_zero (by simpa using hz)
        rw [this] at he
        cases he
    · have : (Value.int .i64 p.1, p.2) ∈ es.toList.map (fun e => (e.key, e.val)) := by rw [h2]; exact List.mem_map_of_mem (f := fun p : Int × Value => (Value.int .i64 p.1, p.2)) hp
      obtain ⟨e, he, hee⟩ := List.mem_map.1 this
      obtain ⟨k, hk, hke⟩ := (h9 e he).1 (all_seen es seen hz e he)
      have e1 := congrArg Prod.fst hee
      simp only [hke] at e1
      cases e1
      exact hk
  · right
    have hall : ∀ ty, ∃ e ∈ (leftOf es seen).toList, ∃ w1 : World, (w1 = w ∨ w1 = w.drew) ∧ (Instr.next (.pointer (some ⟨r, 0, none⟩)) false ty).run P w = .ok (.tuple #[.bool true, e.key, e.val]) (setBlock w1 r (.mapIter (some b) since (seen.push e.born) clock)) := fun ty => (step ty).resolve_left fun h => h0 (by rw [← h8]; exact h.1)
    obtain ⟨e, he, w1, hw, hrun⟩ := hall 0
    have hmem := mem_left he
    obtain ⟨k, hk, hkm⟩ := pair e hmem.1
    have hx : w1.os = w.os ∧ w1.tape = w.tape ∧ w1.output = w.output ∧ w1.heap = w.heap := by
      rcases hw with rfl | rfl
      · exact ⟨rfl, rfl, rfl, rfl⟩
      · exact ⟨rfl, rfl, rfl, rfl⟩
    obtain ⟨x1, x2, x3, x4⟩ := hx
    have hset : (setBlock w1 r (.mapIter (some b) since (seen.push e.born) clock)).heap = w.heap.setIfInBounds r (.mapIter (some b) since (seen.push e.born) clock) := by
      show w1.heap.setIfInBounds _ _ = _
      rw [x4]
    have atr : (setBlock w1 r (.mapIter (some b) since (seen.push e.born) clock)).heap[r]? = some (.mapIter (some b) since (seen.push e.born) clock) := by rw [hset]; simp [hr]
    have oth : ∀ x, x ≠ r → (setBlock w1 r (.mapIter (some b) since (seen.push e.born) clock)).heap[x]? = w.heap[x]? := fun x hx => by
      rw [hset, Array.getElem?_setIfInBounds]
      rw [if_neg (fun e => hx e.symm)]
    refine ⟨k, e.val, setBlock w1 r (.mapIter (some b) since (seen.push e.born) clock), hkm, fun hd => ?_, fun ty => ?_, ?_, ⟨_, ?_, es, clock, since, seen.push e.born, clock, (oth b hbr).trans h1, h2, h3, atr, h5, h7, h7, rfl, fun x hxx => ?_⟩, ⟨x1, x2, x3, ?_, fun x hxx hn => oth x (by simpa using hn)⟩, ?_⟩
    · have := (h9 e hmem.1).2 ⟨k, hd, hk⟩
      rw [hmem.2] at this
      cases this
    · rw [← hk]
      exact hrun
    · rw [← hk]
      exact run_entry_at _ r b since seen es clock e atr ((oth b hbr).trans h1) hmem.1 h3.2.1
    · rw [← h8]
      exact left_shrinks es seen e he
    · rw [contains_push, Bool.or_eq_true, h9 x hxx]
      constructor
      · rintro (⟨k', hk', hke⟩ | hb)
        · exact ⟨k', List.mem_cons_of_mem _ hk', hke⟩
        · have : x = e := born_inj h3.2.1 hxx hmem.1 (by simpa using hb)
          rw [this]
          exact ⟨k, by simp, hk⟩
      · rintro ⟨k', hk', hke⟩
        rcases List.mem_cons.1 hk' with rfl | hk'
        · right
          have : x = e := by
            have hp := h3.2.2
            have hpn : (es.toList.map (·.key)).Nodup := hp
            by_cases hxe : x = e
            · exact hxe
            · exfalso
              obtain ⟨i, hi, hie⟩ := List.getElem_of_mem hxx
              obtain ⟨j, hj, hje⟩ := List.getElem_of_mem hmem.1
              have hij : i ≠ j := fun h => hxe (by rw [← hie, ← hje]; simp [h])
              have hp' := List.pairwise_iff_getElem.1 hpn
              rcases Nat.lt_or_ge i j with h | h
              · exact hp' i j (by simpa using hi) (by simpa using hj) h (by simp only [List.getElem_map]; rw [hie, hje, hke, hk])
              · exact hp' j i (by simpa using hj) (by simpa using hi) (by omega) (by simp only [List.getElem_map]; rw [hie, hje, hke, hk])
          rw [this]
          simp
        · exact .inl ⟨k', hk', hke⟩
    · rw [hset]; simp
    · rw [hset]; simp
end Go.Proofs.Ytaloembfekdkoaa
