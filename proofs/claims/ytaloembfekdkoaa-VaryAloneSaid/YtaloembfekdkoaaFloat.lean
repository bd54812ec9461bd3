/- A region in which taking a part of a tuple may come behind a store: it may be thought to come ahead of it. -/
import Derived.Test.YtaloembfekdkoaaGBase
namespace Go.Proofs.Ytaloembfekdkoaa
open Go.RowKit
set_option linter.unusedVariables false
def waitFor (t i : Nat) (l : List Oper) : List Oper := l.modify t fun o => { o with after := o.after.push ⟨i, .data⟩ }
section
variable {P : Program} {md : Region.Mode} {ops ops' : Array Oper} {Q : Exit → Act → World → Prop} {t i : Nat} {ot oi : Oper}
structure Waits (ops ops' : Array Oper) (t i : Nat) (ot : Oper) : Prop where
  other : ∀ j, j ≠ t → ops'[j]? = ops[j]?
  old : ops[t]? = some ot
  new : ops'[t]? = some { ot with after := ot.after.push ⟨i, .data⟩ }
theorem Waits.yielded (h : Waits ops ops' t i ot) (tmps : Array Value) : yielded ops' tmps = yielded ops tmps := by
  funext j
  unfold Go.yielded
  by_cases hj : j = t
  · subst hj; rw [h.old, h.new]; rfl
  · rw [h.other j hj]
theorem Waits.wpOp (h : Waits ops ops' t i ot) {j : Nat} {K : Act → World → Prop} {a : Act} {w : World} (hh : wpOp P ops' Q j K a w) : wpOp P ops Q j K a w := by
  unfold Go.wpOp at *
  rw [h.yielded] at hh
  by_cases hj : j = t
  · subst hj
    rw [h.new] at hh
    rw [h.old]
    exact hh
  · rw [h.other j hj] at hh
    exact hh
theorem Waits.ready_of (h : Waits ops ops' t i ot) {j : Nat} {listed : Array Bool} (hj : j ∈ Region.ready md ops' listed) : j ∈ Region.ready md ops listed := by
  rw [mem_ready] at *
  obtain ⟨h0, o, ho, hall⟩ := hj
  by_cases hjt : j = t
  · subst hjt
    rw [h.new] at ho
    obtain rfl := Option.some.inj ho
    exact ⟨h0, ot, h.old, fun e he hb => hall e (Array.mem_push.2 (.inl he)) hb⟩
  · exact ⟨h0, o, by rw [← h.other j hjt]; exact ho, hall⟩
theorem Waits.ready_ne (h : Waits ops ops' t i ot) {j : Nat} {listed : Array Bool} (hjt : j ≠ t) (hj : j ∈ Region.ready md ops listed) : j ∈ Region.ready md ops' listed := by
  rw [mem_ready] at *
  obtain ⟨h0, o, ho, hall⟩ := hj
  exact ⟨h0, o, by rw [h.other j hjt]; exact ho, hall⟩
theorem Waits.ready_in (h : Waits ops ops' t i ot) {j : Nat} {listed : Array Bool} (hi : listed.getD i false = true) (hj : j ∈ Region.ready md ops listed) : j ∈ Region.ready md ops' listed := by
  by_cases hjt : j = t
  · subst hjt
    rw [mem_ready] at *
    obtain ⟨h0, o, ho, hall⟩ := hj
    rw [h.old] at ho
    obtain rfl := Option.some.inj ho
    refine ⟨h0, _, h.new, fun e he hb => ?_⟩
    rcases Array.mem_push.1 he with he | rfl
    · exact hall e he hb
    · exact hi
  · exact h.ready_ne hjt hj
theorem Waits.behind (h : Waits ops ops' t i ot) : ∀ (g : Nat) (listed : Array Bool) (a : Act) (w : World), listed.getD i false = true → wpAny P md ops' Q g listed a w → wpAny P md ops Q g listed a w
  | 0, listed, a, w, hi, hh => ⟨List.eq_nil_iff_forall_not_mem.2 (fun j hj => by
      have := h.ready_in hi hj
      rw [hh.1] at this
      exact absurd this (List.not_mem_nil)), hh.2⟩
  | g + 1, listed, a, w, hi, hh => ⟨fun h0 => hh.1 (by
      rw [List.eq_nil_iff_forall_not_mem]
      intro j hj
      have := h.ready_of hj
      rw [h0] at this
      cases this), fun j hj => wpOp_mono (fun a' w' h' => h.behind g _ a' w' (getD_set_true hi) h') (h.wpOp (hh.2 j (h.ready_in hi hj)))⟩
def floatB (md : Region.Mode) (ops : Array Oper) (t i : Nat) : Bool :=
  match ops[t]?, ops[i]? with
  | some ot, some oi => decide (t ≠ i) && oi.guard.isNone && (match oi.op with | .extract _ _ => true | _ => false) &&
    oi.after.all (fun e => !Region.binds md e || ot.after.any fun e' => Region.binds md e' && e'.on == e.on) &&
    (List.range ops.size).all fun j => j == i || oi.after.any (fun e => Region.binds md e && e.on == j) || match ops[j]? with
      | some oj => oj.after.any (fun e => Region.binds md e && e.on == i) || oi.apart ops oj
      | none => true
  | _, _ => false
theorem extract_yields {o : Oper} (hg : o.guard = none) {x : Operand} {ix : Nat} (ho : o.op = .extract x ix) {j : Nat} (hj : ops[j]? = some o) {K : Act → World → Prop} {a : Act} {w : World} (hh : wpOp P ops Q j K a w) :
    ∃ v, Yields P ops o v a ∧ K (a.put o.dst v) w := by
  unfold wpOp at hh
  have hw : Region.wanted o (yielded ops a.tmps) = true := by unfold Region.wanted; rw [hg]
  simp only [hj, hw, if_true] at hh
  have stuckCase : ∀ s, (∀ w, (execOp a.eval o).run P w = .halt (.stuck s) w) → (execOp a.eval o).runT P w #[] = (.halt (.stuck s) w, #[]) → False := fun s h1 h2 => by
    rcases hh with hh | hh
    · unfold Oper.wp at hh
      rw [h1 w] at hh
      exact hh
    · unfold Oper.asks at hh
      rw [h2] at hh
      simp at hh
  have okCase : ∀ v, (∀ w, (execOp a.eval o).run P w = .ok (.value v) w) → (execOp a.eval o).runT P w #[] = (.ok (.value v) w, #[]) → ∃ v, Yields P ops o v a ∧ K (a.put o.dst v) w := fun v h1 h2 => by
    refine ⟨v, .inl ⟨hw, h1⟩, ?_⟩
    rcases hh with hh | hh
    · unfold Oper.wp at hh
      rw [h1 w] at hh
      exact hh
    · unfold Oper.asks at hh
      rw [h2] at hh
      simp at hh
  have hE : execOp a.eval o = (do pure (.value (← Instr.extract (a.eval x) ix))) := by
    unfold execOp
    simp only [ho]
  rw [hE] at stuckCase okCase
  generalize a.eval x = y at *
  cases y with
  | tuple vs =>
    cases hv : vs[ix]? with
    | none => exact (stuckCase _ (fun w => by simp [Instr.extract, hv, go_sem]; rfl) (by simp [Instr.extract, hv, go_sem]; rfl)).elim
    | some v => exact okCase v (fun w => by simp [Instr.extract, hv, go_sem]) (by simp [Instr.extract, hv, go_sem]; rfl)
  | _ => exact (stuckCase _ (fun w => by simp [Instr.extract, go_sem]; rfl) (by simp [Instr.extract, go_sem]; rfl)).elim
theorem wpAny_float (W : Waits ops ops' t i ot) (hB : floatB md ops t i = true) (hs : Region.noSelect ops = true) (hQ : ∀ c a d v w, Q (.panic c) (a.put d v) w → Q (.panic c) a w) :
    ∀ (g : Nat) (listed : Array Bool) (a : Act) (w : World), listed.getD i true = false → wpAny P md ops' Q g listed a w → wpAny P md ops Q g listed a w := by
  unfold floatB at hB
  rw [W.old] at hB
  cases ho : ops[i]? with
  | none => rw [ho] at hB; cases hB
  | some oi =>
    rw [ho] at hB
    simp only [Bool.and_eq_true, decide_eq_true_eq] at hB
    obtain ⟨⟨⟨⟨hne, hg⟩, hx⟩, hdeps⟩, hfree⟩ := hB
    have hg' : oi.guard = none := by simpa using hg
    obtain ⟨x, ix, hop⟩ : ∃ x ix, oi.op = .extract x ix := by
      cases hop : oi.op <;> simp [hop] at hx
      exact ⟨_, _, rfl⟩
    have hT : ∀ listed, listed.getD i true = false → t ∈ Region.ready md ops listed → i ∈ Region.ready md ops listed := fun listed hun ht => by
      rw [mem_ready] at *
      obtain ⟨_, o, ho', hall⟩ := ht
      rw [W.old] at ho'
      obtain rfl := Option.some.inj ho'
      refine ⟨hun, oi, ho, fun e he hb => ?_⟩
      have h1 := Array.all_eq_true_iff_forall_mem.1 hdeps e he
      rw [hb] at h1
      simp only [Bool.not_true, Bool.false_or] at h1
      obtain ⟨e', he', h2⟩ := Array.any_eq_true'.1 h1
      simp only [Bool.and_eq_true, beq_iff_eq] at h2
      rw [← h2.2]
      exact hall e' he' h2.1
    have hF : ∀ listed, i ∈ Region.ready md ops listed → ∀ j oj, ops[j]? = some oj → j ≠ i → listed.getD j true = false → (∀ e ∈ oj.after, Region.binds md e = true → e.on ≠ i) → oi.apart ops oj = true := fun listed hr j oj hj hji hun hno => by
      have h1 := List.all_eq_true.1 hfree j (List.mem_range.2 (Array.getElem?_eq_some_iff.1 hj).1)
      simp only [hj, Bool.or_eq_true, beq_iff_eq, hji, false_or] at h1
      rcases h1 with h1 | h1 | h1
      · obtain ⟨e, he, h2⟩ := Array.any_eq_true'.1 h1
        simp only [Bool.and_eq_true, beq_iff_eq] at h2
        obtain ⟨_, o, ho', hall⟩ := mem_ready.1 hr
        rw [ho] at ho'
        obtain rfl := Option.some.inj ho'
        have h3 := hall e he h2.1
        rw [h2.2, getD_both hun] at h3
        cases h3
      · obtain ⟨e, he, h2⟩ := Array.any_eq_true'.1 h1
        simp only [Bool.and_eq_true, beq_iff_eq] at h2
        exact absurd h2.2 (hno e he h2.1)
      · exact h1
    intro g
    induction g with
    | zero =>
      intro listed a w hun hh
      refine ⟨List.eq_nil_iff_forall_not_mem.2 fun j hj => ?_, hh.2⟩
      by_cases hjt : j = t
      · subst hjt
        have := W.ready_ne (Ne.symm hne) (hT listed hun hj)
        rw [hh.1] at this
        exact absurd this List.not_mem_nil
      · have := W.ready_ne hjt hj
        rw [hh.1] at this
        exact absurd this List.not_mem_nil
    | succ g ih =>
      intro listed a w hun hh
      by_cases hr : i ∈ Region.ready md ops listed
      · obtain ⟨v, hy, hk⟩ := extract_yields hg' hop ho (W.wpOp (hh.2 i (W.ready_ne (Ne.symm hne) hr)))
        refine wpAny_first ho (Region.noSelect_spec hs) (fun c a w => hQ c a oi.dst v w) g listed a w (hF listed hr) hr hy ?_
        refine W.behind g _ _ _ ?_ hk
        have hlt : i < listed.size := by
          rcases Nat.lt_or_ge i listed.size with h' | h'
          · exact h'
          · rw [Array.getD_eq_getD_getElem?, Array.getElem?_eq_none h'] at hun; cases hun
        simp [hlt]
      · refine ⟨fun h0 => hh.1 (List.eq_nil_iff_forall_not_mem.2 fun j hj => ?_), fun j hj => ?_⟩
        · have := W.ready_of hj
          rw [h0] at this
          exact absurd this List.not_mem_nil
        · have hji : j ≠ i := fun he => hr (he ▸ hj)
          have hjt : j ≠ t := fun he => hr (hT listed hun (he ▸ hj))
          refine wpOp_mono (fun a' w' h' => ih _ a' w' ?_ h') (W.wpOp (hh.2 j (W.ready_ne hjt hj)))
          rw [getD_set_ne true hji]
          exact hun
theorem wait_waits {l : List Oper} {t i : Nat} {o : Oper} (h : l[t]? = some o) : Waits l.toArray (waitFor t i l).toArray t i o := by
  refine ⟨fun j hj => ?_, by simpa using h, ?_⟩
  · simp only [List.getElem?_toArray, waitFor]
    rw [List.getElem?_modify]
    cases l[j]? <;> simp [Ne.symm hj]
  · simp only [List.getElem?_toArray, waitFor]
    rw [List.getElem?_modify, h]; simp
theorem wait_length (t i : Nat) (l : List Oper) : (waitFor t i l).length = l.length := by simp [waitFor]
theorem wpAny_mono {Q : Exit → Act → World → Prop} {a : Act} {w : World} {l : List Oper} (n : Nat) (ord : List Nat) (late : List (Nat × (Value → World → Prop)))
    (hB : Region.monoB .any l.toArray n ord (late.map (·.1)) = true) (hT : ∀ p ∈ late, ∀ v, Stays (p.2 v))
    (h : wpSteady P l.toArray w (fun a' => wpLates P l.toArray w (fun a'' F => ∀ w', Mod [] w w' → F w' → wpList P l.toArray Q (l.drop n) a'' w') late a' (fun _ => True)) ord a) :
    wpAny P .any l.toArray Q l.toArray.size (Array.replicate l.toArray.size false) a { w with drawn := w.drawn + 1 } := by
  simp only [Region.monoB, Bool.and_eq_true, decide_eq_true_eq] at hB
  obtain ⟨⟨⟨⟨⟨⟨⟨⟨hsel, hn⟩, hlen⟩, hlt⟩, ht⟩, hd⟩, hseq⟩, hap⟩, hord⟩ := hB
  let L : Nat → Option (Value → World → Prop) := fun i => (late.find? fun p => p.1 == i).map (·.2)
  have hLn : ∀ i, (late.map (·.1)).contains i = false → L i = none := fun i hi => by
    simp only [L, Option.map_eq_none_iff, List.find?_eq_none]
    intro p hp he
    have : (late.map (·.1)).contains i = true := by simpa using ⟨p.2, by simpa [← (beq_iff_eq.1 he)] using hp⟩
    rw [hi] at this; cases this
  have hLs : ∀ p ∈ late, L p.1 = some p.2 := fun p hp => lookup_late late p hp (lateApart_nodup hap)
  have hLT : ∀ i T, L i = some T → ∀ v, Stays (T v) := fun i T hi v => by
    simp only [L, Option.map_eq_some_iff] at hi
    obtain ⟨p, hp, rfl⟩ := hi
    exact hT p (List.mem_of_find?_eq_some hp) v
  have inv0 : HeadInv .any l.toArray n (Array.replicate l.toArray.size false) :=
    ⟨by simp, fun j oj _ hl => (by rw [getD_replicate_false] at hl; cases hl), fun t _ ht => getD_in (by simpa using ht) (getD_replicate_false _ _)⟩
  have hE : ∀ (a : Act) (F F' : World → Prop), (∀ w, F' w → F w) → (∀ w', Mod [] w w' → F w' → wpList P l.toArray Q (l.drop n) a w') → (∀ w', Mod [] w w' → F' w' → wpList P l.toArray Q (l.drop n) a w') :=
    fun a F F' hF h w' hw hf => h w' hw (hF w' hf)
  have hdl : (l.drop n).length = l.toArray.size - n := by simp
  have H := wpAnyM_ord (P := P) (W := w) (L := L) (m := late.length) (late := late.map (·.1)) (F := fun _ => True)
    (Fin := fun listed a F => Region.seqB .any l.toArray (l.toArray.size - n) n listed = true ∧ ∀ w', Mod [] w w' → F w' → wpList P l.toArray Q (l.drop n) a w')
    hsel ht (fun listed a F hf => seqB_ready hf.1) hLn (fun a listed inv hB hk => by
      refine wpAnyM_lates hE (Region.noSelect_spec hsel) ht hd hn hseq late.length late listed a _ rfl inv hap hLs (fun i hi => ?_) (fun p hp => ?_) hk
      · have := List.all_eq_true.1 hB i (List.mem_range.2 hi)
        simp only [beq_iff_eq] at this
        rw [Bool.eq_iff_iff] at this
        simp only [beq_iff_eq, List.contains_iff_mem] at this
        exact this
      · have := List.all_eq_true.1 hlt p.1 (List.mem_map_of_mem hp)
        simpa using this) ord _ a inv0 hord h
  have hfin := wpAny_of_M (P := P) (md := .any) (ops := l.toArray) (W := w) (Q := Q) (g := l.toArray.size - n) hLT (fun listed a F w' hw hF hf => by
    have := wpAny_of_seq (md := .any) (Q' := Q) (l.drop n) n listed a w' (fun j => by simp [List.getElem?_drop]) (by rw [hdl]; exact hf.1) (hf.2 w' hw hF)
    rwa [hdl] at this) _ _ _ _ { w with drawn := w.drawn + 1 } (fun _ _ _ _ => trivial) ((Mod.refl [] w).drew) trivial H
  have hl2 : ord.length + late.length + (l.toArray.size - n) = l.toArray.size := by simp only [List.length_map] at hlen; omega
  rwa [hl2] at hfin
end
end Go.Proofs.Ytaloembfekdkoaa
