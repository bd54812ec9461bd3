/- A region in which taking a value on may come behind a store: it may be thought to come ahead of it. -/
import Derived.Test.YtaloembfekdkoaaChain
namespace Go.Proofs.Ytaloembfekdkoaa
open Go.RowKit
set_option linter.unusedVariables false
section
variable {P : Program} {md : Region.Mode} {ops ops' : Array Oper} {Q : Exit → Act → World → Prop} {t i : Nat} {ot oi : Oper}
def floatM (md : Region.Mode) (ops : Array Oper) (t i : Nat) : Bool :=
  match ops[t]?, ops[i]? with
  | some ot, some oi => decide (t ≠ i) && oi.guard.isNone && (match oi.op with | .move _ => true | _ => false) &&
    oi.after.all (fun e => !Region.binds md e || ot.after.any fun e' => Region.binds md e' && e'.on == e.on) &&
    (List.range ops.size).all fun j => j == i || oi.after.any (fun e => Region.binds md e && e.on == j) || match ops[j]? with
      | some oj => oj.after.any (fun e => Region.binds md e && e.on == i) || oi.apart ops oj
      | none => true
  | _, _ => false
theorem move_yields {o : Oper} (hg : o.guard = none) {x : Operand} (ho : o.op = .move x) {j : Nat} (hj : ops[j]? = some o) {K : Act → World → Prop} {a : Act} {w : World} (hh : wpOp P ops Q j K a w) :
    ∃ v, Yields P ops o v a ∧ K (a.put o.dst v) w := by
  unfold wpOp at hh
  have hw : Region.wanted o (yielded ops a.tmps) = true := by unfold Region.wanted; rw [hg]
  simp only [hj, hw, if_true] at hh
  have hE : execOp a.eval o = pure (.value (a.eval x)) := by
    unfold execOp
    simp only [ho]
  have h1 : ∀ w, (execOp a.eval o).run P w = .ok (.value (a.eval x)) w := fun w => by rw [hE]; rfl
  have h2 : (execOp a.eval o).runT P w #[] = (.ok (.value (a.eval x)) w, #[]) := by rw [hE]; rfl
  refine ⟨a.eval x, .inl ⟨hw, h1⟩, ?_⟩
  rcases hh with hh | hh
  · unfold Oper.wp at hh
    rw [h1 w] at hh
    exact hh
  · unfold Oper.asks at hh
    rw [h2] at hh
    simp at hh
theorem wpAny_floatM (W : Waits ops ops' t i ot) (hB : floatM md ops t i = true) (hs : Region.noSelect ops = true) (hQ : ∀ c a d v w, Q (.panic c) (a.put d v) w → Q (.panic c) a w) :
    ∀ (g : Nat) (listed : Array Bool) (a : Act) (w : World), listed.getD i true = false → wpAny P md ops' Q g listed a w → wpAny P md ops Q g listed a w := by
  unfold floatM at hB
  rw [W.old] at hB
  cases ho : ops[i]? with
  | none => rw [ho] at hB; cases hB
  | some oi =>
    rw [ho] at hB
    simp only [Bool.and_eq_true, decide_eq_true_eq] at hB
    obtain ⟨⟨⟨⟨hne, hg⟩, hx⟩, hdeps⟩, hfree⟩ := hB
    have hg' : oi.guard = none := by simpa using hg
    obtain ⟨x, hop⟩ : ∃ x, oi.op = .move x := by
      cases hop : oi.op <;> simp [hop] at hx
      exact ⟨_, rfl⟩
    have hT : ∀ listed, listed.getD i true = false → t ∈ Region.ready md ops listed → i ∈ Region.ready md ops listed := fun listed hun ht => by
      rw [mem_ready] at *
      obtain ⟨_, o, ho', hall⟩ := ht
      rw [W.old] at ho'
      obtain rfl := Option.some.inj ho'
      refine ⟨hun, oi, ho, fun e he hb => ?_⟩
      have h1 := Array.all_eq_true_iff_forall_mem.1 hdeps e he
      rw [hb] at h1
      simp only [Bool.not_true, Bool.false_or] at h1
      obtain ⟨e', he', h2⟩ := Array.any_eq_true'.1 h1
      simp only [Bool.and_eq_true, beq_iff_eq] at h2
      rw [← h2.2]
      exact hall e' he' h2.1
    have hF : ∀ listed, i ∈ Region.ready md ops listed → ∀ j oj, ops[j]? = some oj → j ≠ i → listed.getD j true = false → (∀ e ∈ oj.after, Region.binds md e = true → e.on ≠ i) → oi.apart ops oj = true := fun listed hr j oj hj hji hun hno => by
      have h1 := List.all_eq_true.1 hfree j (List.mem_range.2 (Array.getElem?_eq_some_iff.1 hj).1)
      simp only [hj, Bool.or_eq_true, beq_iff_eq, hji, false_or] at h1
      rcases h1 with h1 | h1 | h1
      · obtain ⟨e, he, h2⟩ := Array.any_eq_true'.1 h1
        simp only [Bool.and_eq_true, beq_iff_eq] at h2
        obtain ⟨_, o, ho', hall⟩ := mem_ready.1 hr
        rw [ho] at ho'
        obtain rfl := Option.some.inj ho'
        have h3 := hall e he h2.1
        rw [h2.2, getD_both hun] at h3
        cases h3
      · obtain ⟨e, he, h2⟩ := Array.any_eq_true'.1 h1
        simp only [Bool.and_eq_true, beq_iff_eq] at h2
        exact absurd h2.2 (hno e he h2.1)
      · exact h1
    intro g
    induction g with
    | zero =>
      intro listed a w hun hh
      refine ⟨List.eq_nil_iff_forall_not_mem.2 fun j hj => ?_, hh.2⟩
      by_cases hjt : j = t
      · subst hjt
        have := W.ready_ne (Ne.symm hne) (hT listed hun hj)
        rw [hh.1] at this
        exact absurd this List.not_mem_nil
      · have := W.ready_ne hjt hj
        rw [hh.1] at this
        exact absurd this List.not_mem_nil
    | succ g ih =>
      intro listed a w hun hh
      by_cases hr : i ∈ Region.ready md ops listed
      · obtain ⟨v, hy, hk⟩ := move_yields hg' hop ho (W.wpOp (hh.2 i (W.ready_ne (Ne.symm hne) hr)))
        refine wpAny_first ho (Region.noSelect_spec hs) (fun c a w => hQ c a oi.dst v w) g listed a w (hF listed hr) hr hy ?_
        refine W.behind g _ _ _ ?_ hk
        have hlt : i < listed.size := by
          rcases Nat.lt_or_ge i listed.size with h' | h'
          · exact h'
          · rw [Array.getD_eq_getD_getElem?, Array.getElem?_eq_none h'] at hun; cases hun
        simp [hlt]
      · refine ⟨fun h0 => hh.1 (List.eq_nil_iff_forall_not_mem.2 fun j hj => ?_), fun j hj => ?_⟩
        · have := W.ready_of hj
          rw [h0] at this
          exact absurd this List.not_mem_nil
        · have hji : j ≠ i := fun he => hr (he ▸ hj)
          have hjt : j ≠ t := fun he => hr (hT listed hun (he ▸ hj))
          refine wpOp_mono (fun a' w' h' => ih _ a' w' ?_ h') (W.wpOp (hh.2 j (W.ready_ne hjt hj)))
          rw [getD_set_ne true hji]
          exact hun
theorem wp_region_moved {id : Nat} {Q : Exit → Act → World → Prop} {a : Act} {w : World} {l : List Oper} (t i : Nat) (l' : List Oper) (hl : l' = waitFor t i l) (n : Nat) (mask : List Bool) (late : List (Nat × (Value → World → Prop)))
    (hm : P.follows .mixedOrders = true)
    (hB : (Region.monoB .any l'.toArray n (idxM 0 mask) (late.map (·.1)) && decide (mask.length ≤ l.length) && floatM .any l.toArray t i && decide (t < l.length) && decide (i < l.length)) = true) (hT : ∀ p ∈ late, ∀ v, Stays (p.2 v))
    (hQ : ∀ c a d v w, Q (.panic c) (a.put d v) w → Q (.panic c) a w)
    (h : WSteady P l'.toArray w (fun a' => wpLates P l'.toArray w (fun a'' F => ∀ w', Mod [] w w' → F w' → wpList P l'.toArray Q (l'.drop n) a'' w') late a' (fun _ => True)) (pickM l' mask) a) :
    (Code.region id l.toArray true).wp P Q a w := by
  subst hl
  simp only [Bool.and_eq_true, decide_eq_true_eq] at hB
  obtain ⟨⟨⟨⟨hB, hmk⟩, hf⟩, ht⟩, hi⟩ := hB
  refine wp_region_any hm ?_
  have hW := wait_waits (i := i) (List.getElem?_eq_getElem ht)
  have hs : Region.noSelect l.toArray = true := by
    have h1 := hB
    simp only [Region.monoB, Bool.and_eq_true] at h1
    have h2 := h1.1.1.1.1.1.1.1.1
    unfold Region.noSelect at *
    rw [Array.all_eq_true_iff_forall_mem] at *
    intro o ho
    obtain ⟨j, hj⟩ := Array.getElem?_of_mem ho
    by_cases hjt : j = t
    · subst hjt
      have := h2 _ (Array.mem_of_getElem? hW.new)
      rw [hW.old] at hj
      obtain rfl := Option.some.inj hj
      exact this
    · exact h2 o (Array.mem_of_getElem? (by rw [hW.other j hjt]; exact hj))
  have H := wpAny_mono (P := P) (Q := Q) n (idxM 0 mask) late hB hT (steady_of_list mask 0 (waitFor t i l) a (by simp) (by rw [wait_length]; exact hmk) h.out)
  have e : (waitFor t i l).toArray.size = l.toArray.size := by simp [wait_length]
  rw [e] at H
  exact wpAny_floatM hW hf hs hQ _ _ _ _ (getD_in (by simpa using hi) (getD_replicate_false _ _)) H
end
end Go.Proofs.Ytaloembfekdkoaa
