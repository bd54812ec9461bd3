/- Regions that draw their order: a chain of calls that make memory, each knowing what holds of the earlier ones, with allocations anywhere between: one walk serves every order. Printed by gen_chain.py. -/
import Derived.Test.YtaloembfekdkoaaFloat
namespace Go.Proofs.Ytaloembfekdkoaa
open Go.RowKit
set_option linter.unusedVariables false
namespace Ch
section
variable {P : Program} {ops : Array Oper} {md : Region.Mode} {W : World} {L : Nat → Option (Value → World → Prop)}
def LateF (P : Program) (o : Oper) (a : Act) (W : World) (F : World → Prop) (T : Value → World → Prop) : Prop :=
  ∀ w, Mod [] W w → F w → o.wp P a w (fun a' w' => ∃ v, a' = a.put o.dst v ∧ Mod [] w w' ∧ T v w') (fun _ _ _ => False)
theorem LateF.weak {o : Oper} {a : Act} {F F' : World → Prop} {T : Value → World → Prop} (h : LateF P o a W F T) (hF : ∀ w, F' w → F w) : LateF P o a W F' T := fun w hw hf => h w hw (hF w hf)
theorem lateF_put {o : Oper} (hs : ∀ cs b, o.op ≠ .select cs b) {a : Act} {d : Option Tmp} {v : Value} {F : World → Prop} {T : Value → World → Prop} (h1 : ∀ t, d = some t → t ∉ o.looksAt ops) (h2 : ∀ t, d = some t → o.dst ≠ some t)
    (h : LateF P o (a.put d v) W F T) : LateF P o a W F T := by
  intro w hw hF
  have h3 := h w hw hF
  unfold Oper.wp at *
  rw [execOp_put o hs a d v h1] at h3
  have key : ∀ (x : Value) w', (∃ u, (a.put d v).put o.dst x = (a.put d v).put o.dst u ∧ Mod [] w w' ∧ T u w') → ∃ u, a.put o.dst x = a.put o.dst u ∧ Mod [] w w' ∧ T u w' := by
    rintro x w' ⟨u, e, m, t⟩
    refine ⟨u, ?_, m, t⟩
    rw [Act.put_comm a v x h2, Act.put_comm a v u h2] at e
    cases d with
    | none => exact e
    | some t =>
      cases ho : o.dst with
      | none => rfl
      | some s =>
        rw [ho] at e
        have hne : s ≠ t := fun hst => h2 t rfl (by rw [ho, hst])
        have e2 := congrArg Act.tmps e
        simp only [Act.put] at e2 ⊢
        have e3 : a.tmps.setIfInBounds s x = a.tmps.setIfInBounds s u := by
          apply Array.ext_getElem?
          intro k
          have := congrArg (fun z => z[k]?) e2
          by_cases hk : t = k
          · subst hk
            rw [Array.getElem?_setIfInBounds_ne hne, Array.getElem?_setIfInBounds_ne hne]
          · rwa [Array.getElem?_setIfInBounds_ne hk, Array.getElem?_setIfInBounds_ne hk] at this
        rw [e3]
  generalize (execOp a.eval o).run P w = r at *
  cases r with
  | ok n w' =>
    cases n <;> simp only [Oper.upon] at h3 ⊢
    case value u => exact key _ _ h3
    case skip => exact key _ _ h3
    case defer x =>
      obtain ⟨u, e, m, t⟩ := h3
      have e2 := congrArg Act.defers e
      exfalso
      have hl : ∀ (b : Act) (d : Option Tmp) (v : Value), (b.put d v).defers = b.defers := fun b d v => by cases d <;> rfl
      have e3 : x :: a.defers = a.defers := by simpa only [hl] using e2
      have := congrArg List.length e3
      simp at this
    case enter f args =>
      refine Calls.mono h3 fun e w'' he => ?_
      cases e with
      | returned u => exact key _ _ he
      | panicked c => exact he.elim
      | outgrown => obtain ⟨_, _, h⟩ := he; exact h.elim
    case row row args => exact Rows.mono h3 fun u w'' he => key _ _ he
  | halt x w' => cases x <;> simp only [Oper.upon] at h3
theorem lateF_put' {o : Oper} (hs : ∀ cs b, o.op ≠ .select cs b) {a : Act} {d : Option Tmp} {v : Value} {F : World → Prop} {T : Value → World → Prop} (h1 : ∀ t, d = some t → t ∉ o.looksAt ops) (h2 : ∀ t, d = some t → o.dst ≠ some t)
    (h : LateF P o a W F T) : LateF P o (a.put d v) W F T := by
  intro w hw hF
  have h3 := h w hw hF
  unfold Oper.wp at *
  rw [execOp_put o hs a d v h1]
  have key : ∀ (x : Value) w', (∃ u, a.put o.dst x = a.put o.dst u ∧ Mod [] w w' ∧ T u w') → ∃ u, (a.put d v).put o.dst x = (a.put d v).put o.dst u ∧ Mod [] w w' ∧ T u w' := by
    rintro x w' ⟨u, e, m, t⟩
    exact ⟨u, by rw [Act.put_comm a v x h2, Act.put_comm a v u h2, e], m, t⟩
  generalize (execOp a.eval o).run P w = r at *
  cases r with
  | ok n w' =>
    cases n <;> simp only [Oper.upon] at h3 ⊢
    case value u => exact key _ _ h3
    case skip => exact key _ _ h3
    case defer x =>
      obtain ⟨u, e, m, t⟩ := h3
      have e2 := congrArg Act.defers e
      exfalso
      have hl : ∀ (b : Act) (d : Option Tmp) (v : Value), (b.put d v).defers = b.defers := fun b d v => by cases d <;> rfl
      have e3 : x :: a.defers = a.defers := by simpa only [hl] using e2
      have := congrArg List.length e3
      simp at this
    case enter f args =>
      refine Calls.mono h3 fun e w'' he => ?_
      cases e with
      | returned u => exact key _ _ he
      | panicked c => exact he.elim
      | outgrown => obtain ⟨_, _, h⟩ := he; exact h.elim
    case row row args => exact Rows.mono h3 fun u w'' he => key _ _ he
  | halt x w' => cases x <;> simp only [Oper.upon] at h3
def mOp (P : Program) (ops : Array Oper) (W : World) (L : Nat → Option (Value → World → Prop)) (i : Nat) (K : Act → (World → Prop) → Prop) (a : Act) (F : World → Prop) : Prop :=
  match ops[i]?, L i with
  | some o, none => if Region.wanted o (yielded ops a.tmps) then ∃ v, Steady P o a W v ∧ K (a.put o.dst v) F else K (a.put o.dst undef) F
  | some o, some T => o.guard = none ∧ LateF P o a W F T ∧ ∀ v, K (a.put o.dst v) (fun w => F w ∧ T v w)
  | none, _ => False
def wpAnyM (P : Program) (md : Region.Mode) (ops : Array Oper) (W : World) (L : Nat → Option (Value → World → Prop)) (n : Nat) (Fin : Array Bool → Act → (World → Prop) → Prop) : Nat → Array Bool → Act → (World → Prop) → Prop
  | 0, listed, a, F => Fin listed a F
  | f + 1, listed, a, F => Region.ready md ops listed ≠ [] ∧ ∀ i ∈ Region.ready md ops listed, i < n ∧ mOp P ops W L i (wpAnyM P md ops W L n Fin f (listed.setIfInBounds i true)) a F
theorem wp_of_lateF {o : Oper} {a : Act} {F : World → Prop} {T : Value → World → Prop} {K : Act → World → Prop} {Q : Exit → Act → World → Prop} {w : World} (hw : Mod [] W w) (hF : F w) (h : LateF P o a W F T)
    (hK : ∀ v w', Mod [] w w' → T v w' → K (a.put o.dst v) w') : o.wp P a w K Q := by
  have h3 := h w hw hF
  unfold Oper.wp at *
  generalize (execOp a.eval o).run P w = r at *
  cases r with
  | ok n w' =>
    cases n <;> simp only [Oper.upon] at h3 ⊢
    case value u => obtain ⟨v, e, m, t⟩ := h3; rw [e]; exact hK _ _ m t
    case skip => obtain ⟨v, e, m, t⟩ := h3; rw [e]; exact hK _ _ m t
    case defer d => obtain ⟨v, e, m, t⟩ := h3; rw [e]; exact hK _ _ m t
    case enter f args =>
      refine Calls.mono h3 fun e w'' he => ?_
      cases e with
      | returned u =>
        obtain ⟨v, e, m, t⟩ := he
        show K (a.put o.dst u) w''
        rw [e]; exact hK _ _ m t
      | panicked c => exact he.elim
      | outgrown => obtain ⟨_, _, h⟩ := he; exact h.elim
    case row row args => exact Rows.mono h3 fun u w'' he => by obtain ⟨v, e, m, t⟩ := he; rw [e]; exact hK _ _ m t
  | halt x w' => cases x <;> simp only [Oper.upon] at h3
theorem wpOp_of_mOp {i : Nat} {a : Act} {F : World → Prop} {K : Act → (World → Prop) → Prop} {K' : Act → World → Prop} {Q : Exit → Act → World → Prop} {w : World}
    (hT : ∀ i T, L i = some T → ∀ v, Stays (T v)) (hs : Stays F) (hw : Mod [] W w) (hF : F w) (h : ∀ a F w', Mod [] W w' → Stays F → F w' → K a F → K' a w') (hh : mOp P ops W L i K a F) : wpOp P ops Q i K' a w := by
  unfold mOp at hh
  unfold wpOp
  split at hh
  · rename_i o ho hl
    simp only [ho]
    split
    · rename_i hwn; simp only [hwn, if_true] at hh
      obtain ⟨v, h1, h2⟩ := hh
      exact .inl (wp_of_steady hw h1 fun w' m => h _ _ _ (hw.then m) hs (hs _ _ hF m) h2)
    · rename_i hwn; simp only [hwn] at hh; exact h _ _ _ hw hs hF hh
  · rename_i o T ho hl
    obtain ⟨hg, h1, h2⟩ := hh
    simp only [ho, Region.wanted, hg, if_true]
    exact .inl (wp_of_lateF hw hF h1 fun v w' m t => h _ _ _ (hw.then m) (fun x y hx hm => ⟨hs _ _ hx.1 hm, hT i T hl v _ _ hx.2 hm⟩) ⟨hs _ _ hF m, t⟩ (h2 v))
  · exact hh.elim
theorem wpAny_of_M {n g : Nat} {Fin : Array Bool → Act → (World → Prop) → Prop} {Q : Exit → Act → World → Prop} (hT : ∀ i T, L i = some T → ∀ v, Stays (T v))
    (hFin : ∀ listed a F w, Mod [] W w → F w → Fin listed a F → wpAny P md ops Q g listed a w) :
    ∀ (f : Nat) (listed : Array Bool) (a : Act) (F : World → Prop) (w : World), Stays F → Mod [] W w → F w → wpAnyM P md ops W L n Fin f listed a F → wpAny P md ops Q (f + g) listed a w
  | 0, listed, a, F, w, _, hw, hF, h => by rw [Nat.zero_add]; exact hFin _ _ _ _ hw hF h
  | f + 1, listed, a, F, w, hs, hw, hF, h => by
    rw [show f + 1 + g = (f + g) + 1 by omega]
    exact ⟨fun h0 => absurd h0 h.1, fun i hi => wpOp_of_mOp hT hs hw hF (fun a' F' w' hw' hs' hF' h' => wpAny_of_M hT hFin f _ a' F' w' hs' hw' hF' h') (h.2 i hi).2⟩
theorem YieldsS_mOp {i : Nat} {o : Oper} {v : Value} {a : Act} {F : World → Prop} (hi : ops[i]? = some o) (hl : L i = none) (hy : YieldsS P ops W o v a) {K : Act → (World → Prop) → Prop} (h : K (a.put o.dst v) F) : mOp P ops W L i K a F := by
  unfold mOp
  simp only [hi, hl]
  rcases hy with ⟨hw, hv⟩ | ⟨hw, rfl⟩
  · simp only [hw, if_true]; exact ⟨v, hv, h⟩
  · simp only [hw, Bool.false_eq_true, if_false]; exact h
theorem mOp_put {j : Nat} {oi oj : Oper} {v : Value} (hj : ops[j]? = some oj) (hap : oi.apart ops oj = true)
    (hsi : ∀ cs b, oi.op ≠ .select cs b) (hsj : ∀ cs b, oj.op ≠ .select cs b) {K : Act → (World → Prop) → Prop} {a : Act} {F : World → Prop}
    (hy : YieldsS P ops W oi v a) (h : mOp P ops W L j K (a.put oi.dst v) F) :
    mOp P ops W L j (fun a' F' => YieldsS P ops W oi v a' ∧ K (a'.put oi.dst v) F') a F := by
  obtain ⟨h1, h2, h3⟩ := Oper.apart_spec hap
  have h2' : ∀ d, oj.dst = some d → oi.dst ≠ some d := fun d hd hi' => h2 d hi' hd
  have keep : ∀ (a : Act), YieldsS P ops W oi v a → ∀ u, YieldsS P ops W oi v (a.put oj.dst u) := fun a hy u => by
    unfold YieldsS at *
    rw [wanted_put oi a oj.dst u h3]
    exact hy.imp (fun hh => ⟨hh.1, late_put' hsi h3 h2' hh.2⟩) id
  unfold mOp at *
  cases hl : L j with
  | none =>
    simp only [hj, hl] at h ⊢
    rw [wanted_put oj a oi.dst v h1] at h
    split
    · rename_i hw
      simp only [hw, if_true] at h
      obtain ⟨u, hu, hn⟩ := h
      exact ⟨u, late_put hsj h1 h2 hu, keep a hy u, by rw [← Act.put_comm a v u h2]; exact hn⟩
    · rename_i hw
      simp only [hw] at h
      exact ⟨keep a hy _, by rw [← Act.put_comm a v undef h2]; exact h⟩
  | some T =>
    simp only [hj, hl] at h ⊢
    exact ⟨h.1, lateF_put hsj h1 h2 h.2.1, fun u => ⟨keep a hy u, by rw [← Act.put_comm a v u h2]; exact h.2.2 u⟩⟩
theorem mOp_same {j : Nat} {a : Act} {F : World → Prop} {K K' : Act → (World → Prop) → Prop} (h : ∀ a F, K a F → K' a F) (hh : mOp P ops W L j K a F) : mOp P ops W L j K' a F := by
  unfold mOp at *
  split
  · rename_i o ho hl
    simp only [ho, hl] at hh
    split
    · rename_i hw; simp only [hw, if_true] at hh; obtain ⟨v, h1, h2⟩ := hh; exact ⟨v, h1, h _ _ h2⟩
    · rename_i hw; simp only [hw] at hh; exact h _ _ hh
  · rename_i o T ho hl
    simp only [ho, hl] at hh
    exact ⟨hh.1, hh.2.1, fun v => h _ _ (hh.2.2 v)⟩
  · rename_i ho
    simp only [ho] at hh
theorem wpAnyM_first {n i : Nat} {oi : Oper} {v : Value} {Fin : Array Bool → Act → (World → Prop) → Prop} (hi : ops[i]? = some oi) (hl : L i = none) (hsel : ∀ (j : Nat) (o : Oper) cs b, ops[j]? = some o → o.op ≠ .select cs b)
    (ht : Region.tailB md ops n = true) (hin : i < n) (hdone : ∀ listed a F, Fin listed a F → ∀ j ∈ Region.ready md ops listed, n ≤ j) :
    ∀ (f : Nat) (listed : Array Bool) (a : Act) (F : World → Prop), HeadInv md ops n listed →
      (∀ j oj, ops[j]? = some oj → j ≠ i → listed.getD j true = false → (∀ e ∈ oj.after, Region.binds md e = true → e.on ≠ i) → oi.apart ops oj = true) →
      i ∈ Region.ready md ops listed → YieldsS P ops W oi v a →
      wpAnyM P md ops W L n Fin f (listed.setIfInBounds i true) (a.put oi.dst v) F → wpAnyM P md ops W L n Fin (f + 1) listed a F := by
  intro f
  induction f with
  | zero =>
    intro listed a F inv _ hr hy H
    have hun := (mem_ready.1 hr).1
    refine ⟨fun h => (by rw [h] at hr; cases hr), fun j hj => ?_⟩
    have hjn := ready_lt ht inv hin hun hj
    refine ⟨hjn, ?_⟩
    by_cases hji : j = i
    · subst hji; exact YieldsS_mOp hi hl hy H
    · have := hdone _ _ _ H j (ready_mono hj hji)
      omega
  | succ f ih =>
    intro listed a F inv hfree hr hy H
    have hun := (mem_ready.1 hr).1
    refine ⟨fun h => (by rw [h] at hr; cases hr), fun j hj => ?_⟩
    have hjn := ready_lt ht inv hin hun hj
    refine ⟨hjn, ?_⟩
    by_cases hji : j = i
    · subst hji; exact YieldsS_mOp hi hl hy H
    · have h1 := (H.2 j (ready_mono hj hji)).2
      obtain ⟨hjun, oj, hoj, hall⟩ := mem_ready.1 hj
      have hnot : ∀ e ∈ oj.after, Region.binds md e = true → e.on ≠ i := fun e he hb heq => by
        have h1 := hall e he hb
        rw [heq, getD_both hun] at h1
        cases h1
      have h2 := mOp_put hoj (hfree j oj hoj hji hjun hnot) (fun cs b => hsel i oi cs b hi) (fun cs b => hsel j oj cs b hoj) hy h1
      have hfree' : ∀ k ok, ops[k]? = some ok → k ≠ i → (listed.setIfInBounds j true).getD k true = false →
          (∀ e ∈ ok.after, Region.binds md e = true → e.on ≠ i) → oi.apart ops ok = true := fun k ok hk hki hun hno => by
        refine hfree k ok hk hki ?_ hno
        by_cases hjk : j = k
        · subst hjk; exact hjun
        · rw [getD_set_ne true hjk] at hun; exact hun
      refine mOp_same (fun a' F' h3 => ih (listed.setIfInBounds j true) a' F' (inv.set hj hjn) hfree' (ready_mono hr (Ne.symm hji)) h3.1 ?_) h2
      rw [Array.setIfInBounds_comm _ _ hji]
      exact h3.2
theorem wpAnyM_ord {n m : Nat} {late : List Nat} {Fin : Array Bool → Act → (World → Prop) → Prop} {F : World → Prop} {K : Act → Prop} (hsel : Region.noSelect ops = true)
    (ht : Region.tailB md ops n = true) (hdone : ∀ listed a F, Fin listed a F → ∀ j ∈ Region.ready md ops listed, n ≤ j) (hL : ∀ i, late.contains i = false → L i = none)
    (hK : ∀ a listed, HeadInv md ops n listed → Region.ordB md ops n late [] listed = true → K a → wpAnyM P md ops W L n Fin m listed a F) :
    ∀ (l : List Nat) (listed : Array Bool) (a : Act), HeadInv md ops n listed → Region.ordB md ops n late l listed = true → wpSteady P ops W K l a →
      wpAnyM P md ops W L n Fin (l.length + m) listed a F
  | [], listed, a, inv, hB, h => by rw [List.length_nil, Nat.zero_add]; exact hK _ _ inv hB h
  | i :: l, listed, a, inv, hB, h => by
    simp only [Region.ordB, Bool.and_eq_true, decide_eq_true_eq, Bool.not_eq_true'] at hB
    obtain ⟨⟨⟨⟨hin, hnl⟩, hr⟩, hf⟩, hB'⟩ := hB
    have hr' : i ∈ Region.ready md ops listed := by simpa using hr
    unfold wpSteady at h
    cases ho : ops[i]? with
    | none => simp only [ho] at h
    | some o =>
      simp only [ho] at h
      obtain ⟨v, hy, hk⟩ : ∃ v, YieldsS P ops W o v a ∧ wpSteady P ops W K l (a.put o.dst v) := by
        by_cases hw : Region.wanted o (yielded ops a.tmps) = true
        · simp only [hw, if_true] at h
          obtain ⟨v, h1, h2⟩ := h
          exact ⟨v, .inl ⟨hw, h1⟩, h2⟩
        · simp only [hw] at h
          exact ⟨undef, .inr ⟨by simpa using hw, rfl⟩, h⟩
      rw [List.length_cons, show l.length + 1 + m = (l.length + m) + 1 by omega]
      exact wpAnyM_first ho (hL i hnl) (Region.noSelect_spec hsel) ht hin hdone (l.length + m) listed a F inv (Region.free_spec ho hf) hr' hy
        (wpAnyM_ord hsel ht hdone hL hK l _ _ (inv.set hr' hin) hB' hk)
def wpChain (P : Program) (ops : Array Oper) (W : World) (E : Act → (World → Prop) → Prop) : List (Nat × (Value → World → Prop)) → Act → (World → Prop) → Prop
  | [], a, F => E a F
  | p :: l, a, F => match ops[p.1]? with
    | none => False
    | some o => o.guard = none ∧ LateF P o a W F p.2 ∧ ∀ v, wpChain P ops W E l (a.put o.dst v) (fun w => F w ∧ p.2 v w)
theorem wpChain_mono {E E' : Act → (World → Prop) → Prop} (hE : ∀ a F F', (∀ w, F' w → F w) → E a F → E' a F') : ∀ (l : List (Nat × (Value → World → Prop))) (a : Act) (F F' : World → Prop), (∀ w, F' w → F w) → wpChain P ops W E l a F → wpChain P ops W E' l a F'
  | [], _, _, _, hF, h => hE _ _ _ hF h
  | p :: l, a, F, F', hF, h => by
    unfold wpChain at *
    split
    · rename_i ho; simp only [ho] at h
    · rename_i o ho
      simp only [ho] at h
      exact ⟨h.1, h.2.1.weak hF, fun v => wpChain_mono hE l _ _ _ (fun w hw => ⟨hF w hw.1, hw.2⟩) (h.2.2 v)⟩
def chainC (md : Region.Mode) (ops : Array Oper) : List Nat → Bool
  | i :: j :: l => (match ops[j]? with | some o => o.after.any fun e => Region.binds md e && e.on == i | none => false) && chainC md ops (j :: l)
  | _ => true
def apartC (ops : Array Oper) (c late : List Nat) : Bool := c.all fun i => late.all fun j => match ops[i]?, ops[j]? with | some x, some y => x.apart ops y | _, _ => false
theorem chain_take {E : Act → (World → Prop) → Prop} (hE : ∀ a F F', (∀ w, F' w → F w) → E a F → E a F') (hsel : ∀ (j : Nat) (o : Oper) cs b, ops[j]? = some o → o.op ≠ .select cs b) {i : Nat} {T : Value → World → Prop}
    (la : List (Nat × (Value → World → Prop))) (hap : lateApart ops (la.map (·.1)) = true) (hm : (i, T) ∈ la) :
    ∀ (l : List (Nat × (Value → World → Prop))) (a : Act) (F : World → Prop), (∀ p ∈ l, ∃ x y, ops[p.1]? = some x ∧ ops[i]? = some y ∧ x.apart ops y = true) → wpChain P ops W (wpLates P ops W E la) l a F →
      ∃ o, ops[i]? = some o ∧ o.guard = none ∧ Late P o a W T ∧ ∀ v, wpChain P ops W (wpLates P ops W E (la.filter fun p => p.1 != i)) l (a.put o.dst v) (fun w => F w ∧ T v w)
  | [], a, F, _, h => wpLates_take hE hsel la a F hap hm h
  | p :: l, a, F, hall, h => by
    unfold wpChain at h
    cases ho : ops[p.1]? with
    | none => simp only [ho] at h
    | some o =>
      simp only [ho] at h
      obtain ⟨hg, hla, hK⟩ := h
      obtain ⟨x, y, hx, hy, hxy⟩ := hall p (by simp)
      rw [ho] at hx
      cases hx
      obtain ⟨h1, h2, h3⟩ := Oper.apart_spec hxy
      have h2' : ∀ d, y.dst = some d → o.dst ≠ some d := fun d hd ho' => h2 d ho' hd
      have ih := fun u => chain_take hE hsel la hap hm l (a.put o.dst u) _ (fun q hq => hall q (List.mem_cons_of_mem _ hq)) (hK u)
      obtain ⟨o', ho', hg', hl', _⟩ := ih undef
      rw [hy] at ho'
      cases ho'
      refine ⟨y, hy, hg', late_put (hsel i y · · hy) h1 h2 hl', fun v => ?_⟩
      unfold wpChain
      simp only [ho]
      refine ⟨hg, (lateF_put' (hsel p.1 o · · ho) h3 h2' hla).weak (fun w hw => hw.1), fun u => ?_⟩
      obtain ⟨o', ho', _, _, hk⟩ := ih u
      rw [hy] at ho'
      cases ho'
      rw [Act.put_comm a v u h2']
      exact wpChain_mono (E := wpLates P ops W E (la.filter fun p => p.1 != i)) (E' := wpLates P ops W E (la.filter fun p => p.1 != i)) (fun a F F' hF h => wpLates_mono hE (la.filter fun p => p.1 != i) a F F' hF h) l _ (fun w => (F w ∧ p.2 u w) ∧ T v w) (fun w => (F w ∧ T v w) ∧ p.2 u w) (fun w hw => ⟨⟨hw.1.1, hw.2⟩, hw.1.2⟩) (hk v)
theorem chain_head {listed : Array Bool} : ∀ (l : List Nat) (i : Nat), chainC md ops (i :: l) = true → (∀ k ∈ i :: l, listed.getD k true = false) → ∀ j ∈ l, j ∉ Region.ready md ops listed
  | [], _, _, _, j, hj => by cases hj
  | k :: l, i, hc, hun, j, hj => by
    simp only [chainC, Bool.and_eq_true] at hc
    rcases List.mem_cons.1 hj with rfl | hj'
    · intro hr
      obtain ⟨_, o, ho, hall⟩ := mem_ready.1 hr
      have h1 := hc.1
      rw [ho] at h1
      obtain ⟨e, he, h2⟩ := Array.any_eq_true'.1 h1
      simp only [Bool.and_eq_true, beq_iff_eq] at h2
      have h3 := hall e he h2.1
      rw [h2.2, getD_both (hun i (by simp))] at h3
      cases h3
    · exact chain_head l k hc.2 (fun q hq => hun q (List.mem_cons_of_mem _ hq)) j hj'
theorem wpAnyM_chain {n g : Nat} {E : Act → (World → Prop) → Prop} (hE : ∀ a F F', (∀ w, F' w → F w) → E a F → E a F') (hsel : ∀ (j : Nat) (o : Oper) cs b, ops[j]? = some o → o.op ≠ .select cs b)
    (ht : Region.tailB md ops n = true) (hd : Region.downB md ops = true) (hn : n ≤ ops.size) (hseq : Region.seqB md ops g n (Region.canon ops n) = true) :
    ∀ (m : Nat) (lc l : List (Nat × (Value → World → Prop))) (listed : Array Bool) (a : Act) (F : World → Prop), lc.length + l.length = m → HeadInv md ops n listed → lateApart ops (l.map (·.1)) = true →
      chainC md ops (lc.map (·.1)) = true → (∀ p ∈ lc, ∀ q ∈ l, ∃ x y, ops[p.1]? = some x ∧ ops[q.1]? = some y ∧ x.apart ops y = true) → (lc.map (·.1)).Nodup → (∀ p ∈ lc, p.1 ∉ l.map (·.1)) →
      (∀ p ∈ lc, L p.1 = some p.2) → (∀ p ∈ l, L p.1 = some p.2) → (∀ i, i < n → (listed.getD i true = false ↔ (i ∈ lc.map (·.1) ∨ i ∈ l.map (·.1)))) → (∀ p ∈ lc, p.1 < n) → (∀ p ∈ l, p.1 < n) →
      wpChain P ops W (wpLates P ops W E l) lc a F →
      wpAnyM P md ops W L n (fun listed' a' F' => Region.seqB md ops g n listed' = true ∧ E a' F') m listed a F := by
  intro m
  induction m with
  | zero =>
    intro lc l listed a F hlen inv _ _ _ _ _ _ _ hun _ _ h
    obtain rfl := List.length_eq_zero_iff.1 (show lc.length = 0 by omega)
    obtain rfl := List.length_eq_zero_iff.1 (show l.length = 0 by omega)
    refine ⟨?_, h⟩
    have : listed = Region.canon ops n := by
      refine Array.ext (by simp [Region.canon, inv.size]) fun i hi hi' => ?_
      simp only [Region.canon, List.getElem_toArray, List.getElem_map, List.getElem_range]
      by_cases hin : i < n
      · have := (hun i hin).1
        simp [hi] at this
        simp [this, hin]
      · have h2 := inv.tail i (by omega) (by rw [← inv.size]; exact hi)
        simp [hi] at h2
        simp [h2, hin]
    rw [this]; exact hseq
  | succ m ih =>
    intro lc l listed a F hlen inv hap hcc hac hnd hdj hLc hL hun hltc hlt h
    obtain ⟨i0, hi0, hi0u⟩ : ∃ i, i < n ∧ listed.getD i true = false := by
      cases lc with
      | cons p lc => exact ⟨p.1, hltc p (by simp), (hun p.1 (hltc p (by simp))).2 (.inl (by simp))⟩
      | nil =>
        cases l with
        | cons p l => exact ⟨p.1, hlt p (by simp), (hun p.1 (hlt p (by simp))).2 (.inr (by simp))⟩
        | nil => simp at hlen
    refine ⟨ready_some hd i0 (by omega) hi0u, fun j hj => ?_⟩
    have hjn := ready_lt ht inv hi0 hi0u hj
    refine ⟨hjn, ?_⟩
    have hsz : j < listed.size := by rw [inv.size]; omega
    rcases (hun j hjn).1 (mem_ready.1 hj).1 with hjl | hjl
    · cases lc with
      | nil => simp at hjl
      | cons p lc =>
        have hjp : j = p.1 := by
          rcases List.mem_cons.1 (by simpa using hjl : j ∈ p.1 :: lc.map (·.1)) with h1 | h1
          · exact h1
          · exact absurd hj (chain_head (lc.map (·.1)) p.1 (by simpa using hcc) (fun k hk => (hun k (by
              obtain ⟨q, hq, rfl⟩ := List.mem_map.1 (by simpa using hk : k ∈ (p :: lc).map (·.1))
              exact hltc q hq)).2 (.inl (by simpa using hk))) j h1)
        subst hjp
        unfold wpChain at h
        cases ho : ops[p.1]? with
        | none => simp only [ho] at h
        | some o =>
          simp only [ho] at h
          unfold mOp
          simp only [ho, hLc p (by simp)]
          have hnd' := List.nodup_cons.1 (by simpa using hnd : (p.1 :: lc.map (·.1)).Nodup)
          refine ⟨h.1, h.2.1, fun v => ih lc l _ _ _ (by simp at hlen; omega) (inv.set hj hjn) hap ?_ (fun q hq => hac q (List.mem_cons_of_mem _ hq)) hnd'.2 (fun q hq => hdj q (List.mem_cons_of_mem _ hq)) (fun q hq => hLc q (List.mem_cons_of_mem _ hq)) hL ?_ (fun q hq => hltc q (List.mem_cons_of_mem _ hq)) hlt (h.2.2 v)⟩
          · cases lc with
            | nil => rfl
            | cons q lc => simp only [List.map_cons, chainC, Bool.and_eq_true] at hcc ⊢; exact hcc.2
          · intro i hin
            by_cases hij : p.1 = i
            · subst hij
              have h1 := hdj p (by simp)
              constructor
              · intro h2; simp [hsz] at h2
              · rintro (h2 | h2)
                · exact absurd h2 hnd'.1
                · exact absurd h2 h1
            · rw [getD_set_ne true hij, hun i hin]
              simp only [List.map_cons, List.mem_cons]
              constructor
              · rintro ((h2 | h2) | h2)
                · exact absurd h2.symm hij
                · exact .inl h2
                · exact .inr h2
              · rintro (h2 | h2)
                · exact .inl (.inr h2)
                · exact .inr h2
    · obtain ⟨⟨j', T⟩, hp, hpj⟩ := List.mem_map.1 hjl
      simp only at hpj
      subst hpj
      obtain ⟨o, ho, hg, hla, hk⟩ := chain_take hE hsel l hap hp lc a F (fun p hpc => hac p hpc _ hp) h
      unfold mOp
      have hLj : L j' = some T := hL _ hp
      simp only [ho, hLj]
      refine ⟨hg, fun w hw _ => hla w hw, fun v => ih lc _ _ _ _ ?_ (inv.set hj hjn) ?_ hcc ?_ hnd ?_ hLc ?_ ?_ hltc ?_ (hk v)⟩
      · have := length_filter_ne l j' (lateApart_nodup hap) hjl
        omega
      · exact lateApart_filter _ hap
      · exact fun p hp q hq => hac p hp q (List.mem_filter.1 hq).1
      · intro p hpc h1
        obtain ⟨q, hq, h2⟩ := List.mem_map.1 h1
        exact hdj p hpc (List.mem_map.2 ⟨q, (List.mem_filter.1 hq).1, h2⟩)
      · exact fun p hp => hL p (List.mem_filter.1 hp).1
      · intro i hin
        by_cases hij : j' = i
        · subst hij
          constructor
          · intro h2; simp [hsz] at h2
          · rintro (h2 | h2)
            · obtain ⟨q, hq, h3⟩ := List.mem_map.1 h2
              exact absurd (h3 ▸ hjl) (hdj q hq)
            · obtain ⟨q, hq, h3⟩ := List.mem_map.1 h2
              have h4 := (List.mem_filter.1 hq).2
              rw [h3] at h4
              simp at h4
        · rw [getD_set_ne true hij, hun i hin]
          simp only [List.mem_map, List.mem_filter, bne_iff_ne, ne_eq]
          constructor
          · rintro (h2 | ⟨q, hq, rfl⟩)
            · exact .inl h2
            · exact .inr ⟨q, ⟨hq, fun h => hij h.symm⟩, rfl⟩
          · rintro (h2 | ⟨q, ⟨hq, _⟩, rfl⟩)
            · exact .inl h2
            · exact .inr ⟨q, hq, rfl⟩
      · exact fun p hp => hlt p (List.mem_filter.1 hp).1
theorem wpSteady_mono {K K' : Act → Prop} (h : ∀ a, K a → K' a) : ∀ (l : List Nat) (a : Act), wpSteady P ops W K l a → wpSteady P ops W K' l a
  | [], a, hh => h a hh
  | i :: l, a, hh => by
    unfold wpSteady at *
    split
    · rename_i ho; simp only [ho] at hh
    · rename_i o ho
      simp only [ho] at hh
      split
      · rename_i hw; simp only [hw, if_true] at hh; obtain ⟨v, h1, h2⟩ := hh; exact ⟨v, h1, wpSteady_mono h l _ h2⟩
      · rename_i hw; simp only [hw] at hh; exact wpSteady_mono h l _ hh
theorem ready_below (hd : Region.downB md ops = true) {listed : Array Bool} : ∀ (i : Nat), i < ops.size → listed.getD i true = false → ∃ j, j ∈ Region.ready md ops listed ∧ j ≤ i := by
  intro i
  induction i using Nat.strongRecOn with
  | _ i ih =>
    intro hi hun
    by_cases hex : ∃ j, j < i ∧ listed.getD j true = false
    · obtain ⟨j, hj, hjun⟩ := hex
      obtain ⟨k, hk, hkj⟩ := ih j hj (by omega) hjun
      exact ⟨k, hk, by omega⟩
    · refine ⟨i, mem_ready.2 ⟨hun, ops[i], by simp [hi], fun e he hb => ?_⟩, Nat.le_refl _⟩
      have h1 := List.all_eq_true.1 hd i (List.mem_range.2 hi)
      simp only [hi, getElem?_pos] at h1
      have h2 := Array.all_eq_true_iff_forall_mem.1 h1 e he
      simp only [hb, Bool.not_true, Bool.false_or, decide_eq_true_eq] at h2
      cases hl : listed.getD e.on false with
      | true => rfl
      | false =>
        have hsz : e.on < listed.size := by
          rcases Nat.lt_or_ge i listed.size with h | h
          · omega
          · simp [Array.getElem?_eq_none h] at hun
        exact absurd ⟨e.on, h2, getD_in hsz hl⟩ hex
def dval (ops : Array Oper) (a : Act) (i : Nat) : Option Value := ((ops[i]?).bind (·.dst)).bind (a.tmps[·]?)
structure Inv (ops : Array Oper) (A : List Nat) (listed : Array Bool) (a : Act) (w : World) : Prop where
  is : ∀ i ∈ A, listed.getD i true = true → ∃ b, dval ops a i = some (.pointer (some ⟨b, 0, none⟩)) ∧ b < w.heap.size
  apart : ∀ i ∈ A, ∀ j ∈ A, i ≠ j → listed.getD i true = true → listed.getD j true = true → dval ops a i ≠ dval ops a j
def slotsB (ops : Array Oper) (A : List Nat) (size : Nat) : Bool := A.all fun i => match ops[i]? with
  | some o => (match o.dst with | some d => decide (d < size) && (List.range ops.size).all (fun j => j == i || match ops[j]? with | some p => p.dst != some d | none => true) | none => false)
  | none => false
def IsAlloc (P : Program) (o : Oper) : Prop := ∃ cs t, ∀ ρ w, (execOp ρ o).run P w = .ok (.value (.pointer (some ⟨w.heap.size, 0, none⟩))) (w.alloc (.cells cs t))
theorem slots_get {A : List Nat} {size i : Nat} (h : slotsB ops A size = true) (hi : i ∈ A) : ∃ o d, ops[i]? = some o ∧ o.dst = some d ∧ d < size ∧ ∀ j p, ops[j]? = some p → j ≠ i → p.dst ≠ some d := by
  have h1 := List.all_eq_true.1 h i hi
  cases ho : ops[i]? with
  | none => rw [ho] at h1; cases h1
  | some o =>
    rw [ho] at h1
    simp only at h1
    cases hd : o.dst with
    | none => rw [hd] at h1; cases h1
    | some d =>
      rw [hd] at h1
      simp only [Bool.and_eq_true, decide_eq_true_eq] at h1
      refine ⟨o, d, rfl, hd, h1.1, fun j p hj hji => ?_⟩
      have h2 := List.all_eq_true.1 h1.2 j (List.mem_range.2 (Array.getElem?_eq_some_iff.1 hj).1)
      simp only [hj, Bool.or_eq_true, beq_iff_eq, hji, false_or] at h2
      simpa using h2
theorem put_size (a : Act) (d : Option Tmp) (v : Value) : (a.put d v).tmps.size = a.tmps.size := by cases d <;> simp [Act.put]
theorem dval_put {A : List Nat} {size i j : Nat} {o : Oper} (h : slotsB ops A size = true) (hi : i ∈ A) (hj : ops[j]? = some o) (hji : j ≠ i) (a : Act) (v : Value) : dval ops (a.put o.dst v) i = dval ops a i := by
  obtain ⟨o', d, ho', hd, _, hall⟩ := slots_get h hi
  have h1 := hall j o hj hji
  unfold dval
  rw [ho']
  simp only [Option.bind_some, hd]
  cases ho : o.dst with
  | none => rfl
  | some e =>
    have : e ≠ d := fun he => h1 (by rw [ho, he])
    simp [Act.put, Array.getElem?_setIfInBounds_ne this]
theorem dval_self {A : List Nat} {i : Nat} {o : Oper} {a : Act} (h : slotsB ops A a.tmps.size = true) (hi : i ∈ A) (ho : ops[i]? = some o) (v : Value) : dval ops (a.put o.dst v) i = some v := by
  obtain ⟨o', d, ho', hd, hs, _⟩ := slots_get h hi
  rw [ho] at ho'
  obtain rfl := Option.some.inj ho'
  unfold dval
  rw [ho]
  simp [Act.put, hd, hs]
theorem Inv.step {A : List Nat} {size j : Nat} {listed : Array Bool} {a : Act} {w w' : World} {o : Oper} (I : Inv ops A listed a w) (h : slotsB ops A size = true) (hj : ops[j]? = some o) (hjA : j ∉ A) (v : Value) (hs : w.heap.size ≤ w'.heap.size) :
    Inv ops A (listed.setIfInBounds j true) (a.put o.dst v) w' := by
  have hne : ∀ i ∈ A, j ≠ i := fun i hi he => hjA (he ▸ hi)
  refine ⟨fun i hi hl => ?_, fun i hi k hk hik hl hl' => ?_⟩
  · rw [getD_set_ne true (hne i hi)] at hl
    rw [dval_put h hi hj (hne i hi)]
    obtain ⟨b, h1, h2⟩ := I.is i hi hl
    exact ⟨b, h1, by omega⟩
  · rw [getD_set_ne true (hne i hi)] at hl
    rw [getD_set_ne true (hne k hk)] at hl'
    rw [dval_put h hi hj (hne i hi), dval_put h hk hj (hne k hk)]
    exact I.apart i hi k hk hik hl hl'
theorem Inv.alloc {A : List Nat} {j : Nat} {listed : Array Bool} {a : Act} {w : World} {o : Oper} (I : Inv ops A listed a w) (h : slotsB ops A a.tmps.size = true) (hj : ops[j]? = some o) (hjA : j ∈ A) (ob : Obj) :
    Inv ops A (listed.setIfInBounds j true) (a.put o.dst (.pointer (some ⟨w.heap.size, 0, none⟩))) (w.alloc ob) := by
  have hsz : (w.alloc ob).heap.size = w.heap.size + 1 := by simp
  have key : ∀ i ∈ A, i ≠ j → (listed.setIfInBounds j true).getD i true = true → ∃ b, dval ops (a.put o.dst (.pointer (some ⟨w.heap.size, 0, none⟩))) i = some (.pointer (some ⟨b, 0, none⟩)) ∧ b < w.heap.size := fun i hi hij hl => by
    rw [getD_set_ne true (Ne.symm hij)] at hl
    rw [dval_put h hi hj (Ne.symm hij)]
    exact I.is i hi hl
  refine ⟨fun i hi hl => ?_, fun i hi k hk hik hl hl' => ?_⟩
  · by_cases hij : i = j
    · subst hij; exact ⟨w.heap.size, dval_self h hi hj _, by omega⟩
    · obtain ⟨b, h1, h2⟩ := key i hi hij hl; exact ⟨b, h1, by omega⟩
  · by_cases hij : i = j
    · subst hij
      obtain ⟨b, h1, h2⟩ := key k hk (Ne.symm hik) hl'
      rw [dval_self h hi hj, h1]
      intro he
      have := Option.some.inj he
      simp at this
      try omega
    · by_cases hkj : k = j
      · subst hkj
        obtain ⟨b, h1, h2⟩ := key i hi hij hl
        rw [dval_self h hk hj, h1]
        intro he
        have := Option.some.inj he
        simp at this
        try omega
      · rw [getD_set_ne true (Ne.symm hij)] at hl
        rw [getD_set_ne true (Ne.symm hkj)] at hl'
        rw [dval_put h hi hj (Ne.symm hij), dval_put h hk hj (Ne.symm hkj)]
        exact I.apart i hi k hk hik hl hl'
theorem wpOp_of_mOpA {i : Nat} {a : Act} {F : World → Prop} {K : Act → (World → Prop) → Prop} {K' : Act → World → Prop} {Q : Exit → Act → World → Prop} {w : World} {A : List Nat} {listed : Array Bool}
    (hT : ∀ i T, L i = some T → ∀ v, Stays (T v)) (hAl : ∀ j ∈ A, (∃ T, L j = some T) ∧ ∀ o, ops[j]? = some o → IsAlloc P o) (hsl : slotsB ops A a.tmps.size = true) (I : Inv ops A listed a w) (hs : Stays F) (hw : Mod [] W w) (hF : F w)
    (h : ∀ a' F w', a'.tmps.size = a.tmps.size → Inv ops A (listed.setIfInBounds i true) a' w' → Mod [] W w' → Stays F → F w' → K a' F → K' a' w') (hh : mOp P ops W L i K a F) : wpOp P ops Q i K' a w := by
  unfold mOp at hh
  unfold wpOp
  split at hh
  · rename_i o ho hl
    have hiA : i ∉ A := fun hi => by obtain ⟨⟨T, hT'⟩, _⟩ := hAl i hi; rw [hl] at hT'; cases hT'
    simp only [ho]
    split
    · rename_i hwn; simp only [hwn, if_true] at hh
      obtain ⟨v, h1, h2⟩ := hh
      exact .inl (wp_of_steady hw h1 fun w' m => h _ _ _ (put_size _ _ _) (I.step hsl ho hiA v m.size) (hw.then m) hs (hs _ _ hF m) h2)
    · rename_i hwn; simp only [hwn] at hh; exact h _ _ _ (put_size _ _ _) (I.step hsl ho hiA _ (Nat.le_refl _)) hw hs hF hh
  · rename_i o T ho hl
    obtain ⟨hg, h1, h2⟩ := hh
    simp only [ho, Region.wanted, hg, if_true]
    left
    by_cases hiA : i ∈ A
    · obtain ⟨cs, t, hr⟩ := (hAl i hiA).2 o ho
      have h3 := h1 w hw hF
      unfold Oper.wp at *
      rw [hr] at h3 ⊢
      simp only [Oper.upon] at h3 ⊢
      obtain ⟨v, e, m, t'⟩ := h3
      refine h _ (fun w => F w ∧ T v w) _ (put_size _ _ _) (I.alloc hsl ho hiA _) (hw.then m) (fun x y hx hm => ⟨hs _ _ hx.1 hm, hT i T hl v _ _ hx.2 hm⟩) ⟨hs _ _ hF m, t'⟩ ?_
      rw [e]
      exact h2 v
    · exact wp_of_lateF hw hF h1 fun v w' m t => h _ (fun w => F w ∧ T v w) _ (put_size _ _ _) (I.step hsl ho hiA v m.size) (hw.then m) (fun x y hx hm => ⟨hs _ _ hx.1 hm, hT i T hl v _ _ hx.2 hm⟩) ⟨hs _ _ hF m, t⟩ (h2 v)
  · exact hh.elim
theorem wpAny_of_MA {n g : Nat} {Fin : Array Bool → Act → (World → Prop) → Prop} {Q : Exit → Act → World → Prop} {A : List Nat} (hT : ∀ i T, L i = some T → ∀ v, Stays (T v)) (hAl : ∀ j ∈ A, (∃ T, L j = some T) ∧ ∀ o, ops[j]? = some o → IsAlloc P o)
    (hFin : ∀ listed a F w, Inv ops A listed a w → Mod [] W w → F w → Fin listed a F → wpAny P md ops Q g listed a w) :
    ∀ (f : Nat) (listed : Array Bool) (a : Act) (F : World → Prop) (w : World), slotsB ops A a.tmps.size = true → Inv ops A listed a w → Stays F → Mod [] W w → F w → wpAnyM P md ops W L n Fin f listed a F → wpAny P md ops Q (f + g) listed a w
  | 0, listed, a, F, w, _, I, _, hw, hF, h => by rw [Nat.zero_add]; exact hFin _ _ _ _ I hw hF h
  | f + 1, listed, a, F, w, hsl, I, hs, hw, hF, h => by
    rw [show f + 1 + g = (f + g) + 1 by omega]
    exact ⟨fun h0 => absurd h0 h.1, fun i hi => wpOp_of_mOpA hT hAl hsl I hs hw hF (fun a' F' w' hz I' hw' hs' hF' h' => wpAny_of_MA hT hAl hFin f _ a' F' w' (by rw [hz]; exact hsl) I' hs' hw' hF' h') (h.2 i hi).2⟩
def Dist (ops : Array Oper) (a : Act) : List Nat → Prop
  | [] => True
  | i :: l => (∀ j ∈ l, dval ops a i ≠ dval ops a j) ∧ Dist ops a l
theorem Inv.dist {A : List Nat} {listed : Array Bool} {a : Act} {w : World} (I : Inv ops A listed a w) (hl : ∀ i ∈ A, listed.getD i true = true) : ∀ l : List Nat, l.Nodup → (∀ i ∈ l, i ∈ A) → Dist ops a l
  | [], _, _ => trivial
  | i :: l, hn, hs => by
    obtain ⟨h1, h2⟩ := List.nodup_cons.1 hn
    exact ⟨fun j hj => I.apart i (hs i (by simp)) j (hs j (by simp [hj])) (fun he => h1 (he ▸ hj)) (hl i (hs i (by simp))) (hl j (hs j (by simp [hj]))), I.dist hl l h2 fun k hk => hs k (by simp [hk])⟩
def chainB (md : Region.Mode) (ops : Array Oper) (n : Nat) (ord c late : List Nat) : Bool :=
  Region.noSelect ops && decide (n ≤ ops.size) && decide (ord.length + (c.length + late.length) = n) && late.all (fun i => decide (i < n)) && c.all (fun i => decide (i < n)) && Region.tailB md ops n && Region.downB md ops && Region.seqB md ops (ops.size - n) n (Region.canon ops n) &&
    lateApart ops late && Region.ordB md ops n (c ++ late) ord (Array.replicate ops.size false) && chainC md ops c && apartC ops c late && decide (c.Nodup) && c.all fun i => !late.contains i
theorem wpAny_chain {Q : Exit → Act → World → Prop} {a : Act} {w : World} {l : List Oper} (n : Nat) (ord : List Nat) (c late : List (Nat × (Value → World → Prop)))
    (hB : chainB .any l.toArray n ord (c.map (·.1)) (late.map (·.1)) = true) (hT : ∀ p ∈ c ++ late, ∀ v, Stays (p.2 v)) (hsl : slotsB l.toArray (late.map (·.1)) a.tmps.size = true) (hAl : ∀ i ∈ late.map (·.1), ∀ o, l.toArray[i]? = some o → IsAlloc P o)
    (h : wpSteady P l.toArray w (fun a' => wpChain P l.toArray w (wpLates P l.toArray w (fun a'' F => Dist l.toArray a'' (late.map (·.1)) → ∀ w', Mod [] w w' → F w' → wpList P l.toArray Q (l.drop n) a'' w') late) c a' (fun _ => True)) ord a) :
    wpAny P .any l.toArray Q l.toArray.size (Array.replicate l.toArray.size false) a { w with drawn := w.drawn + 1 } := by
  simp only [chainB, Bool.and_eq_true, decide_eq_true_eq] at hB
  obtain ⟨⟨⟨⟨⟨⟨⟨⟨⟨⟨⟨⟨⟨hsel, hn⟩, hlen⟩, hlt⟩, hltc⟩, ht⟩, hd⟩, hseq⟩, hap⟩, hord⟩, hcc⟩, hac⟩, hnd⟩, hdj⟩ := hB
  let L : Nat → Option (Value → World → Prop) := fun i => ((c ++ late).find? fun p => p.1 == i).map (·.2)
  have hdj' : ∀ p ∈ c, p.1 ∉ late.map (·.1) := fun p hp => by
    have := List.all_eq_true.1 hdj p.1 (List.mem_map_of_mem hp)
    simpa using this
  have hnd2 : ((c ++ late).map (·.1)).Nodup := by
    rw [List.map_append, List.nodup_append]
    refine ⟨hnd, lateApart_nodup hap, fun x hx y hy hxy => ?_⟩
    obtain ⟨p, hp, rfl⟩ := List.mem_map.1 hx
    exact hdj' p hp (hxy ▸ hy)
  have hLn : ∀ i, (c.map (·.1) ++ late.map (·.1)).contains i = false → L i = none := fun i hi => by
    simp only [L, Option.map_eq_none_iff, List.find?_eq_none]
    intro p hp he
    have : (c.map (·.1) ++ late.map (·.1)).contains i = true := by
      rw [← List.map_append]
      have h1 : i ∈ (c ++ late).map (·.1) := (beq_iff_eq.1 he) ▸ List.mem_map_of_mem hp
      simpa using h1
    rw [hi] at this; cases this
  have hLs : ∀ p ∈ c ++ late, L p.1 = some p.2 := fun p hp => lookup_late (c ++ late) p hp hnd2
  have hLT : ∀ i T, L i = some T → ∀ v, Stays (T v) := fun i T hi v => by
    simp only [L, Option.map_eq_some_iff] at hi
    obtain ⟨p, hp, rfl⟩ := hi
    exact hT p (List.mem_of_find?_eq_some hp) v
  have inv0 : HeadInv .any l.toArray n (Array.replicate l.toArray.size false) :=
    ⟨by simp, fun j oj _ hl => (by rw [getD_replicate_false] at hl; cases hl), fun t _ ht => getD_in (by simpa using ht) (getD_replicate_false _ _)⟩
  have hE : ∀ (a : Act) (F F' : World → Prop), (∀ w, F' w → F w) → (Dist l.toArray a (late.map (·.1)) → ∀ w', Mod [] w w' → F w' → wpList P l.toArray Q (l.drop n) a w') → (Dist l.toArray a (late.map (·.1)) → ∀ w', Mod [] w w' → F' w' → wpList P l.toArray Q (l.drop n) a w') :=
    fun a F F' hF h hd w' hw hf => h hd w' hw (hF w' hf)
  have hdl : (l.drop n).length = l.toArray.size - n := by simp
  have H := wpAnyM_ord (P := P) (W := w) (L := L) (m := c.length + late.length) (late := c.map (·.1) ++ late.map (·.1)) (F := fun _ => True)
    (Fin := fun listed a F => Region.seqB .any l.toArray (l.toArray.size - n) n listed = true ∧ (Dist l.toArray a (late.map (·.1)) → ∀ w', Mod [] w w' → F w' → wpList P l.toArray Q (l.drop n) a w'))
    hsel ht (fun listed a F hf => seqB_ready hf.1) hLn (fun a listed inv hB hk => by
      refine wpAnyM_chain hE (Region.noSelect_spec hsel) ht hd hn hseq (c.length + late.length) c late listed a _ rfl inv hap hcc (fun p hp q hq => ?_) hnd hdj' (fun p hp => hLs p (by simp [hp])) (fun p hp => hLs p (by simp [hp])) (fun i hi => ?_) (fun p hp => ?_) (fun p hp => ?_) hk
      · have h1 := List.all_eq_true.1 (List.all_eq_true.1 hac p.1 (List.mem_map_of_mem hp)) q.1 (List.mem_map_of_mem hq)
        split at h1
        · rename_i x y hx hy; exact ⟨x, y, hx, hy, h1⟩
        · cases h1
      · have := List.all_eq_true.1 hB i (List.mem_range.2 hi)
        simp only [beq_iff_eq] at this
        rw [Bool.eq_iff_iff] at this
        simp only [beq_iff_eq, List.contains_iff_mem, List.mem_append] at this
        exact this
      · have := List.all_eq_true.1 hltc p.1 (List.mem_map_of_mem hp)
        simpa using this
      · have := List.all_eq_true.1 hlt p.1 (List.mem_map_of_mem hp)
        simpa using this) ord _ a inv0 hord h
  have inv1 : Inv l.toArray (late.map (·.1)) (Array.replicate l.toArray.size false) a { w with drawn := w.drawn + 1 } := by
    have hf : ∀ i ∈ late.map (·.1), (Array.replicate l.toArray.size false).getD i true = true → False := fun i hi h1 => by
      have h2 := List.all_eq_true.1 hlt i hi
      simp only [decide_eq_true_eq] at h2
      rw [getD_in (by simp at hn ⊢; omega) (getD_replicate_false _ _)] at h1
      cases h1
    exact ⟨fun i hi h1 => (hf i hi h1).elim, fun i hi _ _ _ h1 => (hf i hi h1).elim⟩
  have hfin := wpAny_of_MA (P := P) (md := .any) (ops := l.toArray) (W := w) (Q := Q) (g := l.toArray.size - n) (A := late.map (·.1)) hLT
    (fun j hj => ⟨by obtain ⟨p, hp, rfl⟩ := List.mem_map.1 hj; exact ⟨_, hLs p (by simp [hp])⟩, hAl j hj⟩) (fun listed a F w' I hw hF hf => by
    have hdone : ∀ i ∈ late.map (·.1), listed.getD i true = true := fun i hi => by
      have h2 := List.all_eq_true.1 hlt i hi
      simp only [decide_eq_true_eq] at h2
      cases hx : listed.getD i true with
      | true => rfl
      | false =>
        obtain ⟨j, hj, hji⟩ := ready_below hd i (by omega) hx
        have h3 := seqB_ready hf.1 j hj
        omega
    have := wpAny_of_seq (md := .any) (Q' := Q) (l.drop n) n listed a w' (fun j => by simp [List.getElem?_drop]) (by rw [hdl]; exact hf.1) (hf.2 (I.dist hdone _ (lateApart_nodup hap) fun _ h => h) w' hw hF)
    rwa [hdl] at this) _ _ _ _ { w with drawn := w.drawn + 1 } hsl inv1 (fun _ _ _ _ => trivial) ((Mod.refl [] w).drew) trivial H
  have hl2 : ord.length + (c.length + late.length) + (l.toArray.size - n) = l.toArray.size := by simp only [List.length_map] at hlen; omega
  rwa [hl2] at hfin
def waitsFor : List (Nat × Nat) → List Oper → List Oper
  | [], l => l
  | p :: ps, l => waitsFor ps (waitFor p.1 p.2 l)
def floatsB (md : Region.Mode) : List (Nat × Nat) → List Oper → Bool
  | [], _ => true
  | p :: ps, l => floatB md l.toArray p.1 p.2 && Region.noSelect l.toArray && decide (p.1 < l.length) && decide (p.2 < l.length) && floatsB md ps (waitFor p.1 p.2 l)
theorem wpAny_floats {Q : Exit → Act → World → Prop} (hQ : ∀ c a d v w, Q (.panic c) (a.put d v) w → Q (.panic c) a w) : ∀ (ps : List (Nat × Nat)) (l : List Oper) (a : Act) (w : World), floatsB md ps l = true →
    wpAny P md (waitsFor ps l).toArray Q (waitsFor ps l).toArray.size (Array.replicate (waitsFor ps l).toArray.size false) a w → wpAny P md l.toArray Q l.toArray.size (Array.replicate l.toArray.size false) a w
  | [], l, a, w, _, h => h
  | p :: ps, l, a, w, hB, h => by
    simp only [floatsB, Bool.and_eq_true, decide_eq_true_eq] at hB
    obtain ⟨⟨⟨⟨hf, hs⟩, ht⟩, hi⟩, hr⟩ := hB
    have H := wpAny_floats hQ ps (waitFor p.1 p.2 l) a w hr h
    have e : (waitFor p.1 p.2 l).toArray.size = l.toArray.size := by simp [wait_length]
    rw [e] at H
    exact wpAny_float (wait_waits (List.getElem?_eq_getElem ht)) hf hs hQ _ _ _ _ (getD_in (by simpa using hi) (getD_replicate_false _ _)) H
structure WChain (P : Program) (ops : Array Oper) (W : World) (E : Act → (World → Prop) → Prop) (l : List (Nat × (Value → World → Prop))) (a : Act) (F : World → Prop) : Prop where
  out : wpChain P ops W E l a F
theorem wp_region_chain {id : Nat} {Q : Exit → Act → World → Prop} {a : Act} {w : World} {l : List Oper} (ps : List (Nat × Nat)) (l' : List Oper) (n : Nat) (mask : List Bool) (c late : List (Nat × (Value → World → Prop)))
    (hm : P.follows .mixedOrders = true) (hl : l' = waitsFor ps l)
    (hB : (chainB .any l'.toArray n (idxM 0 mask) (c.map (·.1)) (late.map (·.1)) && decide (mask.length ≤ l'.length) && floatsB .any ps l) = true) (hT : ∀ p ∈ c ++ late, ∀ v, Stays (p.2 v)) (hsl : slotsB l'.toArray (late.map (·.1)) a.tmps.size = true) (hAl : ∀ i ∈ late.map (·.1), ∀ o, l'.toArray[i]? = some o → IsAlloc P o)
    (hQ : ∀ c a d v w, Q (.panic c) (a.put d v) w → Q (.panic c) a w)
    (h : WSteady P l'.toArray w (fun a' => WChain P l'.toArray w (wpLates P l'.toArray w (fun a'' F => Dist l'.toArray a'' (late.map (·.1)) → ∀ w', Mod [] w w' → F w' → wpList P l'.toArray Q (l'.drop n) a'' w') late) c a' (fun _ => True)) (pickM l' mask) a) :
    (Code.region id l.toArray true).wp P Q a w := by
  simp only [Bool.and_eq_true, decide_eq_true_eq] at hB
  refine wp_region_any hm ?_
  refine wpAny_floats hQ ps l _ _ hB.2 ?_
  rw [← hl]
  have h2 := steady_of_list mask 0 l' a (by simp) hB.1.2 h.out
  refine wpAny_chain n (idxM 0 mask) c late hB.1.1 hT hsl hAl ?_
  exact wpSteady_mono (fun a h => h.out) _ _ h2
theorem chain_end {E : Act → (World → Prop) → Prop} {a : Act} {F : World → Prop} (h : E a F) : WChain P ops W E [] a F := ⟨h⟩
end
end Ch
theorem Own.left {w W : World} {l l' : List (Nat × Array Value × TypeId)} (T : Own w W (l ++ l')) : Own w W l :=
  ⟨T.mod, fun p hp => T.blk p (List.mem_append.2 (.inl hp)), by have := T.nodup; rw [List.map_append, List.nodup_append] at this; exact this.1⟩
theorem told_end {w W : World} {l : List (Nat × Array Value × TypeId)} {b : Nat} {x y : Value} {ty : TypeId} (T : Own w W l) (k : Nat) (hk : l[k]? = some (b, #[x, y], ty)) (u v : Value) :
    ((W.setCell ⟨b, 0, none⟩ u).setCell ⟨b, 1, none⟩ v).cell? ⟨b, 0, none⟩ = some u ∧ ((W.setCell ⟨b, 0, none⟩ u).setCell ⟨b, 1, none⟩ v).cell? ⟨b, 1, none⟩ = some v ∧ Mod [] w ((W.setCell ⟨b, 0, none⟩ u).setCell ⟨b, 1, none⟩ v) := by
  have hkl : k < l.length := (List.getElem?_eq_some_iff.1 hk).1
  have T2 := (T.set k hk 0 u).set k (by rw [List.getElem?_set_self hkl]) 1 v
  rw [List.set_set] at T2
  have hb : Blk ((W.setCell ⟨b, 0, none⟩ u).setCell ⟨b, 1, none⟩ v) b #[u, v] ty := T2.at k (by rw [List.getElem?_set_self hkl]; rfl)
  exact ⟨hb.two.1, hb.two.2.1, T2.mod⟩
end Go.Proofs.Ytaloembfekdkoaa
