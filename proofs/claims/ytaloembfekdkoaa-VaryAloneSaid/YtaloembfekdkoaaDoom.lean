/- A region that draws its order, in which one operation gives up, and all that comes ahead of it is steady: one walk serves every order. -/
import Derived.Test.YtaloembfekdkoaaChain
namespace Go.Proofs.Ytaloembfekdkoaa
open Go.RowKit
set_option linter.unusedVariables false
namespace Dm
section
variable {P : Program} {ops : Array Oper} {md : Region.Mode} {W : World} {D : List PanicEntry → World → Prop} {late : List Nat}
def Doom (P : Program) (o : Oper) (a : Act) (W : World) (D : List PanicEntry → World → Prop) : Prop :=
  ∀ w, Mod [] W w → o.wp P a w (fun _ _ => False) (fun e _ w' => ∃ c, e = .panic c ∧ Mod [] W w' ∧ D c w')
theorem doom_put {o : Oper} (hs : ∀ cs b, o.op ≠ .select cs b) {a : Act} {d : Option Tmp} {v : Value} (h1 : ∀ t, d = some t → t ∉ o.looksAt ops)
    (h : Doom P o (a.put d v) W D) : Doom P o a W D := by
  intro w hw
  have h3 := h w hw
  unfold Oper.wp at *
  rw [execOp_put o hs a d v h1] at h3
  generalize (execOp a.eval o).run P w = r at *
  cases r with
  | ok n w' =>
    cases n <;> simp only [Oper.upon] at h3 ⊢
    case enter f args =>
      refine Calls.mono h3 fun e w'' he => ?_
      cases e with
      | returned u => exact he.elim
      | panicked c => exact he
      | outgrown => obtain ⟨_, _, c, e, _⟩ := he; cases e
    case row row args => exact Rows.mono h3 fun u w'' he => he.elim
  | halt x w' => cases x <;> simp only [Oper.upon] at h3 ⊢ <;> exact h3
theorem doom_put' {o : Oper} (hs : ∀ cs b, o.op ≠ .select cs b) {a : Act} {d : Option Tmp} {v : Value} (h1 : ∀ t, d = some t → t ∉ o.looksAt ops)
    (h : Doom P o a W D) : Doom P o (a.put d v) W D := by
  intro w hw
  have h3 := h w hw
  unfold Oper.wp at *
  rw [execOp_put o hs a d v h1]
  generalize (execOp a.eval o).run P w = r at *
  cases r with
  | ok n w' =>
    cases n <;> simp only [Oper.upon] at h3 ⊢
    case enter f args =>
      refine Calls.mono h3 fun e w'' he => ?_
      cases e with
      | returned u => exact he.elim
      | panicked c => exact he
      | outgrown => obtain ⟨_, _, c, e, _⟩ := he; cases e
    case row row args => exact Rows.mono h3 fun u w'' he => he.elim
  | halt x w' => cases x <;> simp only [Oper.upon] at h3 ⊢ <;> exact h3
theorem wp_of_doom {o : Oper} {a : Act} {K : Act → World → Prop} {Q : Exit → Act → World → Prop} {w : World} (hw : Mod [] W w) (h : Doom P o a W D)
    (hQ : ∀ c w', Mod [] W w' → D c w' → Q (.panic c) a w') : o.wp P a w K Q := by
  have h3 := h w hw
  unfold Oper.wp at *
  generalize (execOp a.eval o).run P w = r at *
  cases r with
  | ok n w' =>
    cases n <;> simp only [Oper.upon] at h3 ⊢
    case enter f args =>
      refine Calls.mono h3 fun e w'' he => ?_
      cases e with
      | returned u => exact he.elim
      | panicked c => obtain ⟨c', e, m, d⟩ := he; cases e; exact hQ _ _ m d
      | outgrown => obtain ⟨_, _, c, e, _⟩ := he; cases e
    case row row args => exact Rows.mono h3 fun u w'' he => he.elim
  | halt x w' => cases x <;> simp only [Oper.upon] at h3 ⊢ <;> (obtain ⟨c', e, m, d⟩ := h3; cases e; exact hQ _ _ m d)
def dOp (P : Program) (ops : Array Oper) (W : World) (D : List PanicEntry → World → Prop) (late : List Nat) (k i : Nat) (K : Act → Prop) (a : Act) : Prop :=
  match ops[i]? with
  | some o => if i = k then o.guard = none ∧ Doom P o a W D else if late.contains i then o.guard = none ∧ ∀ v, K (a.put o.dst v) else if Region.wanted o (yielded ops a.tmps) then ∃ v, Steady P o a W v ∧ K (a.put o.dst v) else K (a.put o.dst undef)
  | none => False
def wpAnyD (P : Program) (md : Region.Mode) (ops : Array Oper) (W : World) (D : List PanicEntry → World → Prop) (late : List Nat) (k : Nat) : Nat → Array Bool → Act → Prop
  | 0, _, _ => False
  | f + 1, listed, a => Region.ready md ops listed ≠ [] ∧ ∀ i ∈ Region.ready md ops listed, dOp P ops W D late k i (wpAnyD P md ops W D late k f (listed.setIfInBounds i true)) a
theorem dOp_put {k j : Nat} {oi oj : Oper} {v : Value} (hj : ops[j]? = some oj) (hap : oi.apart ops oj = true)
    (hsi : ∀ cs b, oi.op ≠ .select cs b) (hsj : ∀ cs b, oj.op ≠ .select cs b) {K : Act → Prop} {a : Act}
    (hy : YieldsS P ops W oi v a) (h : dOp P ops W D late k j K (a.put oi.dst v)) :
    dOp P ops W D late k j (fun a' => YieldsS P ops W oi v a' ∧ K (a'.put oi.dst v)) a := by
  obtain ⟨h1, h2, h3⟩ := Oper.apart_spec hap
  by_cases hjk : j = k
  · subst hjk
    unfold dOp at *
    simp only [hj, if_true] at h ⊢
    exact ⟨h.1, doom_put hsj h1 h.2⟩
  · by_cases hjl : late.contains j = true
    · unfold dOp at *
      simp only [hj, if_neg hjk, if_pos hjl] at h ⊢
      have h2' : ∀ d, oj.dst = some d → oi.dst ≠ some d := fun d hd hi' => h2 d hi' hd
      refine ⟨h.1, fun u => ⟨?_, by rw [← Act.put_comm a v u h2]; exact h.2 u⟩⟩
      unfold YieldsS at *
      rw [wanted_put oi a oj.dst u h3]
      exact hy.imp (fun hh => ⟨hh.1, late_put' hsi h3 h2' hh.2⟩) id
    · have h' : mOp P ops W (fun _ => none) j (fun a _ => K a) (a.put oi.dst v) (fun _ => True) := by
        unfold dOp at h
        unfold mOp
        simp only [hj, if_neg hjk, if_neg hjl] at h ⊢
        exact h
      have h2 := mOp_put (L := fun _ => none) hj hap hsi hsj hy h'
      unfold mOp at h2
      unfold dOp
      simp only [hj, if_neg hjk, if_neg hjl] at h2 ⊢
      exact h2
theorem dOp_same {k j : Nat} {a : Act} {K K' : Act → Prop} (h : ∀ a, K a → K' a) (hh : dOp P ops W D late k j K a) : dOp P ops W D late k j K' a := by
  unfold dOp at *
  split
  · rename_i o ho
    simp only [ho] at hh
    split
    · rename_i hjk; rw [if_pos hjk] at hh; exact hh
    · rename_i hjk
      rw [if_neg hjk] at hh
      split
      · rename_i hjl; rw [if_pos hjl] at hh; exact ⟨hh.1, fun v => h _ (hh.2 v)⟩
      · rename_i hjl
        rw [if_neg hjl] at hh
        split
        · rename_i hw; rw [if_pos hw] at hh; obtain ⟨v, h1, h2⟩ := hh; exact ⟨v, h1, h _ h2⟩
        · rename_i hw; rw [if_neg hw] at hh; exact h _ hh
  · rename_i ho
    simp only [ho] at hh
theorem wpAnyD_first {k i : Nat} {oi : Oper} {v : Value} (hi : ops[i]? = some oi) (hik : i ≠ k) (hil : late.contains i = false) (hsel : ∀ (j : Nat) (o : Oper) cs b, ops[j]? = some o → o.op ≠ .select cs b) :
    ∀ (f : Nat) (listed : Array Bool) (a : Act),
      (∀ j oj, ops[j]? = some oj → j ≠ i → listed.getD j true = false → (∀ e ∈ oj.after, Region.binds md e = true → e.on ≠ i) → oi.apart ops oj = true) →
      i ∈ Region.ready md ops listed → YieldsS P ops W oi v a →
      wpAnyD P md ops W D late k f (listed.setIfInBounds i true) (a.put oi.dst v) → wpAnyD P md ops W D late k (f + 1) listed a := by
  intro f
  induction f with
  | zero => intro _ _ _ _ _ H; exact H.elim
  | succ f ih =>
    intro listed a hfree hr hy H
    have hun := (mem_ready.1 hr).1
    refine ⟨fun h => (by rw [h] at hr; cases hr), fun j hj => ?_⟩
    by_cases hji : j = i
    · subst hji
      unfold dOp
      simp only [hi, if_neg hik, hil, Bool.false_eq_true, if_false]
      rcases hy with ⟨hw, hv⟩ | ⟨hw, rfl⟩
      · rw [if_pos hw]; exact ⟨v, hv, H⟩
      · rw [if_neg (by rw [hw]; exact Bool.false_ne_true)]; exact H
    · have h1 := H.2 j (ready_mono hj hji)
      obtain ⟨hjun, oj, hoj, hall⟩ := mem_ready.1 hj
      have hnot : ∀ e ∈ oj.after, Region.binds md e = true → e.on ≠ i := fun e he hb heq => by
        have h1 := hall e he hb
        rw [heq, getD_both hun] at h1
        cases h1
      have h2 := dOp_put hoj (hfree j oj hoj hji hjun hnot) (fun cs b => hsel i oi cs b hi) (fun cs b => hsel j oj cs b hoj) hy h1
      have hfree' : ∀ k ok, ops[k]? = some ok → k ≠ i → (listed.setIfInBounds j true).getD k true = false →
          (∀ e ∈ ok.after, Region.binds md e = true → e.on ≠ i) → oi.apart ops ok = true := fun k ok hk hki hun hno => by
        refine hfree k ok hk hki ?_ hno
        by_cases hjk : j = k
        · subst hjk; exact hjun
        · rw [getD_set_ne true hjk] at hun; exact hun
      refine dOp_same (fun a' h3 => ih (listed.setIfInBounds j true) a' hfree' (ready_mono hr (Ne.symm hji)) h3.1 ?_) h2
      rw [Array.setIfInBounds_comm _ _ hji]
      exact h3.2
def endB (md : Region.Mode) (ops : Array Oper) (late : List Nat) (k : Nat) : Nat → Array Bool → Bool
  | 0, _ => false
  | f + 1, listed => (Region.ready md ops listed).contains k && (Region.ready md ops listed).all fun j => j == k || (late.contains j && endB md ops late k f (listed.setIfInBounds j true))
def lateB (ops : Array Oper) (late : List Nat) (k : Nat) : Bool := late.all fun j => match ops[j]?, ops[k]? with | some x, some y => x.guard.isNone && x.apart ops y | _, _ => false
theorem wpAnyD_end {k : Nat} {ok : Oper} (hk : ops[k]? = some ok) (hg : ok.guard = none) (hsel : Region.noSelect ops = true) (hlb : lateB ops late k = true) :
    ∀ (f : Nat) (listed : Array Bool) (a : Act), endB md ops late k f listed = true → Doom P ok a W D → wpAnyD P md ops W D late k f listed a
  | 0, _, _, hB, _ => by cases hB
  | f + 1, listed, a, hB, h => by
    simp only [endB, Bool.and_eq_true, List.all_eq_true, Bool.or_eq_true, beq_iff_eq] at hB
    refine ⟨fun h0 => by rw [h0] at hB; simp at hB, fun j hj => ?_⟩
    by_cases hjk : j = k
    · subst hjk
      unfold dOp
      simp only [hk, if_true]
      exact ⟨hg, h⟩
    · obtain ⟨hjl, hB'⟩ := (hB.2 j hj).resolve_left hjk
      obtain ⟨_, oj, hoj, _⟩ := mem_ready.1 hj
      have h1 := List.all_eq_true.1 hlb j (by simpa using hjl)
      simp only [hoj, hk, Bool.and_eq_true] at h1
      obtain ⟨a1, a2, a3⟩ := Oper.apart_spec h1.2
      unfold dOp
      simp only [hoj, if_neg hjk, if_pos hjl]
      exact ⟨by simpa using h1.1, fun v => wpAnyD_end hk hg hsel hlb f _ _ hB' (doom_put' (fun cs b => Region.noSelect_spec hsel k ok cs b hk) a1 h)⟩
def ordD (md : Region.Mode) (ops : Array Oper) (late : List Nat) (k : Nat) : List Nat → Array Bool → Bool
  | [], listed => endB md ops late k (late.length + 1) listed
  | i :: l, listed => decide (i ≠ k) && !late.contains i && (Region.ready md ops listed).contains i && Region.free md ops listed i && ordD md ops late k l (listed.setIfInBounds i true)
theorem wpAnyD_ord {k : Nat} {ok : Oper} (hk : ops[k]? = some ok) (hg : ok.guard = none) (hsel : Region.noSelect ops = true) (hlb : lateB ops late k = true) :
    ∀ (l : List Nat) (listed : Array Bool) (a : Act), ordD md ops late k l listed = true → wpSteady P ops W (fun a => Doom P ok a W D) l a → wpAnyD P md ops W D late k (l.length + (late.length + 1)) listed a
  | [], listed, a, hB, h => by
    rw [List.length_nil, Nat.zero_add]
    exact wpAnyD_end hk hg hsel hlb _ _ _ hB h
  | i :: l, listed, a, hB, h => by
    simp only [ordD, Bool.and_eq_true, decide_eq_true_eq, Bool.not_eq_true'] at hB
    obtain ⟨⟨⟨⟨hik, hil⟩, hr⟩, hf⟩, hB'⟩ := hB
    have hr' : i ∈ Region.ready md ops listed := by simpa using hr
    unfold wpSteady at h
    cases ho : ops[i]? with
    | none => simp only [ho] at h
    | some o =>
      simp only [ho] at h
      obtain ⟨v, hy, hk'⟩ : ∃ v, YieldsS P ops W o v a ∧ wpSteady P ops W (fun a => Doom P ok a W D) l (a.put o.dst v) := by
        by_cases hw : Region.wanted o (yielded ops a.tmps) = true
        · simp only [hw, if_true] at h
          obtain ⟨v, h1, h2⟩ := h
          exact ⟨v, .inl ⟨hw, h1⟩, h2⟩
        · simp only [hw] at h
          exact ⟨undef, .inr ⟨by simpa using hw, rfl⟩, h⟩
      rw [List.length_cons, show l.length + 1 + (late.length + 1) = (l.length + (late.length + 1)) + 1 by omega]
      exact wpAnyD_first ho hik hil (Region.noSelect_spec hsel) _ listed a (Region.free_spec ho hf) hr' hy (wpAnyD_ord hk hg hsel hlb l _ _ hB' hk')
structure Good (ops : Array Oper) (a0 a : Act) : Prop where
  defers : a.defers = a0.defers
  tmps : ∀ t : Tmp, (∀ (i : Nat) (o : Oper), ops[i]? = some o → o.dst ≠ some t) → a.tmps[t]? = a0.tmps[t]?
theorem Good.put {a0 a : Act} (h : Good ops a0 a) {i : Nat} {o : Oper} (ho : ops[i]? = some o) (v : Value) : Good ops a0 (a.put o.dst v) := by
  refine ⟨?_, fun t ht => ?_⟩
  · rw [← h.defers]; cases o.dst <;> rfl
  · rw [← h.tmps t ht]
    have := ht i o ho
    cases hd : o.dst with
    | none => rfl
    | some s =>
      rw [hd] at this
      simp only [Act.put]
      exact Array.getElem?_setIfInBounds_ne (fun e => this (by rw [e]))
theorem Good.slot {a0 a : Act} (h : Good ops a0 a) (t : Tmp) (ht : (ops.all fun o => o.dst != some t) = true) : a.tmps[t]? = a0.tmps[t]? := by
  refine h.tmps t fun i o ho => ?_
  have := Array.all_eq_true_iff_forall_mem.1 ht o (Array.mem_of_getElem? ho)
  simpa using this
theorem wpAny_of_D {k : Nat} {Q : Exit → Act → World → Prop} {a0 : Act} {g : Nat} (hQ : ∀ c a w', Good ops a0 a → Mod [] W w' → D c w' → Q (.panic c) a w') (hAl : ∀ i, late.contains i = true → ∀ o, ops[i]? = some o → Ch.IsAlloc P o) :
    ∀ (f : Nat) (listed : Array Bool) (a : Act) (w : World), Mod [] W w → Good ops a0 a → wpAnyD P md ops W D late k f listed a → wpAny P md ops Q (f + g) listed a w
  | 0, _, _, _, _, _, h => h.elim
  | f + 1, listed, a, w, hw, hG, h => by
    rw [show f + 1 + g = (f + g) + 1 by omega]
    refine ⟨fun h0 => absurd h0 h.1, fun i hi => ?_⟩
    have hh := h.2 i hi
    unfold dOp at hh
    unfold wpOp
    split at hh
    · rename_i o ho
      simp only [ho]
      split at hh
      · rename_i hik
        obtain ⟨hg, hd⟩ := hh
        simp only [Region.wanted, hg, if_true]
        exact .inl (wp_of_doom hw hd fun c w' m d => hQ c a w' hG m d)
      · split at hh
        · rename_i hil
          obtain ⟨hg, hv⟩ := hh
          simp only [Region.wanted, hg, if_true]
          obtain ⟨cs, t, hrun⟩ := hAl i hil o ho
          refine .inl ?_
          unfold Oper.wp
          rw [hrun a.eval w]
          exact wpAny_of_D hQ hAl f _ _ _ (hw.alloc _) (hG.put ho _) (hv _)
        · split at hh
          · rename_i hwn
            rw [if_pos hwn]
            obtain ⟨v, h1, h2⟩ := hh
            exact .inl (wp_of_steady hw h1 fun w' m => wpAny_of_D hQ hAl f _ _ _ (hw.then m) (hG.put ho v) h2)
          · rename_i hwn
            rw [if_neg hwn]
            exact wpAny_of_D hQ hAl f _ _ _ hw (hG.put ho undef) hh
    · exact hh.elim
theorem wp_region_doom {id : Nat} {Q : Exit → Act → World → Prop} {a : Act} {w : World} {l : List Oper} (mask : List Bool) (late : List Nat) (k : Nat) (D : List PanicEntry → World → Prop)
    (hm : P.follows .mixedOrders = true) {ok : Oper} (hk : l.toArray[k]? = some ok) (hg : ok.guard = none)
    (hB : (Region.noSelect l.toArray && ordD .any l.toArray late k (idxM 0 mask) (Array.replicate l.toArray.size false) && decide ((idxM 0 mask).length + (late.length + 1) ≤ l.length) && decide (mask.length ≤ l.length) && lateB l.toArray late k) = true)
    (hAl : ∀ i ∈ late, ∀ o, l.toArray[i]? = some o → Ch.IsAlloc P o)
    (hQ : ∀ c a' w', Good l.toArray a a' → Mod [] w w' → D c w' → Q (.panic c) a' w')
    (h : WSteady P l.toArray w (fun a' => Doom P ok a' w D) (pickM l mask) a) :
    (Code.region id l.toArray true).wp P Q a w := by
  simp only [Bool.and_eq_true, decide_eq_true_eq] at hB
  obtain ⟨⟨⟨⟨hsel, hord⟩, hlen⟩, hml⟩, hlb⟩ := hB
  have H := wpAnyD_ord (P := P) (W := w) (D := D) hk hg hsel hlb (idxM 0 mask) _ a hord (steady_of_list mask 0 l a (by simp) hml h.out)
  refine wp_region_any hm ?_
  have := wpAny_of_D (Q := Q) (a0 := a) (g := l.length - ((idxM 0 mask).length + (late.length + 1))) hQ (fun i hi => hAl i (by simpa using hi)) _ _ _ { w with drawn := w.drawn + 1 } ((Mod.refl [] w).drew) ⟨rfl, fun _ _ => rfl⟩ H
  rw [show (idxM 0 mask).length + (late.length + 1) + (l.length - ((idxM 0 mask).length + (late.length + 1))) = l.toArray.size by simp; omega] at this
  exact this
end
end Dm
end Go.Proofs.Ytaloembfekdkoaa
