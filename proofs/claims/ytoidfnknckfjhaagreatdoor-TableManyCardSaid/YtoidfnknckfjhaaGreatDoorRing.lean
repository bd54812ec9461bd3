/- Regions that draw their order: a chain of operations of which one may write: one walk serves every order. Printed by gen_ring.py. -/
import Derived.Test.YtoidfnknckfjhaaGreatDoorChain
namespace Go.Proofs.YtoidfnknckfjhaaGreatDoor
open Go.RowKit
set_option linter.unusedVariables false
namespace Rg
section
variable {P : Program} {ops : Array Oper} {md : Region.Mode} {I : World → Prop} {L : Nat → Option (Value → World → Prop)}

def Late (P : Program) (o : Oper) (a : Act) (I : World → Prop) (T : Value → World → Prop) : Prop :=
  ∀ w, I w → o.wp P a w (fun a' w' => ∃ v, a' = a.put o.dst v ∧ Mod [] w w' ∧ T v w') (fun _ _ _ => False)
def Steady (P : Program) (o : Oper) (a : Act) (I : World → Prop) (v : Value) : Prop := Late P o a I (fun u _ => u = v)
theorem wp_of_late {o : Oper} {a : Act} {T : Value → World → Prop} {K : Act → World → Prop} {Q : Exit → Act → World → Prop} {w : World} (hw : I w) (h : Late P o a I T)
    (hK : ∀ v w', Mod [] w w' → T v w' → K (a.put o.dst v) w') : o.wp P a w K Q := by
  have h3 := h w hw
  unfold Oper.wp at *
  generalize (execOp a.eval o).run P w = r at *
  cases r with
  | ok n w' =>
    cases n <;> simp only [Oper.upon] at h3 ⊢
    case value u => obtain ⟨v, e, m, t⟩ := h3; rw [e]; exact hK _ _ m t
    case skip => obtain ⟨v, e, m, t⟩ := h3; rw [e]; exact hK _ _ m t
    case defer d => obtain ⟨v, e, m, t⟩ := h3; rw [e]; exact hK _ _ m t
    case enter f args =>
      refine Calls.mono h3 fun e w'' he => ?_
      cases e with
      | returned u =>
        obtain ⟨v, e, m, t⟩ := he
        show K (a.put o.dst u) w''
        rw [e]; exact hK _ _ m t
      | panicked c => exact he.elim
      | outgrown => obtain ⟨_, _, h⟩ := he; exact h.elim
    case row row args => exact Rows.mono h3 fun u w'' he => by obtain ⟨v, e, m, t⟩ := he; rw [e]; exact hK _ _ m t
  | halt x w' => cases x <;> simp only [Oper.upon] at h3
theorem wp_of_steady {o : Oper} {a : Act} {v : Value} {K : Act → World → Prop} {Q : Exit → Act → World → Prop} {w : World} (hw : I w) (h : Steady P o a I v)
    (hK : ∀ w', Mod [] w w' → K (a.put o.dst v) w') : o.wp P a w K Q :=
  wp_of_late hw h fun u w' m hu => by rw [hu]; exact hK w' m
def YieldsS (P : Program) (ops : Array Oper) (I : World → Prop) (o : Oper) (v : Value) (a : Act) : Prop :=
  (Region.wanted o (yielded ops a.tmps) = true ∧ Steady P o a I v) ∨ (Region.wanted o (yielded ops a.tmps) = false ∧ v = undef)
theorem late_put {o : Oper} (hs : ∀ cs b, o.op ≠ .select cs b) {a : Act} {d : Option Tmp} {v : Value} {T : Value → World → Prop} (h1 : ∀ t, d = some t → t ∉ o.looksAt ops) (h2 : ∀ t, d = some t → o.dst ≠ some t)
    (h : Late P o (a.put d v) I T) : Late P o a I T := by
  intro w hw
  have h3 := h w hw
  unfold Oper.wp at *
  rw [execOp_put o hs a d v h1] at h3
  have key : ∀ (x : Value) w', (∃ u, (a.put d v).put o.dst x = (a.put d v).put o.dst u ∧ Mod [] w w' ∧ T u w') → ∃ u, a.put o.dst x = a.put o.dst u ∧ Mod [] w w' ∧ T u w' := by
    rintro x w' ⟨u, e, m, t⟩
    refine ⟨u, ?_, m, t⟩
    rw [Act.put_comm a v x h2, Act.put_comm a v u h2] at e
    cases d with
    | none => exact e
    | some t =>
      cases ho : o.dst with
      | none => rfl
      | some s =>
        rw [ho] at e
        have hne : s ≠ t := fun hst => h2 t rfl (by rw [ho, hst])
        have e2 := congrArg Act.tmps e
        simp only [Act.put] at e2 ⊢
        have e3 : a.tmps.setIfInBounds s x = a.tmps.setIfInBounds s u := by
          apply Array.ext_getElem?
          intro k
          have := congrArg (fun z => z[k]?) e2
          by_cases hk : t = k
          · subst hk
            rw [Array.getElem?_setIfInBounds_ne hne, Array.getElem?_setIfInBounds_ne hne]
          · rwa [Array.getElem?_setIfInBounds_ne hk, Array.getElem?_setIfInBounds_ne hk] at this
        rw [e3]
  generalize (execOp a.eval o).run P w = r at *
  cases r with
  | ok n w' =>
    cases n <;> simp only [Oper.upon] at h3 ⊢
    case value u => exact key _ _ h3
    case skip => exact key _ _ h3
    case defer x =>
      obtain ⟨u, e, m, t⟩ := h3
      have e2 := congrArg Act.defers e
      exfalso
      have hl : ∀ (b : Act) (d : Option Tmp) (v : Value), (b.put d v).defers = b.defers := fun b d v => by cases d <;> rfl
      have e3 : x :: a.defers = a.defers := by simpa only [hl] using e2
      have := congrArg List.length e3
      simp at this
    case enter f args =>
      refine Calls.mono h3 fun e w'' he => ?_
      cases e with
      | returned u => exact key _ _ he
      | panicked c => exact he.elim
      | outgrown => obtain ⟨_, _, h⟩ := he; exact h.elim
    case row row args => exact Rows.mono h3 fun u w'' he => key _ _ he
  | halt x w' => cases x <;> simp only [Oper.upon] at h3
theorem late_put' {o : Oper} (hs : ∀ cs b, o.op ≠ .select cs b) {a : Act} {d : Option Tmp} {v : Value} {T : Value → World → Prop} (h1 : ∀ t, d = some t → t ∉ o.looksAt ops) (h2 : ∀ t, d = some t → o.dst ≠ some t)
    (h : Late P o a I T) : Late P o (a.put d v) I T := by
  intro w hw
  have h3 := h w hw
  unfold Oper.wp at *
  rw [execOp_put o hs a d v h1]
  have key : ∀ (x : Value) w', (∃ u, a.put o.dst x = a.put o.dst u ∧ Mod [] w w' ∧ T u w') → ∃ u, (a.put d v).put o.dst x = (a.put d v).put o.dst u ∧ Mod [] w w' ∧ T u w' := by
    rintro x w' ⟨u, e, m, t⟩
    exact ⟨u, by rw [Act.put_comm a v x h2, Act.put_comm a v u h2, e], m, t⟩
  generalize (execOp a.eval o).run P w = r at *
  cases r with
  | ok n w' =>
    cases n <;> simp only [Oper.upon] at h3 ⊢
    case value u => exact key _ _ h3
    case skip => exact key _ _ h3
    case defer x =>
      obtain ⟨u, e, m, t⟩ := h3
      have e2 := congrArg Act.defers e
      exfalso
      have hl : ∀ (b : Act) (d : Option Tmp) (v : Value), (b.put d v).defers = b.defers := fun b d v => by cases d <;> rfl
      have e3 : x :: a.defers = a.defers := by simpa only [hl] using e2
      have := congrArg List.length e3
      simp at this
    case enter f args =>
      refine Calls.mono h3 fun e w'' he => ?_
      cases e with
      | returned u => exact key _ _ he
      | panicked c => exact he.elim
      | outgrown => obtain ⟨_, _, h⟩ := he; exact h.elim
    case row row args => exact Rows.mono h3 fun u w'' he => key _ _ he
  | halt x w' => cases x <;> simp only [Oper.upon] at h3
def LateF (P : Program) (o : Oper) (a : Act) (I : World → Prop) (F : World → Prop) (T : Value → World → Prop) : Prop :=
  ∀ w, I w → F w → o.wp P a w (fun a' w' => ∃ v, a' = a.put o.dst v ∧ I w' ∧ T v w') (fun _ _ _ => False)
theorem LateF.weak {o : Oper} {a : Act} {F F' : World → Prop} {T : Value → World → Prop} (h : LateF P o a I F T) (hF : ∀ w, F' w → F w) : LateF P o a I F' T := fun w hw hf => h w hw (hF w hf)
theorem lateF_put {o : Oper} (hs : ∀ cs b, o.op ≠ .select cs b) {a : Act} {d : Option Tmp} {v : Value} {F : World → Prop} {T : Value → World → Prop} (h1 : ∀ t, d = some t → t ∉ o.looksAt ops) (h2 : ∀ t, d = some t → o.dst ≠ some t)
    (h : LateF P o (a.put d v) I F T) : LateF P o a I F T := by
  intro w hw hF
  have h3 := h w hw hF
  unfold Oper.wp at *
  rw [execOp_put o hs a d v h1] at h3
  have key : ∀ (x : Value) w', (∃ u, (a.put d v).put o.dst x = (a.put d v).put o.dst u ∧ I w' ∧ T u w') → ∃ u, a.put o.dst x = a.put o.dst u ∧ I w' ∧ T u w' := by
    rintro x w' ⟨u, e, m, t⟩
    refine ⟨u, ?_, m, t⟩
    rw [Act.put_comm a v x h2, Act.put_comm a v u h2] at e
    cases d with
    | none => exact e
    | some t =>
      cases ho : o.dst with
      | none => rfl
      | some s =>
        rw [ho] at e
        have hne : s ≠ t := fun hst => h2 t rfl (by rw [ho, hst])
        have e2 := congrArg Act.tmps e
        simp only [Act.put] at e2 ⊢
        have e3 : a.tmps.setIfInBounds s x = a.tmps.setIfInBounds s u := by
          apply Array.ext_getElem?
          intro k
          have := congrArg (fun z => z[k]?) e2
          by_cases hk : t = k
          · subst hk
            rw [Array.getElem?_setIfInBounds_ne hne, Array.getElem?_setIfInBounds_ne hne]
          · rwa [Array.getElem?_setIfInBounds_ne hk, Array.getElem?_setIfInBounds_ne hk] at this
        rw [e3]
  generalize (execOp a.eval o).run P w = r at *
  cases r with
  | ok n w' =>
    cases n <;> simp only [Oper.upon] at h3 ⊢
    case value u => exact key _ _ h3
    case skip => exact key _ _ h3
    case defer x =>
      obtain ⟨u, e, m, t⟩ := h3
      have e2 := congrArg Act.defers e
      exfalso
      have hl : ∀ (b : Act) (d : Option Tmp) (v : Value), (b.put d v).defers = b.defers := fun b d v => by cases d <;> rfl
      have e3 : x :: a.defers = a.defers := by simpa only [hl] using e2
      have := congrArg List.length e3
      simp at this
    case enter f args =>
      refine Calls.mono h3 fun e w'' he => ?_
      cases e with
      | returned u => exact key _ _ he
      | panicked c => exact he.elim
      | outgrown => obtain ⟨_, _, h⟩ := he; exact h.elim
    case row row args => exact Rows.mono h3 fun u w'' he => key _ _ he
  | halt x w' => cases x <;> simp only [Oper.upon] at h3
theorem lateF_put' {o : Oper} (hs : ∀ cs b, o.op ≠ .select cs b) {a : Act} {d : Option Tmp} {v : Value} {F : World → Prop} {T : Value → World → Prop} (h1 : ∀ t, d = some t → t ∉ o.looksAt ops) (h2 : ∀ t, d = some t → o.dst ≠ some t)
    (h : LateF P o a I F T) : LateF P o (a.put d v) I F T := by
  intro w hw hF
  have h3 := h w hw hF
  unfold Oper.wp at *
  rw [execOp_put o hs a d v h1]
  have key : ∀ (x : Value) w', (∃ u, a.put o.dst x = a.put o.dst u ∧ I w' ∧ T u w') → ∃ u, (a.put d v).put o.dst x = (a.put d v).put o.dst u ∧ I w' ∧ T u w' := by
    rintro x w' ⟨u, e, m, t⟩
    exact ⟨u, by rw [Act.put_comm a v x h2, Act.put_comm a v u h2, e], m, t⟩
  generalize (execOp a.eval o).run P w = r at *
  cases r with
  | ok n w' =>
    cases n <;> simp only [Oper.upon] at h3 ⊢
    case value u => exact key _ _ h3
    case skip => exact key _ _ h3
    case defer x =>
      obtain ⟨u, e, m, t⟩ := h3
      have e2 := congrArg Act.defers e
      exfalso
      have hl : ∀ (b : Act) (d : Option Tmp) (v : Value), (b.put d v).defers = b.defers := fun b d v => by cases d <;> rfl
      have e3 : x :: a.defers = a.defers := by simpa only [hl] using e2
      have := congrArg List.length e3
      simp at this
    case enter f args =>
      refine Calls.mono h3 fun e w'' he => ?_
      cases e with
      | returned u => exact key _ _ he
      | panicked c => exact he.elim
      | outgrown => obtain ⟨_, _, h⟩ := he; exact h.elim
    case row row args => exact Rows.mono h3 fun u w'' he => key _ _ he
  | halt x w' => cases x <;> simp only [Oper.upon] at h3
def mOp (P : Program) (ops : Array Oper) (I : World → Prop) (L : Nat → Option (Value → World → Prop)) (i : Nat) (K : Act → (World → Prop) → Prop) (a : Act) (F : World → Prop) : Prop :=
  match ops[i]?, L i with
  | some o, none => if Region.wanted o (yielded ops a.tmps) then ∃ v, Steady P o a I v ∧ K (a.put o.dst v) F else K (a.put o.dst undef) F
  | some o, some T => o.guard = none ∧ LateF P o a I F T ∧ ∀ v, K (a.put o.dst v) (fun w => T v w)
  | none, _ => False
theorem mOp_mono {i : Nat} {a : Act} {F F' : World → Prop} {K K' : Act → (World → Prop) → Prop} (hF : ∀ w, F' w → F w)
    (h : ∀ a F F', (∀ w, F' w → F w) → K a F → K' a F') (hh : mOp P ops I L i K a F) : mOp P ops I L i K' a F' := by
  unfold mOp at *
  split
  · rename_i o ho hl
    simp only [ho, hl] at hh
    split
    · rename_i hw; simp only [hw, if_true] at hh; obtain ⟨v, h1, h2⟩ := hh; exact ⟨v, h1, h _ _ _ hF h2⟩
    · rename_i hw; simp only [hw] at hh; exact h _ _ _ hF hh
  · rename_i o T ho hl
    simp only [ho, hl] at hh
    exact ⟨hh.1, fun w hw hF' => hh.2.1 w hw (hF w hF'), fun v => h _ _ _ (fun w hw => hw) (hh.2.2 v)⟩
  · rename_i ho
    simp only [ho] at hh
def wpAnyM (P : Program) (md : Region.Mode) (ops : Array Oper) (I : World → Prop) (L : Nat → Option (Value → World → Prop)) (n : Nat) (Fin : Array Bool → Act → (World → Prop) → Prop) : Nat → Array Bool → Act → (World → Prop) → Prop
  | 0, listed, a, F => Fin listed a F
  | f + 1, listed, a, F => Region.ready md ops listed ≠ [] ∧ ∀ i ∈ Region.ready md ops listed, i < n ∧ mOp P ops I L i (wpAnyM P md ops I L n Fin f (listed.setIfInBounds i true)) a F
theorem wpAnyM_mono {n : Nat} {Fin : Array Bool → Act → (World → Prop) → Prop} (hFin : ∀ listed a F F', (∀ w, F' w → F w) → Fin listed a F → Fin listed a F') :
    ∀ (f : Nat) (listed : Array Bool) (a : Act) (F F' : World → Prop), (∀ w, F' w → F w) → wpAnyM P md ops I L n Fin f listed a F → wpAnyM P md ops I L n Fin f listed a F'
  | 0, _, _, _, _, hF, h => hFin _ _ _ _ hF h
  | f + 1, _, _, _, _, hF, h => ⟨h.1, fun i hi => ⟨(h.2 i hi).1, mOp_mono hF (fun a F F' hF => wpAnyM_mono hFin f _ a F F' hF) (h.2 i hi).2⟩⟩
theorem wp_of_lateF {o : Oper} {a : Act} {F : World → Prop} {T : Value → World → Prop} {K : Act → World → Prop} {Q : Exit → Act → World → Prop} {w : World} (hw : I w) (hF : F w) (h : LateF P o a I F T)
    (hK : ∀ v w', I w' → T v w' → K (a.put o.dst v) w') : o.wp P a w K Q := by
  have h3 := h w hw hF
  unfold Oper.wp at *
  generalize (execOp a.eval o).run P w = r at *
  cases r with
  | ok n w' =>
    cases n <;> simp only [Oper.upon] at h3 ⊢
    case value u => obtain ⟨v, e, m, t⟩ := h3; rw [e]; exact hK _ _ m t
    case skip => obtain ⟨v, e, m, t⟩ := h3; rw [e]; exact hK _ _ m t
    case defer d => obtain ⟨v, e, m, t⟩ := h3; rw [e]; exact hK _ _ m t
    case enter f args =>
      refine Calls.mono h3 fun e w'' he => ?_
      cases e with
      | returned u =>
        obtain ⟨v, e, m, t⟩ := he
        show K (a.put o.dst u) w''
        rw [e]; exact hK _ _ m t
      | panicked c => exact he.elim
      | outgrown => obtain ⟨_, _, h⟩ := he; exact h.elim
    case row row args => exact Rows.mono h3 fun u w'' he => by obtain ⟨v, e, m, t⟩ := he; rw [e]; exact hK _ _ m t
  | halt x w' => cases x <;> simp only [Oper.upon] at h3
variable (hI : ∀ w w', I w → Mod [] w w' → I w')
include hI
theorem wpOp_of_mOp {i : Nat} {a : Act} {F : World → Prop} {K : Act → (World → Prop) → Prop} {K' : Act → World → Prop} {Q : Exit → Act → World → Prop} {w : World}
    (hT : ∀ i T, L i = some T → ∀ v, Stays (T v)) (hs : Stays F) (hw : I w) (hF : F w) (h : ∀ a F w', I w' → Stays F → F w' → K a F → K' a w') (hh : mOp P ops I L i K a F) : wpOp P ops Q i K' a w := by
  unfold mOp at hh
  unfold wpOp
  split at hh
  · rename_i o ho hl
    simp only [ho]
    split
    · rename_i hwn; simp only [hwn, if_true] at hh
      obtain ⟨v, h1, h2⟩ := hh
      exact .inl (wp_of_steady hw h1 fun w' m => h _ _ _ (hI _ _ hw m) hs (hs _ _ hF m) h2)
    · rename_i hwn; simp only [hwn] at hh; exact h _ _ _ hw hs hF hh
  · rename_i o T ho hl
    obtain ⟨hg, h1, h2⟩ := hh
    simp only [ho, Region.wanted, hg, if_true]
    exact .inl (wp_of_lateF hw hF h1 fun v w' m t => h _ _ _ m (hT i T hl v) t (h2 v))
  · exact hh.elim
theorem wpAny_of_M {n g : Nat} {Fin : Array Bool → Act → (World → Prop) → Prop} {Q : Exit → Act → World → Prop} (hT : ∀ i T, L i = some T → ∀ v, Stays (T v))
    (hFin : ∀ listed a F w, I w → F w → Fin listed a F → wpAny P md ops Q g listed a w) :
    ∀ (f : Nat) (listed : Array Bool) (a : Act) (F : World → Prop) (w : World), Stays F → I w → F w → wpAnyM P md ops I L n Fin f listed a F → wpAny P md ops Q (f + g) listed a w
  | 0, listed, a, F, w, _, hw, hF, h => by rw [Nat.zero_add]; exact hFin _ _ _ _ hw hF h
  | f + 1, listed, a, F, w, hs, hw, hF, h => by
    rw [show f + 1 + g = (f + g) + 1 by omega]
    exact ⟨fun h0 => absurd h0 h.1, fun i hi => wpOp_of_mOp hI hT hs hw hF (fun a' F' w' hw' hs' hF' h' => wpAny_of_M hT hFin f _ a' F' w' hs' hw' hF' h') (h.2 i hi).2⟩
omit hI
theorem YieldsS_mOp {i : Nat} {o : Oper} {v : Value} {a : Act} {F : World → Prop} (hi : ops[i]? = some o) (hl : L i = none) (hy : YieldsS P ops I o v a) {K : Act → (World → Prop) → Prop} (h : K (a.put o.dst v) F) : mOp P ops I L i K a F := by
  unfold mOp
  simp only [hi, hl]
  rcases hy with ⟨hw, hv⟩ | ⟨hw, rfl⟩
  · simp only [hw, if_true]; exact ⟨v, hv, h⟩
  · simp only [hw, Bool.false_eq_true, if_false]; exact h
theorem mOp_put {j : Nat} {oi oj : Oper} {v : Value} (hj : ops[j]? = some oj) (hap : oi.apart ops oj = true)
    (hsi : ∀ cs b, oi.op ≠ .select cs b) (hsj : ∀ cs b, oj.op ≠ .select cs b) {K : Act → (World → Prop) → Prop} {a : Act} {F : World → Prop}
    (hy : YieldsS P ops I oi v a) (h : mOp P ops I L j K (a.put oi.dst v) F) :
    mOp P ops I L j (fun a' F' => YieldsS P ops I oi v a' ∧ K (a'.put oi.dst v) F') a F := by
  obtain ⟨h1, h2, h3⟩ := Oper.apart_spec hap
  have h2' : ∀ d, oj.dst = some d → oi.dst ≠ some d := fun d hd hi' => h2 d hi' hd
  have keep : ∀ (a : Act), YieldsS P ops I oi v a → ∀ u, YieldsS P ops I oi v (a.put oj.dst u) := fun a hy u => by
    unfold YieldsS at *
    rw [wanted_put oi a oj.dst u h3]
    exact hy.imp (fun hh => ⟨hh.1, late_put' hsi h3 h2' hh.2⟩) id
  unfold mOp at *
  cases hl : L j with
  | none =>
    simp only [hj, hl] at h ⊢
    rw [wanted_put oj a oi.dst v h1] at h
    split
    · rename_i hw
      simp only [hw, if_true] at h
      obtain ⟨u, hu, hn⟩ := h
      exact ⟨u, late_put hsj h1 h2 hu, keep a hy u, by rw [← Act.put_comm a v u h2]; exact hn⟩
    · rename_i hw
      simp only [hw] at h
      exact ⟨keep a hy _, by rw [← Act.put_comm a v undef h2]; exact h⟩
  | some T =>
    simp only [hj, hl] at h ⊢
    exact ⟨h.1, lateF_put hsj h1 h2 h.2.1, fun u => ⟨keep a hy u, by rw [← Act.put_comm a v u h2]; exact h.2.2 u⟩⟩
theorem mOp_same {j : Nat} {a : Act} {F : World → Prop} {K K' : Act → (World → Prop) → Prop} (h : ∀ a F, K a F → K' a F) (hh : mOp P ops I L j K a F) : mOp P ops I L j K' a F := by
  unfold mOp at *
  split
  · rename_i o ho hl
    simp only [ho, hl] at hh
    split
    · rename_i hw; simp only [hw, if_true] at hh; obtain ⟨v, h1, h2⟩ := hh; exact ⟨v, h1, h _ _ h2⟩
    · rename_i hw; simp only [hw] at hh; exact h _ _ hh
  · rename_i o T ho hl
    simp only [ho, hl] at hh
    exact ⟨hh.1, hh.2.1, fun v => h _ _ (hh.2.2 v)⟩
  · rename_i ho
    simp only [ho] at hh
theorem wpAnyM_first {n i : Nat} {oi : Oper} {v : Value} {Fin : Array Bool → Act → (World → Prop) → Prop} (hi : ops[i]? = some oi) (hl : L i = none) (hsel : ∀ (j : Nat) (o : Oper) cs b, ops[j]? = some o → o.op ≠ .select cs b)
    (ht : Region.tailB md ops n = true) (hin : i < n) (hdone : ∀ listed a F, Fin listed a F → ∀ j ∈ Region.ready md ops listed, n ≤ j) :
    ∀ (f : Nat) (listed : Array Bool) (a : Act) (F : World → Prop), HeadInv md ops n listed →
      (∀ j oj, ops[j]? = some oj → j ≠ i → listed.getD j true = false → (∀ e ∈ oj.after, Region.binds md e = true → e.on ≠ i) → oi.apart ops oj = true) →
      i ∈ Region.ready md ops listed → YieldsS P ops I oi v a →
      wpAnyM P md ops I L n Fin f (listed.setIfInBounds i true) (a.put oi.dst v) F → wpAnyM P md ops I L n Fin (f + 1) listed a F := by
  intro f
  induction f with
  | zero =>
    intro listed a F inv _ hr hy H
    have hun := (mem_ready.1 hr).1
    refine ⟨fun h => (by rw [h] at hr; cases hr), fun j hj => ?_⟩
    have hjn := ready_lt ht inv hin hun hj
    refine ⟨hjn, ?_⟩
    by_cases hji : j = i
    · subst hji; exact YieldsS_mOp hi hl hy H
    · have := hdone _ _ _ H j (ready_mono hj hji)
      omega
  | succ f ih =>
    intro listed a F inv hfree hr hy H
    have hun := (mem_ready.1 hr).1
    refine ⟨fun h => (by rw [h] at hr; cases hr), fun j hj => ?_⟩
    have hjn := ready_lt ht inv hin hun hj
    refine ⟨hjn, ?_⟩
    by_cases hji : j = i
    · subst hji; exact YieldsS_mOp hi hl hy H
    · have h1 := (H.2 j (ready_mono hj hji)).2
      obtain ⟨hjun, oj, hoj, hall⟩ := mem_ready.1 hj
      have hnot : ∀ e ∈ oj.after, Region.binds md e = true → e.on ≠ i := fun e he hb heq => by
        have h1 := hall e he hb
        rw [heq, getD_both hun] at h1
        cases h1
      have h2 := mOp_put hoj (hfree j oj hoj hji hjun hnot) (fun cs b => hsel i oi cs b hi) (fun cs b => hsel j oj cs b hoj) hy h1
      have hfree' : ∀ k ok, ops[k]? = some ok → k ≠ i → (listed.setIfInBounds j true).getD k true = false →
          (∀ e ∈ ok.after, Region.binds md e = true → e.on ≠ i) → oi.apart ops ok = true := fun k ok hk hki hun hno => by
        refine hfree k ok hk hki ?_ hno
        by_cases hjk : j = k
        · subst hjk; exact hjun
        · rw [getD_set_ne true hjk] at hun; exact hun
      refine mOp_same (fun a' F' h3 => ih (listed.setIfInBounds j true) a' F' (inv.set hj hjn) hfree' (ready_mono hr (Ne.symm hji)) h3.1 ?_) h2
      rw [Array.setIfInBounds_comm _ _ hji]
      exact h3.2
def wpSteady (P : Program) (ops : Array Oper) (I : World → Prop) (K : Act → Prop) : List Nat → Act → Prop
  | [], a => K a
  | i :: l, a => match ops[i]? with
    | none => False
    | some o => if Region.wanted o (yielded ops a.tmps) then ∃ v, Steady P o a I v ∧ wpSteady P ops I K l (a.put o.dst v) else wpSteady P ops I K l (a.put o.dst undef)
theorem wpAnyM_ord {n m : Nat} {late : List Nat} {Fin : Array Bool → Act → (World → Prop) → Prop} {F : World → Prop} {K : Act → Prop} (hsel : Region.noSelect ops = true)
    (ht : Region.tailB md ops n = true) (hdone : ∀ listed a F, Fin listed a F → ∀ j ∈ Region.ready md ops listed, n ≤ j) (hL : ∀ i, late.contains i = false → L i = none)
    (hK : ∀ a listed, HeadInv md ops n listed → Region.ordB md ops n late [] listed = true → K a → wpAnyM P md ops I L n Fin m listed a F) :
    ∀ (l : List Nat) (listed : Array Bool) (a : Act), HeadInv md ops n listed → Region.ordB md ops n late l listed = true → wpSteady P ops I K l a →
      wpAnyM P md ops I L n Fin (l.length + m) listed a F
  | [], listed, a, inv, hB, h => by rw [List.length_nil, Nat.zero_add]; exact hK _ _ inv hB h
  | i :: l, listed, a, inv, hB, h => by
    simp only [Region.ordB, Bool.and_eq_true, decide_eq_true_eq, Bool.not_eq_true'] at hB
    obtain ⟨⟨⟨⟨hin, hnl⟩, hr⟩, hf⟩, hB'⟩ := hB
    have hr' : i ∈ Region.ready md ops listed := by simpa using hr
    unfold wpSteady at h
    cases ho : ops[i]? with
    | none => simp only [ho] at h
    | some o =>
      simp only [ho] at h
      obtain ⟨v, hy, hk⟩ : ∃ v, YieldsS P ops I o v a ∧ wpSteady P ops I K l (a.put o.dst v) := by
        by_cases hw : Region.wanted o (yielded ops a.tmps) = true
        · simp only [hw, if_true] at h
          obtain ⟨v, h1, h2⟩ := h
          exact ⟨v, .inl ⟨hw, h1⟩, h2⟩
        · simp only [hw] at h
          exact ⟨undef, .inr ⟨by simpa using hw, rfl⟩, h⟩
      rw [List.length_cons, show l.length + 1 + m = (l.length + m) + 1 by omega]
      exact wpAnyM_first ho (hL i hnl) (Region.noSelect_spec hsel) ht hin hdone (l.length + m) listed a F inv (Region.free_spec ho hf) hr' hy
        (wpAnyM_ord hsel ht hdone hL hK l _ _ (inv.set hr' hin) hB' hk)
def wpChain (P : Program) (ops : Array Oper) (I : World → Prop) (E : Act → (World → Prop) → Prop) : List (Nat × (Value → World → Prop)) → Act → (World → Prop) → Prop
  | [], a, F => E a F
  | p :: l, a, F => match ops[p.1]? with
    | none => False
    | some o => o.guard = none ∧ LateF P o a I F p.2 ∧ ∀ v, wpChain P ops I E l (a.put o.dst v) (fun w => p.2 v w)
theorem wpChain_mono {E E' : Act → (World → Prop) → Prop} (hE : ∀ a F F', (∀ w, F' w → F w) → E a F → E' a F') : ∀ (l : List (Nat × (Value → World → Prop))) (a : Act) (F F' : World → Prop), (∀ w, F' w → F w) → wpChain P ops I E l a F → wpChain P ops I E' l a F'
  | [], _, _, _, hF, h => hE _ _ _ hF h
  | p :: l, a, F, F', hF, h => by
    unfold wpChain at *
    split
    · rename_i ho; simp only [ho] at h
    · rename_i o ho
      simp only [ho] at h
      exact ⟨h.1, h.2.1.weak hF, fun v => wpChain_mono hE l _ _ _ (fun w hw => hw) (h.2.2 v)⟩

theorem wpAnyM_chain {n g : Nat} {E : Act → (World → Prop) → Prop} (ht : Region.tailB md ops n = true) (hd : Region.downB md ops = true) (hn : n ≤ ops.size) (hseq : Region.seqB md ops g n (Region.canon ops n) = true) :
    ∀ (m : Nat) (lc : List (Nat × (Value → World → Prop))) (listed : Array Bool) (a : Act) (F : World → Prop), lc.length = m → HeadInv md ops n listed →
      Ch.chainC md ops (lc.map (·.1)) = true → (lc.map (·.1)).Nodup → (∀ p ∈ lc, L p.1 = some p.2) → (∀ i, i < n → (listed.getD i true = false ↔ i ∈ lc.map (·.1))) → (∀ p ∈ lc, p.1 < n) →
      wpChain P ops I E lc a F → wpAnyM P md ops I L n (fun listed' a' F' => Region.seqB md ops g n listed' = true ∧ E a' F') m listed a F := by
  intro m
  induction m with
  | zero =>
    intro lc listed a F hlen inv _ _ _ hun _ h
    obtain rfl := List.length_eq_zero_iff.1 hlen
    refine ⟨?_, h⟩
    have : listed = Region.canon ops n := by
      refine Array.ext (by simp [Region.canon, inv.size]) fun i hi hi' => ?_
      simp only [Region.canon, List.getElem_toArray, List.getElem_map, List.getElem_range]
      by_cases hin : i < n
      · have := (hun i hin).1
        simp [hi] at this
        simp [this, hin]
      · have h2 := inv.tail i (by omega) (by rw [← inv.size]; exact hi)
        simp [hi] at h2
        simp [h2, hin]
    rw [this]; exact hseq
  | succ m ih =>
    intro lc listed a F hlen inv hcc hnd hLc hun hltc h
    cases lc with
    | nil => simp at hlen
    | cons p lc =>
      have hp0 : listed.getD p.1 true = false := (hun p.1 (hltc p (by simp))).2 (by simp)
      refine ⟨ready_some hd p.1 (by have := hltc p (by simp); omega) hp0, fun j hj => ?_⟩
      have hjn := ready_lt ht inv (hltc p (by simp)) hp0 hj
      refine ⟨hjn, ?_⟩
      have hsz : j < listed.size := by rw [inv.size]; omega
      have hjl := (hun j hjn).1 (mem_ready.1 hj).1
      have hjp : j = p.1 := by
        rcases List.mem_cons.1 (by simpa using hjl : j ∈ p.1 :: lc.map (·.1)) with h1 | h1
        · exact h1
        · exact absurd hj (Ch.chain_head (lc.map (·.1)) p.1 (by simpa using hcc) (fun k hk => (hun k (by
            obtain ⟨q, hq, rfl⟩ := List.mem_map.1 (by simpa using hk : k ∈ (p :: lc).map (·.1))
            exact hltc q hq)).2 (by simpa using hk)) j h1)
      subst hjp
      unfold wpChain at h
      cases ho : ops[p.1]? with
      | none => simp only [ho] at h
      | some o =>
        simp only [ho] at h
        unfold mOp
        simp only [ho, hLc p (by simp)]
        have hnd' := List.nodup_cons.1 (by simpa using hnd : (p.1 :: lc.map (·.1)).Nodup)
        refine ⟨h.1, h.2.1, fun v => ih lc _ _ _ (by simpa using hlen) (inv.set hj hjn) ?_ hnd'.2 (fun q hq => hLc q (List.mem_cons_of_mem _ hq)) ?_ (fun q hq => hltc q (List.mem_cons_of_mem _ hq)) (h.2.2 v)⟩
        · cases lc with
          | nil => rfl
          | cons q lc => simp only [List.map_cons, Ch.chainC, Bool.and_eq_true] at hcc ⊢; exact hcc.2
        · intro i hin
          by_cases hij : p.1 = i
          · subst hij
            constructor
            · intro h2; simp [hsz] at h2
            · intro h2; exact absurd h2 hnd'.1
          · rw [getD_set_ne true hij, hun i hin]
            simp only [List.map_cons, List.mem_cons]
            constructor
            · rintro (h2 | h2)
              · exact absurd h2.symm hij
              · exact h2
            · intro h2; exact .inr h2

theorem wpSteady_mono {K K' : Act → Prop} (h : ∀ a, K a → K' a) : ∀ (l : List Nat) (a : Act), wpSteady P ops I K l a → wpSteady P ops I K' l a
  | [], a, hh => h a hh
  | i :: l, a, hh => by
    unfold wpSteady at *
    split
    · rename_i ho; simp only [ho] at hh
    · rename_i o ho
      simp only [ho] at hh
      split
      · rename_i hw; simp only [hw, if_true] at hh; obtain ⟨v, h1, h2⟩ := hh; exact ⟨v, h1, wpSteady_mono h l _ h2⟩
      · rename_i hw; simp only [hw] at hh; exact wpSteady_mono h l _ hh

/-- All that is to be checked of the region's text. -/
def ringB (md : Region.Mode) (ops : Array Oper) (n : Nat) (ord c : List Nat) : Bool :=
  Region.noSelect ops && decide (n ≤ ops.size) && decide (ord.length + c.length = n) && c.all (fun i => decide (i < n)) && Region.tailB md ops n && Region.downB md ops && Region.seqB md ops (ops.size - n) n (Region.canon ops n) &&
    Region.ordB md ops n c ord (Array.replicate ops.size false) && Ch.chainC md ops c && decide (c.Nodup)

include hI in
theorem wpAny_ring {Q : Exit → Act → World → Prop} {a : Act} {w : World} {l : List Oper} (n : Nat) (ord : List Nat) (c : List (Nat × (Value → World → Prop)))
    (hB : ringB .any l.toArray n ord (c.map (·.1)) = true) (hT : ∀ p ∈ c, ∀ v, Stays (p.2 v)) (hw : I w) {F0 : World → Prop} (hF0 : Stays F0) (hw0 : F0 w)
    (h : wpSteady P l.toArray I (fun a' => wpChain P l.toArray I (fun a'' F => ∀ w', I w' → F w' → wpList P l.toArray Q (l.drop n) a'' w') c a' F0) ord a) :
    wpAny P .any l.toArray Q l.toArray.size (Array.replicate l.toArray.size false) a w := by
  simp only [ringB, Bool.and_eq_true, decide_eq_true_eq] at hB
  obtain ⟨⟨⟨⟨⟨⟨⟨⟨⟨hsel, hn⟩, hlen⟩, hltc⟩, ht⟩, hd⟩, hseq⟩, hord⟩, hcc⟩, hnd⟩ := hB
  let L : Nat → Option (Value → World → Prop) := fun i => (c.find? fun p => p.1 == i).map (·.2)
  have hLn : ∀ i, (c.map (·.1)).contains i = false → L i = none := fun i hi => by
    simp only [L, Option.map_eq_none_iff, List.find?_eq_none]
    intro p hp he
    have : (c.map (·.1)).contains i = true := by simpa using ⟨p.2, by simpa [← (beq_iff_eq.1 he)] using hp⟩
    rw [hi] at this; cases this
  have hLs : ∀ p ∈ c, L p.1 = some p.2 := fun p hp => lookup_late c p hp hnd
  have hLT : ∀ i T, L i = some T → ∀ v, Stays (T v) := fun i T hi v => by
    simp only [L, Option.map_eq_some_iff] at hi
    obtain ⟨p, hp, rfl⟩ := hi
    exact hT p (List.mem_of_find?_eq_some hp) v
  have inv0 : HeadInv .any l.toArray n (Array.replicate l.toArray.size false) :=
    ⟨by simp, fun j oj _ hl => (by rw [getD_replicate_false] at hl; cases hl), fun t _ ht => getD_in (by simpa using ht) (getD_replicate_false _ _)⟩
  have hdl : (l.drop n).length = l.toArray.size - n := by simp
  have H := wpAnyM_ord (P := P) (I := I) (L := L) (m := c.length) (late := c.map (·.1)) (F := F0)
    (Fin := fun listed a F => Region.seqB .any l.toArray (l.toArray.size - n) n listed = true ∧ ∀ w', I w' → F w' → wpList P l.toArray Q (l.drop n) a w')
    hsel ht (fun listed a F hf => seqB_ready hf.1) hLn (fun a listed inv hB hk => by
      refine wpAnyM_chain ht hd hn hseq c.length c listed a _ rfl inv hcc hnd hLs (fun i hi => ?_) (fun p hp => ?_) hk
      · have := List.all_eq_true.1 hB i (List.mem_range.2 hi)
        simp only [beq_iff_eq] at this
        rw [Bool.eq_iff_iff] at this
        simp only [beq_iff_eq, List.contains_iff_mem] at this
        exact this
      · have := List.all_eq_true.1 hltc p.1 (List.mem_map_of_mem hp)
        simpa using this) ord _ a inv0 hord h
  have hfin := wpAny_of_M hI (P := P) (md := .any) (ops := l.toArray) (Q := Q) (g := l.toArray.size - n) hLT (fun listed a F w' hw hF hf => by
    have := wpAny_of_seq (md := .any) (Q' := Q) (l.drop n) n listed a w' (fun j => by simp [List.getElem?_drop]) (by rw [hdl]; exact hf.1) (hf.2 w' hw hF)
    rwa [hdl] at this) _ _ _ _ w hF0 hw hw0 H
  have hl2 : ord.length + c.length + (l.toArray.size - n) = l.toArray.size := by simp only [List.length_map] at hlen; omega
  rwa [hl2] at hfin

def wpSteadyL (P : Program) (ops : Array Oper) (I : World → Prop) (K : Act → Prop) : List Oper → Act → Prop
  | [], a => K a
  | o :: l, a => if Region.wanted o (yielded ops a.tmps) then ∃ v, Steady P o a I v ∧ wpSteadyL P ops I K l (a.put o.dst v) else wpSteadyL P ops I K l (a.put o.dst undef)
theorem steady_of_list {K : Act → Prop} : ∀ (m : List Bool) (k : Nat) (l : List Oper) (a : Act), (∀ j, l[j]? = ops[k + j]?) → m.length ≤ l.length → wpSteadyL P ops I K (pickM l m) a → wpSteady P ops I K (idxM k m) a
  | [], _, l, _, _, _, h => by cases l <;> exact h
  | b :: m, k, [], _, _, hl, _ => by simp at hl
  | b :: m, k, o :: l, a, hj, hl, h => by
    have h0 : ops[k]? = some o := by simpa using (hj 0).symm
    have hj' : ∀ j, l[j]? = ops[k + 1 + j]? := fun j => by have := hj (j + 1); simpa [Nat.add_assoc, Nat.add_comm 1 j] using this
    have hl' : m.length ≤ l.length := by simpa using hl
    cases b with
    | false => exact steady_of_list m (k + 1) l a hj' hl' h
    | true =>
      simp only [pickM, wpSteadyL] at h
      simp only [idxM, wpSteady, h0]
      split
      · rename_i hw
        rw [if_pos hw] at h
        obtain ⟨v, h1, h2⟩ := h
        exact ⟨v, h1, steady_of_list m (k + 1) l _ hj' hl' h2⟩
      · rename_i hw
        rw [if_neg hw] at h
        exact steady_of_list m (k + 1) l _ hj' hl' h
structure WSteady (P : Program) (ops : Array Oper) (I : World → Prop) (K : Act → Prop) (l : List Oper) (a : Act) : Prop where
  out : wpSteadyL P ops I K l a
structure WChain (P : Program) (ops : Array Oper) (I : World → Prop) (E : Act → (World → Prop) → Prop) (l : List (Nat × (Value → World → Prop))) (a : Act) (F : World → Prop) : Prop where
  out : wpChain P ops I E l a F

include hI in
/-- ONE WALK SERVES EVERY ORDER: mask: the steady ones; c: the chain. -/
theorem wp_region_rr {id : Nat} {Q : Exit → Act → World → Prop} {a : Act} {w : World} {l : List Oper} (n : Nat) (mask : List Bool) (c : List (Nat × (Value → World → Prop)))
    (hm : P.follows .mixedOrders = true) (hB : (ringB .any l.toArray n (idxM 0 mask) (c.map (·.1)) && decide (mask.length ≤ l.length)) = true) (hT : ∀ p ∈ c, ∀ v, Stays (p.2 v)) (hw : I w.drew) {F0 : World → Prop} (hF0 : Stays F0) (hw0 : F0 w.drew)
    (h : WSteady P l.toArray I (fun a' => WChain P l.toArray I (fun a'' F => ∀ w', I w' → F w' → wpList P l.toArray Q (l.drop n) a'' w') c a' F0) (pickM l mask) a) :
    (Code.region id l.toArray true).wp P Q a w := by
  simp only [Bool.and_eq_true, decide_eq_true_eq] at hB
  refine wp_region_any hm ?_
  have h2 := steady_of_list mask 0 l a (by simp) hB.2 h.out
  exact wpAny_ring hI n (idxM 0 mask) c hB.1 hT hw hF0 hw0 (wpSteady_mono (fun a h => h.out) _ _ h2)

theorem steady_go {w0 : World} (hw0 : I w0) {K : Act → Prop} {l : List Oper} {a a' : Act} {o : Oper} (hg : Region.wanted o (yielded ops a.tmps) = true) (hd : a'.defers = a.defers)
    (h : ∀ w, I w → ∀ (K : Act → World → Prop) (Q : Exit → Act → World → Prop), (∀ w', Mod [] w w' → K a' w') → o.wp P a w K Q) (hr : WSteady P ops I K l a') : WSteady P ops I K (o :: l) a := by
  refine ⟨?_⟩
  obtain ⟨u, hu⟩ := put_of_wp (R := fun _ => True) hd (h w0 hw0 _ _ fun w' _ => ⟨rfl, trivial⟩)
  unfold wpSteadyL
  rw [if_pos hg]
  refine ⟨u, fun w hw => h w hw _ _ fun w' m => ⟨u, hu.symm, m, rfl⟩, ?_⟩
  rw [hu]
  exact hr.out
theorem steady_pass {K : Act → Prop} {l : List Oper} {a : Act} {o : Oper} (hg : Region.wanted o (yielded ops a.tmps) = false) (hp : a.put o.dst undef = a) (hr : WSteady P ops I K l a) : WSteady P ops I K (o :: l) a := by
  refine ⟨?_⟩
  unfold wpSteadyL
  rw [if_neg (by rw [hg]; exact Bool.false_ne_true), hp]
  exact hr.out
theorem steady_done {K : Act → Prop} {a : Act} (h : K a) : WSteady P ops I K [] a := ⟨h⟩
theorem chain_go {E : Act → (World → Prop) → Prop} {i : Nat} {T : Value → World → Prop} {l : List (Nat × (Value → World → Prop))} {a : Act} {F : World → Prop} {o : Oper} {f : Value → Act} (ho : ops[i]? = some o) (hg : o.guard = none) (hf : ∀ v, f v = a.put o.dst v)
    (h : ∀ w, I w → F w → ∀ (K : Act → World → Prop) (Q : Exit → Act → World → Prop), (∀ v w', I w' → T v w' → K (f v) w') → o.wp P a w K Q)
    (hk : ∀ v, WChain P ops I E l (f v) (fun w => T v w)) : WChain P ops I E ((i, T) :: l) a F := by
  refine ⟨?_⟩
  unfold wpChain
  simp only [ho]
  refine ⟨hg, fun w hw hF => h w hw hF _ _ fun v w' m t => ⟨v, hf v, m, t⟩, fun v => ?_⟩
  rw [← hf v]
  exact (hk v).out
theorem chain_end {E : Act → (World → Prop) → Prop} {a : Act} {F : World → Prop} (h : E a F) : WChain P ops I E [] a F := ⟨h⟩
end

/-- A value that is known, behind the call. -/
def Know (Post : World → Prop) (r : Value) (v : Value) (w : World) : Prop := v = r ∧ Post w
theorem know_stays {Post : World → Prop} (hP : Stays Post) (r v : Value) : Stays (Know Post r v) := fun w w' h k => ⟨h.1, hP _ _ h.2 k⟩
theorem mod_stays (W : World) : Stays (Mod [] W) := fun w w' h k => h.then k
theorem any_stays : ∀ w w' : World, True → Mod [] w w' → True := fun _ _ _ _ => trivial
end Rg
end Go.Proofs.YtoidfnknckfjhaaGreatDoor
