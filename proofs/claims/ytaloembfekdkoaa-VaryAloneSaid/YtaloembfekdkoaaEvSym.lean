/-
  The evaluator: numbers that are not known, and answers that are known. No condition.
-/
import Derived.Test.YtaloembfekdkoaaEvDr
namespace Go.Proofs.Ytaloembfekdkoaa.Ev
set_option linter.unusedVariables false
set_option linter.unusedSimpArgs false
set_option linter.unusedSectionVars false
set_option linter.unusedSectionVars false
open Go.RowKit
variable [Val]
def pureV (n : Nat) : Value → Bool :=
  Nat.rec (motive := fun _ => Value → Bool) (fun _ => false)
    (fun _ ih v => match v with
      | .bool _ | .int _ _ | .chan (some (Nat.succ _)) => true
      | .agg cs | .tuple cs => cs.toList.all ih
      | _ => false) n
def den (n : Nat) : Value → Value :=
  Nat.rec (motive := fun _ => Value → Value) (fun v => v)
    (fun _ ih v => match v with
      | .chan (some (Nat.succ i)) => .int (Val.kind i) (Val.num i)
      | .agg cs => .agg ⟨cs.toList.map ih⟩
      | .tuple cs => .tuple ⟨cs.toList.map ih⟩
      | v => v) n
theorem den_ok {σ : Sg} : ∀ (n : Nat) {v v' : Value}, pureV n v = true → VR σ v v' → v' = den n v := by
  intro n
  induction n with
  | zero => intro v v' h; cases h
  | succ n ih =>
    have ihl : ∀ {l l' : List Value}, l.all (pureV n) = true → RL σ l l' → l' = l.map (den n) := by
      intro l
      induction l with
      | nil => intro l' _ r; cases r; rfl
      | cons v l ihl =>
        intro l' h r
        cases r with
        | cons k t =>
          simp only [List.all_cons, Bool.and_eq_true] at h
          rw [ih h.1 k, ihl h.2 t]
          rfl
    intro v v' h r
    cases r with
    | bool | int => rfl
    | sym i => rfl
    | agg k => exact congrArg Value.agg (Array.ext' (ihl h k))
    | tuple k => exact congrArg Value.tuple (Array.ext' (ihl h k))
    | _ => exact absurd h (by simp [pureV])
theorem den_vr (σ : Sg) : ∀ (n : Nat) {v : Value}, pureV n v = true → VR σ v (den n v) := by
  intro n
  induction n with
  | zero => intro v h; cases h
  | succ n ih =>
    have ihl : ∀ {l : List Value}, l.all (pureV n) = true → RL σ l (l.map (den n)) := by
      intro l
      induction l with
      | nil => intro _; exact .nil
      | cons v l ihl =>
        intro h
        simp only [List.all_cons, Bool.and_eq_true] at h
        exact .cons (ih h.1) (ihl h.2)
    intro v h
    cases v with
    | bool b => exact .bool b
    | int k m => exact .int k m
    | chan r =>
      cases r with
      | none => cases h
      | some r =>
        cases r with
        | zero => cases h
        | succ i => exact .sym i
    | agg cs => exact .agg (ihl h)
    | tuple cs => exact .tuple (ihl h)
    | _ => exact absurd h (by simp [pureV])
theorem dens_ok {σ : Sg} (n : Nat) : ∀ {l l' : List Value}, l.all (pureV n) = true → RL σ l l' → l' = l.map (den n)
  | _, _, _, .nil => rfl
  | _, _, h, .cons k t => by
    simp only [List.all_cons, Bool.and_eq_true] at h
    rw [den_ok n h.1 k, dens_ok n h.2 t]
    rfl
def sameOp : BinOp → BinOp → Bool
  | .add, .add | .sub, .sub | .mul, .mul | .quo, .quo | .rem, .rem | .eql, .eql | .neq, .neq | .lss, .lss | .leq, .leq | .gtr, .gtr | .geq, .geq => true
  | _, _ => false
theorem sameOp_eq {a b : BinOp} (h : sameOp a b = true) : a = b := by cases a <;> cases b <;> first | rfl | (cases h; done)
structure Tab where
  bins : List (BinOp × Value × Value × Value)
  calls : List (FuncId × List Value × Value)
def findB (op : BinOp) (a b : Value) : List (BinOp × Value × Value × Value) → Option Value
  | [] => none
  | (op', a', b', r) :: l => cond (sameOp op op' && veq 3 a a' && veq 3 b b') (some r) (findB op a b l)
def findC (f : FuncId) (args : List Value) : List (FuncId × List Value × Value) → Option Value
  | [] => none
  | (f', as', r) :: l => cond (Nat.beq f f' && Nat.beq args.length as'.length && (args.zip as').all fun p => veq 3 p.1 p.2) (some r) (findC f args l)
theorem findB_mem {op : BinOp} {a b r : Value} : ∀ {l : List (BinOp × Value × Value × Value)}, findB op a b l = some r → (op, a, b, r) ∈ l
  | [], h => by cases h
  | (op', a', b', r') :: l, h => by
    unfold findB at h
    cases hc : (sameOp op op' && veq 3 a a' && veq 3 b b') with
    | true =>
      rw [hc] at h
      simp only [cond_true] at h
      cases h
      rw [Bool.and_eq_true, Bool.and_eq_true] at hc
      rw [sameOp_eq hc.1.1, veq_eq 3 hc.1.2, veq_eq 3 hc.2]
      exact List.mem_cons_self ..
    | false =>
      rw [hc] at h
      exact List.mem_cons_of_mem _ (findB_mem h)
theorem zip_eq {n : Nat} : ∀ {l r : List Value}, l.length = r.length → ((l.zip r).all fun p => veq n p.1 p.2) = true → l = r
  | [], [], _, _ => rfl
  | [], _ :: _, h, _ => by simp at h
  | _ :: _, [], h, _ => by simp at h
  | v :: l, w :: r, hl, h => by
    simp only [List.zip_cons_cons, List.all_cons, Bool.and_eq_true] at h
    rw [veq_eq n h.1, zip_eq (by simpa using hl) h.2]
theorem findC_mem {f : FuncId} {args : List Value} {r : Value} : ∀ {l : List (FuncId × List Value × Value)}, findC f args l = some r → (f, args, r) ∈ l
  | [], h => by cases h
  | (f', as', r') :: l, h => by
    unfold findC at h
    cases hc : (Nat.beq f f' && Nat.beq args.length as'.length && (args.zip as').all fun p => veq 3 p.1 p.2) with
    | true =>
      rw [hc] at h
      simp only [cond_true] at h
      cases h
      rw [Bool.and_eq_true, Bool.and_eq_true] at hc
      rw [Nat.eq_of_beq_eq_true hc.1.1, zip_eq (Nat.eq_of_beq_eq_true hc.1.2) hc.2]
      exact List.mem_cons_self ..
    | false =>
      rw [hc] at h
      exact List.mem_cons_of_mem _ (findC_mem h)
abbrev Tab.orc (T : Tab) (P : Program) : Orc P := ⟨fun op _ a b => findB op a b T.bins, fun f args _ => findC f args T.calls, fun _ => none⟩
def BinOk (e : BinOp × Value × Value × Value) : Prop :=
  pureV 3 e.2.1 = true ∧ pureV 3 e.2.2.1 = true ∧ pureV 3 e.2.2.2 = true ∧ ∃ k m m', den 3 e.2.1 = .int k m ∧ den 3 e.2.2.1 = .int k m' ∧ opInt e.1 k m m' = some (den 3 e.2.2.2)
def CallOk (P : Program) (e : FuncId × List Value × Value) : Prop :=
  e.2.1.all (pureV 3) = true ∧ pureV 3 e.2.2 = true ∧ ∀ w, Calls P e.1 ⟨e.2.1.map (den 3)⟩ w fun x w' => x = .returned (den 3 e.2.2) ∧ Below w.heap.size w w'
theorem Tab.ok {P : Program} (T : Tab) (hb : ∀ e ∈ T.bins, BinOk e) (hc : ∀ e ∈ T.calls, CallOk P e) : @OrcOk _ P (T.orc P) := by
  refine @OrcOk.mk _ P (T.orc P) ?_ ?_ (fun h => by cases h) (fun h => by cases h) (fun h => by cases h) (fun h => by cases h) rfl
  · intro op t t2 a b r h σ ρ' o x y ho ha hb' w
    obtain ⟨h1, h2, h3, k, m, m', h4, h5, h6⟩ := hb _ (findB_mem h)
    have hx := den_ok 3 h1 ha
    have hy := den_ok 3 h2 hb'
    simp only at h4 h5 h6 h3 hx hy
    refine ⟨den 3 r, ?_, den_vr σ 3 h3⟩
    rw [h4] at hx
    rw [h5] at hy
    have h7 := @opInt_run _ P (noOrc P) (noOk P) w op t k m m' _ h6
    have hg : (eqGuard op t x y (.int k m) (.int k m')).run P w = .ok () w := by cases op <;> simp [eqGuard]
    simp [execOp, ho, hx, hy, hg, h7]
  · intro f args h v hh σ w args' hr ha
    obtain ⟨h1, h2, h3⟩ := hc _ (findC_mem hh)
    have he := dens_ok 3 h1 ha
    have he2 : args' = ⟨args.map (den 3)⟩ := by apply Array.ext'; exact he
    rw [he2]
    refine (h3 w).mono fun e w' ⟨q1, q2⟩ => ⟨_, q1, den_vr σ 3 h2, q2⟩
def allTrue (r : Option (List OutS)) : Bool := match r with
  | some r => r.all fun o => match o.out with
    | .ret u => veq 6 u (.bool true)
    | _ => false
  | none => false
omit [Val] in
theorem allTrue_some {r : Option (List OutS)} (h : allTrue r = true) : ∃ l, r = some l ∧ (l.all fun o => match o.out with | .ret u => veq 6 u (.bool true) | _ => false) = true := by
  cases r with
  | none => cases h
  | some l => exact ⟨l, rfl, h⟩
def tl : Nat → Code → Code
  | 0, c => c
  | k + 1, .seq _ y => tl k y
  | _, c => c
end Go.Proofs.Ytaloembfekdkoaa.Ev
