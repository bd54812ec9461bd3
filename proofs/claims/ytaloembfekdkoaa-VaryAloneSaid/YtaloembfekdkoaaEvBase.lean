/-
  The evaluator: tries, values, memory, told and real. No condition.
-/
import Derived.Calls
import Derived.Laws.Strings
import Derived.Below
import Derived.Laws.Cells
import Derived.Test.YtaloembfekdkoaaEvDef
namespace Go.Proofs.Ytaloembfekdkoaa.Ev
set_option linter.unusedVariables false
set_option linter.unusedSimpArgs false
set_option linter.unusedSectionVars false
theorem T.get_succ {α : Type} (l r : T α) (v : Option α) (m : Nat) : (T.node l v r).get (m + 1) = if m % 2 = 1 then r.get (m / 2) else l.get (m / 2) := by
  show Bool.rec (motive := fun _ => Option α) (l.get (Nat.div m 2)) (r.get (Nat.div m 2)) (Nat.beq (Nat.mod m 2) 1) = _
  have e : Nat.beq (Nat.mod m 2) 1 = decide (m % 2 = 1) := by
    cases h : Nat.beq (Nat.mod m 2) 1
    · have h1 : ¬ m % 2 = 1 := Nat.ne_of_beq_eq_false h
      exact (decide_eq_false h1).symm
    · have h1 : m % 2 = 1 := Nat.eq_of_beq_eq_true h
      exact (decide_eq_true h1).symm
  rw [e]
  by_cases h : m % 2 = 1 <;> simp [h] <;> rfl
theorem T.setF_succ {α : Type} (v : α) (f : Nat) (t : T α) (m : Nat) :
    T.setF v (f + 1) t (m + 1) = (match t with
      | .nil => if m % 2 = 1 then .node .nil none (T.setF v f .nil (m / 2)) else .node (T.setF v f .nil (m / 2)) none .nil
      | .node l x r => if m % 2 = 1 then .node l x (T.setF v f r (m / 2)) else .node (T.setF v f l (m / 2)) x r) := by
  have e : Nat.beq (Nat.mod m 2) 1 = decide (m % 2 = 1) := by
    cases h : Nat.beq (Nat.mod m 2) 1
    · have h1 : ¬ m % 2 = 1 := Nat.ne_of_beq_eq_false h
      exact (decide_eq_false h1).symm
    · have h1 : m % 2 = 1 := Nat.eq_of_beq_eq_true h
      exact (decide_eq_true h1).symm
  cases t with
  | nil =>
    show Bool.rec (motive := fun _ => T α) (.node (T.setF v f .nil (Nat.div m 2)) none .nil) (.node .nil none (T.setF v f .nil (Nat.div m 2))) (Nat.beq (Nat.mod m 2) 1) = _
    rw [e]
    by_cases h : m % 2 = 1 <;> simp [h] <;> rfl
  | node l x r =>
    show Bool.rec (motive := fun _ => T α) (.node (T.setF v f l (Nat.div m 2)) x r) (.node l x (T.setF v f r (Nat.div m 2))) (Nat.beq (Nat.mod m 2) 1) = _
    rw [e]
    by_cases h : m % 2 = 1 <;> simp [h] <;> rfl
theorem T.get_setF {α : Type} (v : α) : ∀ (f : Nat) (t : T α) (n m : Nat), n < f → (T.setF v f t n).get m = if m = n then some v else t.get m := by
  intro f
  induction f with
  | zero => intro t n m h; omega
  | succ f ih =>
    intro t n m h
    cases n with
    | zero =>
      cases t with
      | nil => cases m with
        | zero => rfl
        | succ m => show (T.node T.nil (some v) T.nil).get (m + 1) = _; rw [T.get_succ]; split <;> rfl
      | node l x r => cases m with
        | zero => rfl
        | succ m => show (T.node l (some v) r).get (m + 1) = _; rw [T.get_succ, T.get_succ, if_neg (show ¬ m + 1 = 0 by omega)]
    | succ n =>
      rw [T.setF_succ]
      have hlt : n / 2 < f := by omega
      cases t with
      | nil =>
        simp only
        split
        · rename_i hp
          cases m with
          | zero => rw [if_neg (by omega)]; rfl
          | succ m =>
            rw [T.get_succ, ih _ _ _ hlt]
            by_cases hq : m % 2 = 1
            · rw [if_pos hq]
              by_cases e : m = n
              · subst e; simp
              · rw [if_neg (by omega), if_neg (by omega)]; rfl
            · rw [if_neg hq, if_neg (by intro e; have : m = n := by omega
                                        subst this; exact hq hp)]; rfl
        · rename_i hp
          cases m with
          | zero => rw [if_neg (by omega)]; rfl
          | succ m =>
            rw [T.get_succ, ih _ _ _ hlt]
            by_cases hq : m % 2 = 1
            · rw [if_pos hq, if_neg (by intro e; have : m = n := by omega
                                        subst this; exact hp hq)]; rfl
            · rw [if_neg hq]
              by_cases e : m = n
              · subst e; simp
              · rw [if_neg (by omega), if_neg (by omega)]; rfl
      | node l x r =>
        simp only
        split
        · rename_i hp
          cases m with
          | zero => rw [if_neg (by omega)]; rfl
          | succ m =>
            rw [T.get_succ, T.get_succ, ih _ _ _ hlt]
            by_cases hq : m % 2 = 1
            · rw [if_pos hq, if_pos hq]
              by_cases e : m = n
              · subst e; simp
              · rw [if_neg (by omega), if_neg (by omega)]
            · rw [if_neg hq, if_neg hq, if_neg (by intro e; have : m = n := by omega
                                                   subst this; exact hq hp)]
        · rename_i hp
          cases m with
          | zero => rw [if_neg (by omega)]; rfl
          | succ m =>
            rw [T.get_succ, T.get_succ, ih _ _ _ hlt]
            by_cases hq : m % 2 = 1
            · rw [if_pos hq, if_pos hq, if_neg (by intro e; have : m = n := by omega
                                                   subst this; exact hp hq)]
            · rw [if_neg hq, if_neg hq]
              by_cases e : m = n
              · subst e; simp
              · rw [if_neg (by omega), if_neg (by omega)]
theorem T.get_set {α : Type} (t : T α) (n m : Nat) (v : α) : (t.set n v).get m = if m = n then some v else t.get m := T.get_setF v (n + 1) t n m (by omega)
theorem T.get_lay {α : Type} : ∀ (l : List α) (i : Nat) (t : T α) (m : Nat), (T.lay l i t).get m = if i ≤ m ∧ m < i + l.length then l[m - i]? else t.get m := by
  intro l
  induction l with
  | nil => intro i t m; show t.get m = _; rw [if_neg (by simp)]
  | cons v l ih =>
    intro i t m
    show (T.lay l (i + 1) (t.set i v)).get m = _
    rw [ih, T.get_set]
    by_cases h1 : i + 1 ≤ m ∧ m < i + 1 + l.length
    · rw [if_pos h1, if_pos (by simp; omega), show m - i = (m - (i + 1)) + 1 by omega]; simp
    · rw [if_neg h1]
      by_cases h2 : m = i
      · subst h2; rw [if_pos rfl, if_pos (by simp)]; simp
      · rw [if_neg h2, if_neg (by simp; omega)]
theorem T.row_spec {α : Type} (c : T α) : ∀ (k o : Nat) (l : List α), c.row k o = some l → l.length = k ∧ ∀ i, i < k → c.get (o + i) = l[i]? := by
  intro k
  induction k with
  | zero => intro o l h; cases h; exact ⟨rfl, fun i hi => by omega⟩
  | succ k ih =>
    intro o l h
    have h' : (match c.get o with
      | none => none
      | some v => match c.row k (o + 1) with
        | none => none
        | some l => some (v :: l)) = some l := h
    split at h'
    · cases h'
    · rename_i v hv
      split at h'
      · cases h'
      · rename_i r hr
        cases h'
        obtain ⟨h1, h2⟩ := ih _ _ hr
        refine ⟨by simp [h1], fun i hi => ?_⟩
        cases i with
        | zero => simpa using hv
        | succ i => rw [show o + (i + 1) = o + 1 + i by omega, h2 i (by omega)]; simp
theorem T.row_of {α : Type} (c : T α) : ∀ (k o : Nat), (∀ i, i < k → ∃ v, c.get (o + i) = some v) → ∃ l, c.row k o = some l := by
  intro k
  induction k with
  | zero => intro o _; exact ⟨[], rfl⟩
  | succ k ih =>
    intro o h
    obtain ⟨v, hv⟩ := h 0 (by omega)
    obtain ⟨l, hl⟩ := ih (o + 1) (fun i hi => by obtain ⟨u, hu⟩ := h (i + 1) (by omega); exact ⟨u, by rw [show o + 1 + i = o + (i + 1) by omega]; exact hu⟩)
    refine ⟨v :: l, ?_⟩
    show (match c.get o with
      | none => none
      | some v => match c.row k (o + 1) with
        | none => none
        | some l => some (v :: l)) = _
    rw [show c.get o = some v from hv, hl]
theorem forceN_eq {α : Type} (n : Nat) (k : Nat → α) : forceN n k = k n := by cases n <;> rfl
end Go.Proofs.Ytaloembfekdkoaa.Ev
namespace Go.Proofs.Ytaloembfekdkoaa.Ev
set_option linter.unusedVariables false
set_option linter.unusedSimpArgs false
set_option linter.unusedSectionVars false
set_option linter.unusedSectionVars false
structure Ent where
  blk : Nat
  n : Nat
  sz : Nat
abbrev Sg := Nat → Option Ent
def Sg.sub (σ τ : Sg) : Prop := ∀ b e, σ b = some e → τ b = some e
theorem Sg.sub.refl (σ : Sg) : σ.sub σ := fun _ _ h => h
theorem Sg.sub.trans {σ τ υ : Sg} (h : σ.sub τ) (k : τ.sub υ) : σ.sub υ := fun b e x => k b e (h b e x)
inductive FnR (σ : Sg) : Fn → Fn → Prop where
  | same {f : Fn} (h : ∀ l, f ≠ .yield l) : FnR σ f f
  | yield {l : Nat} {e : Ent} (h : σ l = some e) : FnR σ (.yield l) (.yield e.blk)
class Val where
  kind : Nat → IntKind
  num : Nat → Int
  /-- What lies at package-level variables from the start, and is never written. -/
  laid : Nat → Option Obj
variable [Val]
mutual
inductive VR (σ : Sg) : Value → Value → Prop where
  | bool (b : Bool) : VR σ (.bool b) (.bool b)
  | int (k : IntKind) (n : Int) : VR σ (.int k n) (.int k n)
  | float (k : FloatKind) (n : Nat) : VR σ (.float k n) (.float k n)
  | complex (k : FloatKind) (n m : Nat) : VR σ (.complex k n m) (.complex k n m)
  | string (s : ByteArray) : VR σ (.string s) (.string s)
  | nilFunc : VR σ .nilFunc .nilFunc
  | nilIface : VR σ .nilIface .nilIface
  | ptrN : VR σ (.pointer none) (.pointer none)
  | ptr {b o : Nat} {e : Ent} (h : σ b = some e) : VR σ (.pointer (some ⟨b, o, none⟩)) (.pointer (some ⟨e.blk, o, none⟩))
  | slN (l c : Nat) : VR σ (.slice none l c) (.slice none l c)
  | sl {b o l c : Nat} {e : Ent} (h : σ b = some e) (hc : c < big) : VR σ (.slice (some ⟨b, o, none⟩) l c) (.slice (some ⟨e.blk, o, none⟩) l c)
  | slO {b o l c d : Nat} {e : Ent} (h : σ b = some e) (hd : d = big + e.sz) (hl : l ≤ c) (hn : o + c * e.sz ≤ e.n) : VR σ (.slice (some ⟨b, o, none⟩) l d) (.slice (some ⟨e.blk, o, none⟩) l c)
  | mapN : VR σ (.map none) (.map none)
  | map {b : Nat} {e : Ent} (h : σ b = some e) : VR σ (.map (some b)) (.map (some e.blk))
  | chanN : VR σ (.chan none) (.chan none)
  | sym (n : Nat) : VR σ (.chan (some (n + 1))) (.int (Val.kind n) (Val.num n))
  | func {f f' : Fn} {a a' c c' : Array Value} (hf : FnR σ f f') (ha : RL σ a.toList a'.toList) (hc : RL σ c.toList c'.toList) : VR σ (.func f a c) (.func f' a' c')
  | iface (t : TypeId) {v v' : Value} (h : VR σ v v') : VR σ (.iface t v) (.iface t v')
  | agg {a a' : Array Value} (h : RL σ a.toList a'.toList) : VR σ (.agg a) (.agg a')
  | tuple {a a' : Array Value} (h : RL σ a.toList a'.toList) : VR σ (.tuple a) (.tuple a')
inductive RL (σ : Sg) : List Value → List Value → Prop where
  | nil : RL σ [] []
  | cons {v v' : Value} {l l' : List Value} (h : VR σ v v') (t : RL σ l l') : RL σ (v :: l) (v' :: l')
end
mutual
theorem VR.mono {σ τ : Sg} (hs : σ.sub τ) {v v' : Value} : VR σ v v' → VR τ v v'
  | .bool b => .bool b
  | .int k n => .int k n
  | .float k n => .float k n
  | .complex k n m => .complex k n m
  | .string s => .string s
  | .nilFunc => .nilFunc
  | .nilIface => .nilIface
  | .ptrN => .ptrN
  | .ptr h => .ptr (hs _ _ h)
  | .slN l c => .slN l c
  | .sl h hc => .sl (hs _ _ h) hc
  | .slO h hd hl hn => .slO (hs _ _ h) hd hl hn
  | .mapN => .mapN
  | .map h => .map (hs _ _ h)
  | .chanN => .chanN
  | .sym n => .sym n
  | .func hf ha hc => .func (match hf with | .same h => .same h | .yield h => .yield (hs _ _ h)) (RL.mono hs ha) (RL.mono hs hc)
  | .iface t h => .iface t (VR.mono hs h)
  | .agg h => .agg (RL.mono hs h)
  | .tuple h => .tuple (RL.mono hs h)
theorem RL.mono {σ τ : Sg} (hs : σ.sub τ) {l l' : List Value} : RL σ l l' → RL τ l l'
  | .nil => .nil
  | .cons h t => .cons (VR.mono hs h) (RL.mono hs t)
end
mutual
theorem VR.cut {σ τ : Sg} (hs : σ.sub τ) {v u v' : Value} : VR σ v u → VR τ v v' → VR σ v v'
  | .bool b, .bool _ => .bool b
  | .int k n, .int _ _ => .int k n
  | .float k n, .float _ _ => .float k n
  | .complex k n m, .complex _ _ _ => .complex k n m
  | .string s, .string _ => .string s
  | .nilFunc, .nilFunc => .nilFunc
  | .nilIface, .nilIface => .nilIface
  | .ptrN, .ptrN => .ptrN
  | .ptr h, .ptr k => by have := hs _ _ h; rw [k] at this; cases this; exact .ptr h
  | .slN l c, .slN _ _ => .slN l c
  | .sl h hc, .sl k _ => by have := hs _ _ h; rw [k] at this; cases this; exact .sl h hc
  | .sl _ hc, .slO _ hd _ _ => by omega
  | .slO _ hd _ _, .sl _ hc => by omega
  | .slO h _ _ _, .slO k hd hl hn => by have := hs _ _ h; rw [k] at this; cases this; exact .slO h hd hl hn
  | .mapN, .mapN => .mapN
  | .map h, .map k => by have := hs _ _ h; rw [k] at this; cases this; exact .map h
  | .chanN, .chanN => .chanN
  | .sym n, .sym _ => .sym n
  | .func hf ha hc, .func kf ka kc => .func (by
      cases hf with
      | same h => cases kf with
        | same _ => exact .same h
        | yield _ => exact absurd rfl (h _)
      | yield h => cases kf with
        | same k => exact absurd rfl (k _)
        | yield k => have := hs _ _ h; rw [k] at this; cases this; exact .yield h) (RL.cut hs ha ka) (RL.cut hs hc kc)
  | .iface t h, .iface _ k => .iface t (VR.cut hs h k)
  | .agg h, .agg k => .agg (RL.cut hs h k)
  | .tuple h, .tuple k => .tuple (RL.cut hs h k)
theorem RL.cut {σ τ : Sg} (hs : σ.sub τ) {l u l' : List Value} : RL σ l u → RL τ l l' → RL σ l l'
  | .nil, .nil => .nil
  | .cons h t, .cons k s => .cons (VR.cut hs h k) (RL.cut hs t s)
end
theorem RL.length {σ : Sg} : ∀ {l l' : List Value}, RL σ l l' → l'.length = l.length
  | _, _, .nil => rfl
  | _, _, .cons _ t => by simp [RL.length t]
theorem RL.get {σ : Sg} : ∀ {l l' : List Value}, RL σ l l' → ∀ (i : Nat) (v : Value), l[i]? = some v → ∃ v', l'[i]? = some v' ∧ VR σ v v'
  | _, _, .nil, i, v, h => by simp at h
  | _, _, .cons h t, 0, v, hv => by simp at hv; subst hv; exact ⟨_, rfl, h⟩
  | _, _, .cons h t, i + 1, v, hv => by simpa using RL.get t i v (by simpa using hv)
theorem RL.of_get {σ : Sg} : ∀ {l l' : List Value}, l'.length = l.length → (∀ (i : Nat) (v : Value), l[i]? = some v → ∃ v', l'[i]? = some v' ∧ VR σ v v') → RL σ l l'
  | [], [], _, _ => .nil
  | [], _ :: _, h, _ => by simp at h
  | _ :: _, [], h, _ => by simp at h
  | v :: l, v' :: l', h, k => .cons (by obtain ⟨u, hu, r⟩ := k 0 v rfl; cases hu; exact r)
      (RL.of_get (by simpa using h) fun i u hu => by simpa using k (i + 1) u (by simpa using hu))
theorem RL.append {σ : Sg} : ∀ {a a' b b' : List Value}, RL σ a a' → RL σ b b' → RL σ (a ++ b) (a' ++ b')
  | _, _, _, _, .nil, k => k
  | _, _, _, _, .cons h t, k => .cons h (RL.append t k)
theorem RL.take {σ : Sg} : ∀ {a a' : List Value} (n : Nat), RL σ a a' → RL σ (a.take n) (a'.take n)
  | _, _, n, .nil => by cases n <;> exact .nil
  | _, _, 0, .cons _ _ => .nil
  | _, _, n + 1, .cons h t => .cons h (RL.take n t)
theorem RL.drop {σ : Sg} : ∀ {a a' : List Value} (n : Nat), RL σ a a' → RL σ (a.drop n) (a'.drop n)
  | _, _, n, .nil => by cases n <;> exact .nil
  | _, _, 0, .cons h t => .cons h t
  | _, _, n + 1, .cons h t => RL.drop n t
theorem RL.set {σ : Sg} : ∀ {a a' : List Value} (n : Nat) {v v' : Value}, RL σ a a' → VR σ v v' → RL σ (a.set n v) (a'.set n v')
  | _, _, n, _, _, .nil, _ => by cases n <;> exact .nil
  | _, _, 0, _, _, .cons _ t, h => .cons h t
  | _, _, n + 1, _, _, .cons k t, h => .cons k (RL.set n t h)
theorem flat_eq {σ : Sg} : ∀ (n : Nat) {v v' : Value}, flat n v = true → VR σ v v' → v' = v := by
  intro n
  induction n with
  | zero => intro v v' h; cases h
  | succ n ih =>
    have ihl : ∀ {l l' : List Value}, l.all (flat n) = true → RL σ l l' → l' = l := by
      intro l
      induction l with
      | nil => intro l' _ r; cases r; rfl
      | cons v l ihl =>
        intro l' h r
        cases r with
        | cons k t =>
          simp only [List.all_cons, Bool.and_eq_true] at h
          rw [ih h.1 k, ihl h.2 t]
    intro v v' h r
    cases r with
    | bool | int | float | complex | string | nilFunc | nilIface | ptrN | slN | mapN | chanN => rfl
    | ptr k => exact absurd h (by simp [flat])
    | sl k _ => exact absurd h (by simp [flat])
    | slO k _ _ _ => exact absurd h (by simp [flat])
    | map k => exact absurd h (by simp [flat])
    | sym n => exact absurd h (by simp [flat])
    | func hf ha hc =>
      rename_i f f' a a' c c'
      cases f with
      | yield l => exact absurd h (by simp [flat])
      | _ =>
        cases hf with
        | same _ =>
          have h' : (a.toList.all (flat n) && c.toList.all (flat n)) = true := h
          rw [Bool.and_eq_true] at h'
          rw [Array.toList_inj.1 (ihl h'.1 ha), Array.toList_inj.1 (ihl h'.2 hc)]
    | iface t k => rw [ih h k]
    | agg k => rw [Array.toList_inj.1 (ihl h k)]
    | tuple k => rw [Array.toList_inj.1 (ihl h k)]
end Go.Proofs.Ytaloembfekdkoaa.Ev
namespace Go.Proofs.Ytaloembfekdkoaa.Ev
set_option linter.unusedVariables false
set_option linter.unusedSimpArgs false
set_option linter.unusedSectionVars false
set_option linter.unusedSectionVars false
variable [Val]
theorem AH.get_put (h : AH) (b c : Nat) (o : AObj) : (h.put b o).get c = if c = b then some o else h.get c := by
  cases h; simp only [AH.put, forceN_eq, AH.get, T.get_set]
theorem AH.nx_put (h : AH) (b : Nat) (o : AObj) : (h.put b o).nx = h.nx := by cases h; simp only [AH.put, forceN_eq]
theorem AH.wm_put (h : AH) (b c : Nat) (o : AObj) : (h.put b o).wm.testBit c = (h.wm.testBit c || decide (c = b)) := by
  cases h
  simp only [AH.put, forceN_eq]
  show (_ ||| 2 ^ b).testBit c = _
  rw [Nat.testBit_or, Nat.testBit_two_pow]
  congr 1
  simp [eq_comm]
theorem AH.get_push (h : AH) (c : Nat) (o : AObj) : (h.push o).get c = if c = h.nx then some o else h.get c := by
  cases h; simp only [AH.push, forceN_eq, AH.get, T.get_set]
theorem AH.nx_push (h : AH) (o : AObj) : (h.push o).nx = h.nx + 1 := by cases h; simp only [AH.push, forceN_eq]
theorem AH.wm_push (h : AH) (o : AObj) : (h.push o).wm = h.wm := by cases h; simp only [AH.push, forceN_eq]
inductive ERL (σ : Sg) : List MapEntry → List MapEntry → Prop where
  | nil : ERL σ [] []
  | cons {k k' v v' : Value} {b : Nat} {l l' : List MapEntry} (hk : VR σ k k') (hv : VR σ v v') (t : ERL σ l l') : ERL σ (⟨k, v, b⟩ :: l) (⟨k', v', b⟩ :: l')
inductive HL (σ : Sg) : List Value → List Value → Prop where
  | nil : HL σ [] []
  | hole (v' : Value) {l l' : List Value} (t : HL σ l l') : HL σ (hole :: l) (v' :: l')
  | cons {v v' : Value} {l l' : List Value} (h : VR σ v v') (t : HL σ l l') : HL σ (v :: l) (v' :: l')
theorem ERL.mono {σ τ : Sg} (hs : σ.sub τ) : ∀ {l l' : List MapEntry}, ERL σ l l' → ERL τ l l'
  | _, _, .nil => .nil
  | _, _, .cons hk hv t => .cons (hk.mono hs) (hv.mono hs) (ERL.mono hs t)
theorem HL.mono {σ τ : Sg} (hs : σ.sub τ) : ∀ {l l' : List Value}, HL σ l l' → HL τ l l'
  | _, _, .nil => .nil
  | _, _, .hole v t => .hole v (HL.mono hs t)
  | _, _, .cons h t => .cons (h.mono hs) (HL.mono hs t)
theorem ERL.cut {σ τ : Sg} (hs : σ.sub τ) : ∀ {l u l' : List MapEntry}, ERL σ l u → ERL τ l l' → ERL σ l l'
  | _, _, _, .nil, .nil => .nil
  | _, _, _, .cons hk hv t, .cons kk kv s => .cons (hk.cut hs kk) (hv.cut hs kv) (ERL.cut hs t s)
theorem HL.cut {σ τ : Sg} (hs : σ.sub τ) : ∀ {l u l' : List Value}, HL σ l u → HL τ l l' → HL σ l l'
  | _, _, _, .nil, .nil => .nil
  | _, _, _, .hole _ t, .hole v s => .hole v (HL.cut hs t s)
  | _, _, _, .hole _ t, .cons (v' := v') _ s => .hole v' (HL.cut hs t s)
  | _, _, _, .cons _ t, .hole v s => .hole v (HL.cut hs t s)
  | _, _, _, .cons h t, .cons k s => .cons (h.cut hs k) (HL.cut hs t s)
def okObj (P : Program) (σ : Sg) (e : Ent) (a : AObj) (o : Obj) : Prop :=
  match a with
  | .dead => True
  | .cells c n elem opn => ∃ (arr : Array Value) (fz : Nat × Nat), o = .cells arr elem fz ∧ (∀ i, i < arr.size → ¬ (fz.1 ≤ i ∧ i < fz.2)) ∧ arr.size = e.n ∧ (opn = false → n = arr.size) ∧ n ≤ arr.size ∧
      (opn = true → sizeL P elem = some e.sz) ∧ ∀ i, i < n → ∃ v v', c.get i = some v ∧ arr[i]? = some v' ∧ VR σ v v'
  | .obj (.map es clock) => ∃ es' : Array MapEntry, o = .map es' clock ∧ ERL σ es.toList es'.toList
  | .obj (.mapIter (some m) since seen last) => ∃ f, σ m = some f ∧ o = .mapIter (some f.blk) since seen last
  | .obj (.loop r) => ∃ (f : Ent) (tm : Array Value), σ r.defers = some f ∧ o = .loop { r with tmps := tm, defers := f.blk } ∧ HL σ r.tmps.toList tm.toList
  | .obj (.deferred l) => o = .deferred l ∧ (l = some [] ∨ l = none)
  | .obj _ => False
theorem okObj.mono {P : Program} {σ τ : Sg} {e : Ent} (hs : σ.sub τ) {a : AObj} {o : Obj} (h : okObj P σ e a o) : okObj P τ e a o := by
  unfold okObj at *
  split
  · trivial
  · obtain ⟨arr, fz, h1, h2, h3, h4, h5, h6, h7⟩ := h
    exact ⟨arr, fz, h1, h2, h3, h4, h5, h6, fun i hi => by obtain ⟨v, v', a, b, c⟩ := h7 i hi; exact ⟨v, v', a, b, c.mono hs⟩⟩
  · obtain ⟨es', h1, h2⟩ := h; exact ⟨es', h1, h2.mono hs⟩
  · obtain ⟨f, h1, h2⟩ := h; exact ⟨f, hs _ _ h1, h2⟩
  · obtain ⟨f, tm, h1, h2, h3⟩ := h; exact ⟨f, tm, hs _ _ h1, h2, h3.mono hs⟩
  · exact h
  · rename_i x; split at h <;> simp_all
theorem okObj.cut {P : Program} {σ τ : Sg} {e : Ent} (hs : σ.sub τ) {a : AObj} {u o : Obj} (h : okObj P σ e a u) (k : okObj P τ e a o) : okObj P σ e a o := by
  unfold okObj at *
  split
  · trivial
  · obtain ⟨arr, fz, h1, h2, h3, h4, h5, h6, h7⟩ := h
    obtain ⟨brr, gz, k1, k2, k3, k4, k5, k6, k7⟩ := k
    refine ⟨brr, gz, k1, k2, k3, k4, k5, k6, fun i hi => ?_⟩
    obtain ⟨v, v', a, b, c⟩ := h7 i hi
    obtain ⟨x, x', a1, b1, c1⟩ := k7 i hi
    rw [a] at a1; cases a1
    exact ⟨v, x', a, b1, c.cut hs c1⟩
  · obtain ⟨es', h1, h2⟩ := h; obtain ⟨fs', k1, k2⟩ := k; exact ⟨fs', k1, h2.cut hs k2⟩
  · obtain ⟨f, h1, h2⟩ := h; obtain ⟨g, k1, k2⟩ := k
    have := hs _ _ h1; rw [k1] at this; cases this; exact ⟨_, h1, k2⟩
  · obtain ⟨f, tm, h1, h2, h3⟩ := h; obtain ⟨g, tn, k1, k2, k3⟩ := k
    have := hs _ _ h1; rw [k1] at this; cases this; exact ⟨_, tn, h1, k2, h3.cut hs k3⟩
  · exact k
  · rename_i x; split at h <;> simp_all
def Lay (σ : Sg) (w : World) : Prop := ∀ g o, Val.laid g = some o → w.heap[g]? = some o ∧ ∀ b e, σ b = some e → e.blk ≠ g
structure HR (P : Program) (σ : Sg) (h : AH) (w : World) : Prop where
  live : ∀ b e, σ b = some e → b < h.nx ∧ ∃ a, h.get b = some a ∧ (a = .dead ∨ ∃ o, w.heap[e.blk]? = some o ∧ okObj P σ e a o)
  inj : ∀ b c e f, σ b = some e → σ c = some f → e.blk = f.blk → h.get b ≠ some .dead → h.get c ≠ some .dead → b = c
  lay : Lay σ w
def Loose (σ : Sg) (h : AH) (k : Nat) : Prop := ∀ b e, σ b = some e → e.blk = k → h.get b = some .dead
structure Same (w w1 : World) : Prop where
  os : w1.os = w.os
  tape : w1.tape = w.tape
  output : w1.output = w.output
theorem Same.refl (w : World) : Same w w := ⟨rfl, rfl, rfl⟩
theorem Same.trans {a b c : World} (h : Same a b) (k : Same b c) : Same a c := ⟨k.os.trans h.os, k.tape.trans h.tape, k.output.trans h.output⟩
structure Ext (P : Program) (σ : Sg) (h : AH) (w : World) (σ1 : Sg) (h1 : AH) (w1 : World) : Prop where
  old : ∀ b e, σ b = some e → b < h.nx
  sub : σ.sub σ1
  new : ∀ b e, σ1 b = some e → σ b = some e ∨ (h.nx ≤ b ∧ (w.heap.size ≤ e.blk ∨ ∃ c f, σ c = some f ∧ f.blk = e.blk ∧ h.get c ≠ some .dead))
  hr : HR P σ1 h1 w1
  size : w.heap.size ≤ w1.heap.size
  frame : ∀ k, k < w.heap.size → Loose σ h k → w1.heap[k]? = w.heap[k]?
  nx : h.nx ≤ h1.nx
  dead : ∀ b, b < h.nx → h.get b = some .dead → h1.get b = some .dead
  wr : ∀ b, b < h.nx → h1.wm.testBit b = false → h.wm.testBit b = false ∧ h1.get b = h.get b
  same : Same w w1
theorem Ext.refl {P : Program} {σ : Sg} {h : AH} {w : World} (hr : HR P σ h w) : Ext P σ h w σ h w :=
  ⟨fun b e hb => (hr.live b e hb).1, .refl _, fun _ _ h => .inl h, hr, Nat.le_refl _, fun _ _ _ => rfl, Nat.le_refl _, fun _ _ h => h, fun _ _ h => ⟨h, rfl⟩, .refl _⟩
theorem HR.drew {P : Program} {σ : Sg} {h : AH} {w : World} (hr : HR P σ h w) (n : Nat) : HR P σ h { w with drawn := n } := ⟨hr.live, hr.inj, hr.lay⟩
theorem Ext.trans {P : Program} {σ σ1 σ2 : Sg} {h h1 h2 : AH} {w w1 w2 : World} (x : Ext P σ h w σ1 h1 w1) (y : Ext P σ1 h1 w1 σ2 h2 w2) : Ext P σ h w σ2 h2 w2 where
  old := x.old
  sub := x.sub.trans y.sub
  new := by
    intro b e hb
    rcases y.new b e hb with hb1 | ⟨hb1, hb2⟩
    · exact x.new b e hb1
    · rcases hb2 with hb2 | ⟨c, f, hc, hf, hd⟩
      · exact .inr ⟨Nat.le_trans x.nx hb1, .inl (Nat.le_trans x.size hb2)⟩
      · refine .inr ⟨Nat.le_trans x.nx hb1, ?_⟩
        rcases x.new c f hc with hc1 | ⟨_, hc2⟩
        · refine .inr ⟨c, f, hc1, hf, fun hh => hd (x.dead c (x.old c f hc1) hh)⟩
        · rcases hc2 with hc2 | ⟨c', f', q1, q2, q3⟩
          · exact .inl (by rw [← hf]; exact hc2)
          · exact .inr ⟨c', f', q1, by rw [q2, hf], q3⟩
  hr := y.hr
  size := Nat.le_trans x.size y.size
  frame := by
    intro k hk hl
    rw [y.frame k (Nat.lt_of_lt_of_le hk x.size) ?_, x.frame k hk hl]
    intro b e hb he
    rcases x.new b e hb with hb1 | ⟨_, hb2⟩
    · exact x.dead b (x.old b e hb1) (hl b e hb1 he)
    · rcases hb2 with hb2 | ⟨c, f, q1, q2, q3⟩
      · omega
      · exact absurd (hl c f q1 (by rw [q2, he])) q3
  nx := Nat.le_trans x.nx y.nx
  dead := fun b hb hd => y.dead b (Nat.lt_of_lt_of_le hb x.nx) (x.dead b hb hd)
  wr := fun b hb h0 => by
    obtain ⟨h1, h2⟩ := y.wr b (Nat.lt_of_lt_of_le hb x.nx) h0
    obtain ⟨h3, h4⟩ := x.wr b hb h1
    exact ⟨h3, h2.trans h4⟩
  same := x.same.trans y.same
section
variable {P : Program} {σ : Sg} {h : AH} {w : World}
theorem push_ext (hr : HR P σ h w) (a : AObj) (o : Obj) (n sz : Nat)
    (hok : okObj P (fun b => if b = h.nx then some ⟨w.heap.size, n, sz⟩ else σ b) ⟨w.heap.size, n, sz⟩ a o) :
    Ext P σ h w (fun b => if b = h.nx then some ⟨w.heap.size, n, sz⟩ else σ b) (h.push a) { w with heap := w.heap.push o } := by
  have old : ∀ b e, σ b = some e → b < h.nx := fun b e hb => (hr.live b e hb).1
  have sub : σ.sub (fun b => if b = h.nx then some ⟨w.heap.size, n, sz⟩ else σ b) := fun b e hb => by
    have := old b e hb; simp only; rw [if_neg (by omega)]; exact hb
  have blk : ∀ b e, σ b = some e → h.get b ≠ some .dead → e.blk < w.heap.size := fun b e hb hd => by
    obtain ⟨_, a, ha, h1⟩ := hr.live b e hb
    rcases h1 with rfl | ⟨o, ho, _⟩
    · exact absurd ha hd
    · exact (Array.getElem?_eq_some_iff.1 ho).1
  have lay : Lay (fun b => if b = h.nx then some ⟨w.heap.size, n, sz⟩ else σ b) { w with heap := w.heap.push o } := fun g o1 hg => by
    obtain ⟨h1, h2⟩ := hr.lay g o1 hg
    have hlt := (Array.getElem?_eq_some_iff.1 h1).1
    refine ⟨?_, fun b e hb => ?_⟩
    · show (w.heap.push o)[g]? = some o1
      rw [Array.getElem?_push, if_neg (by omega)]
      exact h1
    · by_cases hbn : b = h.nx
      · simp only [hbn, if_true] at hb; cases hb; simp only; omega
      · simp only [hbn, if_false] at hb; exact h2 b e hb
  refine ⟨old, sub, ?_, ⟨?_, ?_, lay⟩, by simp, ?_, by rw [AH.nx_push]; omega, ?_, ?_, ⟨rfl, rfl, rfl⟩⟩
  · intro b e hb
    by_cases hbn : b = h.nx
    · simp only [hbn, if_true] at hb; cases hb; exact .inr ⟨by omega, .inl (Nat.le_refl _)⟩
    · simp only [hbn, if_false] at hb; exact .inl hb
  · intro b e hb
    rw [AH.nx_push, AH.get_push]
    by_cases hbn : b = h.nx
    · simp only [hbn, if_true] at hb; cases hb
      exact ⟨by omega, a, if_pos hbn, .inr ⟨o, by simp, hok⟩⟩
    · simp only [hbn, if_false] at hb
      obtain ⟨h1, a', h2, h3⟩ := hr.live b e hb
      refine ⟨by omega, a', by rw [if_neg hbn]; exact h2, ?_⟩
      rcases h3 with h3 | ⟨o', ho', hok'⟩
      · exact .inl h3
      · refine .inr ⟨o', ?_, hok'.mono sub⟩
        have hlt := (Array.getElem?_eq_some_iff.1 ho').1
        show (w.heap.push o)[e.blk]? = some o'
        rw [Array.getElem?_push, if_neg (by omega)]
        exact ho'
  · intro b c e f hb hc hef
    rw [AH.get_push, AH.get_push]
    intro hd hd'
    by_cases hbn : b = h.nx
    · by_cases hcn : c = h.nx
      · omega
      · simp only [hbn, if_true] at hb; simp only [hcn, if_false] at hc hd'; cases hb
        have := blk c f hc hd'; rw [← hef] at this; simp at this
    · by_cases hcn : c = h.nx
      · simp only [hbn, if_false] at hb hd; simp only [hcn, if_true] at hc; cases hc
        have := blk b e hb hd; rw [hef] at this; simp at this
      · simp only [hbn, if_false] at hb hd; simp only [hcn, if_false] at hc hd'
        exact hr.inj b c e f hb hc hef hd hd'
  · intro k hk _
    show (w.heap.push o)[k]? = w.heap[k]?
    rw [Array.getElem?_push, if_neg (by omega)]
  · intro b hb hd
    rw [AH.get_push, if_neg (by omega)]; exact hd
  · intro b hb hw
    rw [AH.wm_push] at hw
    exact ⟨hw, by rw [AH.get_push, if_neg (by omega)]⟩
theorem put_ext (hr : HR P σ h w) {b : Nat} {e : Ent} (hb : σ b = some e) (hd : h.get b ≠ some .dead) (a : AObj) (w1 : World)
    (hsz : w1.heap.size = w.heap.size) (hs : Same w w1) (hoth : ∀ k, k ≠ e.blk → w1.heap[k]? = w.heap[k]?)
    (hok : a = .dead ∨ ∃ o, w1.heap[e.blk]? = some o ∧ okObj P σ e a o) : Ext P σ h w σ (h.put b a) w1 := by
  refine ⟨fun b e hb => (hr.live b e hb).1, .refl _, fun _ _ h => .inl h, ⟨?_, ?_, fun g o hg => ⟨by rw [hoth g fun hh => (hr.lay g o hg).2 b e hb hh.symm]; exact (hr.lay g o hg).1, (hr.lay g o hg).2⟩⟩, by omega, ?_, by rw [AH.nx_put]; exact Nat.le_refl _, ?_, ?_, hs⟩
  · intro c f hc
    rw [AH.nx_put, AH.get_put]
    obtain ⟨h1, a', h2, h3⟩ := hr.live c f hc
    refine ⟨h1, ?_⟩
    by_cases hcb : c = b
    · subst hcb; rw [hb] at hc; cases hc
      exact ⟨a, if_pos rfl, hok⟩
    · refine ⟨a', by rw [if_neg hcb]; exact h2, ?_⟩
      rcases h3 with h3 | ⟨o', ho', hok'⟩
      · exact .inl h3
      · by_cases hne : f.blk = e.blk
        · by_cases had : a' = .dead
          · exact .inl had
          · exact absurd (hr.inj c b f e hc hb hne (by rw [h2]; intro hh; cases hh; exact had rfl) hd) hcb
        · exact .inr ⟨o', by rw [hoth _ hne]; exact ho', hok'⟩
  · intro c d f g hc hd' hfg
    rw [AH.get_put, AH.get_put]
    intro h1 h2
    by_cases hcb : c = b
    · by_cases hdb : d = b
      · omega
      · rw [if_neg hdb] at h2; subst hcb
        exact hr.inj c d f g hc hd' hfg hd h2
    · rw [if_neg hcb] at h1
      by_cases hdb : d = b
      · subst hdb; exact hr.inj c d f g hc hd' hfg h1 hd
      · rw [if_neg hdb] at h2; exact hr.inj c d f g hc hd' hfg h1 h2
  · intro k hk hl
    refine hoth k fun hh => hd (hl b e hb hh.symm)
  · intro c hc hdc
    rw [AH.get_put]
    by_cases hcb : c = b
    · subst hcb; exact absurd hdc hd
    · rw [if_neg hcb]; exact hdc
  · intro c hc hw
    rw [AH.wm_put, Bool.or_eq_false_iff] at hw
    exact ⟨hw.1, by rw [AH.get_put, if_neg (by simpa using hw.2)]⟩
end
theorem HR.keeps {P : Program} {σ : Sg} {h : AH} {w w1 : World} (hr : HR P σ h w) (hh : ∀ k, k < w.heap.size → w1.heap[k]? = w.heap[k]?) : HR P σ h w1 :=
  ⟨fun b e hb => by
    obtain ⟨h1, a, h2, h3⟩ := hr.live b e hb
    refine ⟨h1, a, h2, ?_⟩
    rcases h3 with h3 | ⟨o, h3, h4⟩
    · exact .inl h3
    · exact .inr ⟨o, by rw [hh _ (Array.getElem?_eq_some_iff.1 h3).1]; exact h3, h4⟩, hr.inj, fun g o hg => ⟨by rw [hh g (Array.getElem?_eq_some_iff.1 (hr.lay g o hg).1).1]; exact (hr.lay g o hg).1, (hr.lay g o hg).2⟩⟩
open Go.RowKit in
theorem Ext.below {P : Program} {σ : Sg} {h : AH} {w w1 : World} (hr : HR P σ h w) (b : Below w.heap.size w w1) : Ext P σ h w σ h w1 :=
  ⟨fun b e hb => (hr.live b e hb).1, .refl _, fun _ _ h => .inl h, hr.keeps b.block, b.size, fun k hk _ => b.block k hk, Nat.le_refl _, fun _ _ h => h, fun _ _ h => ⟨h, rfl⟩, ⟨b.os, b.tape, b.output⟩⟩
open Go.RowKit in
class OrcOk (P : Program) [Orc P] : Prop where
  bin : ∀ {op : BinOp} {t t2 : TypeId} {a b r : Value}, Orc.bin P op t a b = some r → ∀ {σ : Sg} {ρ' : Operand → Value} {o : Oper} {x y : Operand}, o.op = .binOp op t x y t2 → VR σ a (ρ' x) → VR σ b (ρ' y) → ∀ w, ∃ r', (execOp ρ' o).run P w = .ok (.value r') w ∧ VR σ r r'
  call : ∀ {f : FuncId} {args : List Value} {h : AH} {v : Value}, Orc.call P f args h = some v → ∀ {σ : Sg} {w : World} {args' : Array Value}, HR P σ h w → RL σ args args'.toList → Calls P f args' w fun e w' => ∃ v', e = .returned v' ∧ VR σ v v' ∧ Below w.heap.size w w'
  op : ∀ {o : Oper} {f : Fun} {h : AH} {ρ : Ev} {r : AR}, Orc.op P o.op = some f → f.f h ρ = some r → ∀ {σ : Sg} {w : World} {ρ' : Operand → Value}, HR P σ h w → (∀ g, ρ' (.global g) = .pointer (some ⟨g, 0, none⟩)) → (∀ x v, ρ x = some v → VR σ v (ρ' x)) →
    ∃ v h1, r = .val v h1 ∧ ∃ σ1 v' w1, ((execOp ρ' o).run P w = .ok (.value v') w1 ∨ ((execOp ρ' o).run P w = .ok .skip w1 ∧ v' = undef)) ∧ VR σ1 v v' ∧ Ext P σ h w σ1 h1 w1
  opC : ∀ {o : Op} {f : Fun}, Orc.op P o = some f → ∀ {h : AH} {ρ ρ' : Ev}, (∀ x ∈ o.operands, ρ x = ρ' x) → f.f h ρ = f.f h ρ'
  opV : ∀ {o : Op} {f : Fun}, Orc.op P o = some f → ∀ {h : AH} {ρ : Ev} {r : AR}, f.f h ρ = some r → ∃ v h1, r = .val v h1
  opL : ∀ {t : TypeId} {a : Operand} {f : Fun}, Orc.op P (.load t a) = some f → ∃ g, a = .global g
  opD : ∀ {c : Call}, Orc.op P (.defer c) = none
abbrev noOrc (P : Program) : Orc P := ⟨fun _ _ _ _ => none, fun _ _ _ => none, fun _ => none⟩
theorem noOk (P : Program) : @OrcOk _ P (noOrc P) := @OrcOk.mk _ P (noOrc P) (fun h => by cases h) (fun h => by cases h) (fun h => by cases h) (fun h => by cases h) (fun h => by cases h) (fun h => by cases h) rfl
abbrev noVal : Val := ⟨fun _ => .i64, fun _ => 0, fun _ => none⟩
end Go.Proofs.Ytaloembfekdkoaa.Ev
namespace Go.Proofs.Ytaloembfekdkoaa.Ev
set_option linter.unusedVariables false
set_option linter.unusedSimpArgs false
set_option linter.unusedSectionVars false
set_option linter.unusedSectionVars false
variable [Val]
theorem blt_true {a b : Nat} (h : Nat.ble (Nat.succ a) b = true) : a < b := Nat.le_of_ble_eq_true h
theorem cond_some {α : Type} {c : Bool} {x : Option α} {a : α} (h : cond c x none = some a) : c = true ∧ x = some a := by cases c <;> simp_all
theorem addr_add (b o i : Nat) : (⟨b, o, none⟩ : Addr).add i = ⟨b, o + i, none⟩ := by
  unfold Addr.add; by_cases h : i = 0 <;> simp [h]
section
variable {P : Program} {σ : Sg} {h : AH} {w : World}
theorem cells_ok (hr : HR P σ h w) {b : Nat} {e : Ent} (hb : σ b = some e) {c : T Value} {n elem : Nat} {opn : Bool} (hg : h.get b = some (.cells c n elem opn)) :
    ∃ (arr : Array Value) (fz : Nat × Nat), w.heap[e.blk]? = some (.cells arr elem fz) ∧ (∀ i, i < arr.size → ¬ (fz.1 ≤ i ∧ i < fz.2)) ∧ arr.size = e.n ∧ (opn = false → n = arr.size) ∧ n ≤ arr.size ∧
      (opn = true → sizeL P elem = some e.sz) ∧ ∀ i, i < n → ∃ v v', c.get i = some v ∧ arr[i]? = some v' ∧ VR σ v v' := by
  obtain ⟨_, a, ha, h1⟩ := hr.live b e hb
  rw [hg] at ha; cases ha
  rcases h1 with h1 | ⟨o, ho, hok⟩
  · cases h1
  · obtain ⟨arr, fz, rfl, h2⟩ := hok
    exact ⟨arr, fz, ho, h2⟩
theorem obj_ok (hr : HR P σ h w) {b : Nat} {e : Ent} (hb : σ b = some e) {x : Obj} (hg : h.get b = some (.obj x)) :
    ∃ o, w.heap[e.blk]? = some o ∧ okObj P σ e (.obj x) o := by
  obtain ⟨_, a, ha, h1⟩ := hr.live b e hb
  rw [hg] at ha; cases ha
  rcases h1 with h1 | h1
  · cases h1
  · exact h1
theorem cell_ok (hr : HR P σ h w) {b o : Nat} {e : Ent} (hb : σ b = some e) {v : Value} (hc : h.cell ⟨b, o, none⟩ = some v) :
    ∃ v', w.cell? ⟨e.blk, o, none⟩ = some v' ∧ VR σ v v' := by
  simp only [AH.cell] at hc
  split at hc
  · rename_i c n elem opn hg
    obtain ⟨h1, h2⟩ := cond_some hc
    obtain ⟨arr, fz, hw, _, _, _, _, _, hv⟩ := cells_ok hr hb hg
    obtain ⟨u, u', k1, k2, k3⟩ := hv o (blt_true h1)
    rw [h2] at k1; cases k1
    exact ⟨u', by simp [World.cell?, hw, k2], k3⟩
  · cases hc
theorem row_ok (hr : HR P σ h w) {b o : Nat} {e : Ent} (hb : σ b = some e) {k : Nat} {l : List Value} (hc : h.row ⟨b, o, none⟩ k = some l) :
    ∃ l', RL σ l l' ∧ l.length = k ∧ ∀ j v, l'[j]? = some v → w.cell? ⟨e.blk, o + j, none⟩ = some v := by
  cases k with
  | zero => cases hc; exact ⟨[], .nil, rfl, fun j v hj => by simp at hj⟩
  | succ k =>
    simp only [AH.row] at hc
    split at hc
    · rename_i c n elem opn hg
      obtain ⟨h1, h2⟩ := cond_some hc
      have hle : o + (k + 1) ≤ n := Nat.le_of_ble_eq_true h1
      obtain ⟨hlen, hget⟩ := T.row_spec c _ _ _ h2
      obtain ⟨arr, fz, hw, _, _, _, _, _, hv⟩ := cells_ok hr hb hg
      have hsz : ∀ i, i < k + 1 → ∃ v', arr[o + i]? = some v' ∧ ∀ v, l[i]? = some v → VR σ v v' := fun i hi => by
        obtain ⟨u, u', k1, k2, k3⟩ := hv (o + i) (by omega)
        exact ⟨u', k2, fun v hh => by rw [hget i (by omega), hh] at k1; cases k1; exact k3⟩
      refine ⟨(arr.toList.drop o).take (k + 1), ?_, hlen, ?_⟩
      · refine RL.of_get ?_ ?_
        · have : o + (k + 1) ≤ arr.toList.length := by
            obtain ⟨v', hh, _⟩ := hsz k (by omega)
            have := (Array.getElem?_eq_some_iff.1 hh).1
            simp; omega
          simp only [List.length_take, List.length_drop]; omega
        · intro i v hi
          have hik : i < k + 1 := by have := (List.getElem?_eq_some_iff.1 hi).1; rw [hlen] at this; exact this
          obtain ⟨v', hh, hh2⟩ := hsz i hik
          exact ⟨v', by rw [List.getElem?_take_of_lt hik, List.getElem?_drop]; simpa using hh, hh2 v hi⟩
      · intro j v hj
        have hjk : j < k + 1 := by
          have := (List.getElem?_eq_some_iff.1 hj).1
          simp only [List.length_take] at this; omega
        rw [List.getElem?_take_of_lt hjk, List.getElem?_drop] at hj
        simp [World.cell?, hw]; simpa using hj
    · cases hc
theorem load_row {B o : Nat} {l' : List Value} {k : Nat} (hk : l'.length = k) (hj : ∀ j v, l'[j]? = some v → w.cell? ⟨B, o + j, none⟩ = some v) :
    (loadCells ⟨B, o, none⟩ k).run P w = .ok ⟨l'⟩ w := by
  subst hk
  exact run_loadCells_list w ⟨B, o, none⟩ l' fun j v hv => by rw [addr_add]; exact hj j v hv
end
theorem store_row {P : Program} {B elem : Nat} {fz : Nat × Nat} : ∀ (l : List Value) (o i : Nat) (arr : Array Value) (w : World), w.heap[B]? = some (.cells arr elem fz) →
    (∀ i, i < arr.size → ¬ (fz.1 ≤ i ∧ i < fz.2)) → l.all oneC = true → o + i + l.length ≤ arr.size →
    ∃ (arr1 : Array Value) (w1 : World), (storeCells ⟨B, o, none⟩ l i).run P w = .ok () w1 ∧ w1.heap[B]? = some (.cells arr1 elem fz) ∧ arr1.size = arr.size ∧
      (∀ j, arr1[j]? = if o + i ≤ j ∧ j < o + i + l.length then l[j - (o + i)]? else arr[j]?) ∧ w1.heap.size = w.heap.size ∧ Same w w1 ∧ ∀ k, k ≠ B → w1.heap[k]? = w.heap[k]? := by
  intro l
  induction l with
  | nil =>
    intro o i arr w hw _ _ _
    exact ⟨arr, w, rfl, hw, rfl, fun j => by rw [if_neg (by simp)], rfl, .refl _, fun _ _ => rfl⟩
  | cons v l ih =>
    intro o i arr w hw hf ho hs
    simp only [List.all_cons, Bool.and_eq_true] at ho
    simp only [List.length_cons] at hs
    have hlt : o + i < arr.size := by omega
    have hv : v.oneCell' = true := by have := ho.1; cases v <;> simp_all [oneC, Value.oneCell']
    have hB : B < w.heap.size := (Array.getElem?_eq_some_iff.1 hw).1
    have hc : w.cell? ⟨B, o + i, none⟩ = some arr[o + i] := by simp [World.cell?, hw, hlt]
    have hfr : w.frozen? ⟨B, o + i, none⟩ = false := by
      simp only [World.frozen?, hw, Bool.and_eq_false_iff, decide_eq_false_iff_not]
      have := hf (o + i) hlt
      omega
    have hset : (w.setCell ⟨B, o + i, none⟩ v).heap[B]? = some (.cells (arr.setIfInBounds (o + i) v) elem fz) := by
      simp [World.setCell, Array.getElem?_modify, hw]
    have hoth : ∀ k, k ≠ B → (w.setCell ⟨B, o + i, none⟩ v).heap[k]? = w.heap[k]? := fun k hk => by
      simp [World.setCell, Array.getElem?_modify, Ne.symm hk]
    obtain ⟨arr1, w1, h1, h2, h3, h4, h5, h6, h7⟩ := ih o (i + 1) (arr.setIfInBounds (o + i) v) (w.setCell ⟨B, o + i, none⟩ v) hset (by simpa using hf) ho.2 (by simp; omega)
    refine ⟨arr1, w1, ?_, h2, by rw [h3]; simp, ?_, by rw [h5]; simp [World.setCell], ⟨h6.os, h6.tape, h6.output⟩, fun k hk => by rw [h7 k hk, hoth k hk]⟩
    · simp only [storeCells, Sem.run_bind, addr_add, run_store _ _ _ _ _ hv, hc, hfr, Bool.false_eq_true, if_false, Result.andThen, h1]
    · intro j
      rw [h4 j]
      by_cases hj : o + (i + 1) ≤ j ∧ j < o + (i + 1) + l.length
      · rw [if_pos hj, if_pos (by simp; omega), show j - (o + i) = (j - (o + (i + 1))) + 1 by omega]; simp
      · rw [if_neg hj]
        by_cases hji : j = o + i
        · subst hji; rw [if_pos (by simp)]; simp [hlt]
        · rw [if_neg (by simp; omega), Array.getElem?_setIfInBounds_ne (by omega)]
section
variable {P : Program} {σ : Sg} {h : AH} {w : World}
theorem putRow_ok (hr : HR P σ h w) {b o : Nat} {e : Ent} (hb : σ b = some e) {l l' : List Value} (hl : RL σ l l') {h1 : AH} (hp : h.putRow ⟨b, o, none⟩ l = some h1) :
    ∃ w1, (storeCells ⟨e.blk, o, none⟩ l').run P w = .ok () w1 ∧ Ext P σ h w σ h1 w1 := by
  cases hl with
  | nil => cases hp; exact ⟨w, rfl, .refl hr⟩
  | cons hv ht =>
    rename_i v v' l l'
    simp only [AH.putRow] at hp
    split at hp
    · rename_i c n elem opn hg
      obtain ⟨h2, h3⟩ := cond_some hp
      cases h3
      rw [Bool.and_eq_true] at h2
      have hle : o + (v :: l).length ≤ n := Nat.le_of_ble_eq_true h2.1
      obtain ⟨arr, fz, hw, hf, hn, ho, hna, hsz, hcs⟩ := cells_ok hr hb hg
      have hl' : RL σ (v :: l) (v' :: l') := .cons hv ht
      have hlen := hl'.length
      have hone : (v' :: l').all oneC = true := by
        have aux : ∀ {a a' : List Value}, RL σ a a' → a.all oneC = true → a'.all oneC = true := by
          intro a
          induction a with
          | nil => intro a' r _; cases r; rfl
          | cons x a ih =>
            intro a' r hh
            cases r with
            | cons hx t =>
              simp only [List.all_cons, Bool.and_eq_true] at hh ⊢
              exact ⟨by have := hh.1; cases hx <;> simp_all [oneC], ih t hh.2⟩
        exact aux hl' h2.2
      obtain ⟨arr1, w1, k1, k2, k3, k4, k5, k6, k7⟩ := store_row (P := P) (v' :: l') o 0 arr w hw hf hone (by rw [hlen]; omega)
      refine ⟨w1, k1, put_ext hr hb (by rw [hg]; intro hh; cases hh) _ w1 k5 k6 k7 (.inr ⟨_, k2, arr1, fz, rfl, by rw [k3]; exact hf, by rw [k3]; exact hn, fun hh => by rw [k3]; exact ho hh, by rw [k3]; exact hna, hsz, ?_⟩)⟩
      intro i hi
      rw [T.get_lay, k4 i, hlen]
      by_cases hii : o ≤ i ∧ i < o + (v :: l).length
      · rw [if_pos hii, if_pos (by simpa using hii)]
        have hlt : i - o < (v :: l).length := by omega
        obtain ⟨u', hu1, hu2⟩ := hl'.get (i - o) _ (List.getElem?_eq_getElem hlt)
        exact ⟨_, u', List.getElem?_eq_getElem hlt, by simpa using hu1, hu2⟩
      · rw [if_neg hii, if_neg (by simpa using hii)]
        exact hcs i hi
    · cases hp
theorem newRow_ok (hr : HR P σ h w) {l l' : List Value} (hl : RL σ l l') (elem sz : Nat) (opn : Bool) (rest : List Value) (fz : Nat × Nat) (hopn : opn = false → rest = []) (hsz : opn = true → sizeL P elem = some sz)
    (hfz : ∀ i, i < l.length + rest.length → ¬ (fz.1 ≤ i ∧ i < fz.2)) :
    ∃ σ1, σ1 h.nx = some ⟨w.heap.size, l.length + rest.length, sz⟩ ∧ Ext P σ h w σ1 (h.newRow elem l opn) { w with heap := w.heap.push (.cells ⟨l' ++ rest⟩ elem fz) } := by
  have hlen := hl.length
  have old : ∀ b e, σ b = some e → b < h.nx := fun b e hb => (hr.live b e hb).1
  refine ⟨_, ?_, push_ext hr _ _ (l.length + rest.length) sz ⟨⟨l' ++ rest⟩, fz, rfl, ?_, by simp [hlen], ?_, ?_, hsz, ?_⟩⟩
  · simp
  · intro i hi; exact hfz i (by simpa [hlen] using hi)
  · intro ho; simp [hopn ho, hlen]
  · simp [hlen]
  · intro i hi
    obtain ⟨u', hu1, hu2⟩ := hl.get i _ (List.getElem?_eq_getElem hi)
    refine ⟨l[i], u', ?_, ?_, hu2.mono fun b e hb => ?_⟩
    · rw [T.get_lay, if_pos (by omega)]; simp
    · have : (l' ++ rest)[i]? = some u' := by rw [List.getElem?_append_left (by omega)]; exact hu1
      simpa using this
    · have := old b e hb; rw [if_neg (by omega)]; exact hb
end
end Go.Proofs.Ytaloembfekdkoaa.Ev
