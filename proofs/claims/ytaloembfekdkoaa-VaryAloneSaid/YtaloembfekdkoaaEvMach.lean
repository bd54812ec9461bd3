/-
  The evaluator: what it tells of frames is so, if it is so of regions that draw. No condition.
-/
import Derived.Orders
import Derived.Below
import Derived.Test.YtaloembfekdkoaaEvOpsB
namespace Go.Proofs.Ytaloembfekdkoaa.Ev
set_option linter.unusedVariables false
set_option linter.unusedSimpArgs false
set_option linter.unusedSectionVars false
set_option linter.unusedSectionVars false
variable [Val]
def bare (u : Option Value) (h : AH) : Option AR :=
  match u with
  | some v => some (.val v h)
  | none => none
def Bare (f : AH → Option AR) : Prop := ∃ u, ∀ h, f h = bare u h
theorem Bare.none : Bare fun _ => none := ⟨.none, fun _ => rfl⟩
theorem Bare.val (v : Value) : Bare fun h => some (.val v h) := ⟨some v, fun _ => rfl⟩
theorem Bare.aval (v : Option Value) : Bare fun h => aval v h := ⟨v, fun _ => by cases v <;> rfl⟩
theorem Bare.avalF (v : Option Value) : Bare fun h => avalF v h := by
  cases v with
  | none => exact .none
  | some v =>
    cases hf : flat 6 v with
    | true => exact ⟨some v, fun h => by simp [Ev.avalF, hf, bare]⟩
    | false => exact ⟨.none, fun h => by simp [Ev.avalF, hf, bare]⟩
theorem Bare.cond {f g : AH → Option AR} (b : Bool) (hf : Bare f) (hg : Bare g) : Bare fun h => cond b (f h) (g h) := by
  cases b
  · exact hg
  · exact hf
theorem opBin_bare {P : Program} [Orc P] [OrcOk P] {ρ : Ev} (op : BinOp) (t : TypeId) (x y : Operand) : Bare fun h => opBin P h ρ op t x y := by
  have hF : ∀ a b, Bare fun h => opBinF P h op t x y a b := fun a b => by
    unfold opBinF
    exact .cond _ (.avalF _) .none
  unfold opBin
  cases ρ x with
  | none => exact .none
  | some a =>
    cases ρ y with
    | none => exact .none
    | some b =>
      simp only
      cases a <;> simp only <;> first
        | exact .aval _
        | (cases b <;> simp only <;> first
            | exact .none
            | exact .aval _
            | (split
               · exact .val _
               · exact hF _ _)
            | (split
               · exact .cond _ (.val _) .none
               · split
                 · exact .val _
                 · exact .none))
        | (split
           · split
             · exact .val _
             · exact .val _
             · exact .none
           · exact hF _ _)
theorem blind_bare {P : Program} [Orc P] [OrcOk P] {ty : TypeId} {op : Op} (hb : blind P op = true) (ρ : Ev) : Bare fun h => (aopC P ty op).f h ρ := by
  have hmove : ∀ x, Bare fun h => opMove h ρ x := fun x => by
    unfold opMove
    cases ρ x <;> first | exact .none | exact .val _
  unfold blind at hb
  have hno : Orc.op P op = none := by
    cases hq : Orc.op P op with
    | none => rfl
    | some f => rw [hq] at hb; cases hb
  rw [hno] at hb
  simp only at hb
  have hS : (fun h => (aopC P ty op).f h ρ) = fun h => (aopS P ty op).f h ρ := by funext h; unfold aopC; rw [hno]
  rw [hS]
  clear hS hno
  cases op <;> first | (cases hb; done) | skip
  case move x => exact hmove x
  case assign x => exact hmove x
  case pick c a b =>
    show Bare fun h => opPick h ρ c a b
    unfold opPick
    split
    · exact hmove _
    · exact .none
  case build t parts =>
    show Bare fun h => opBuild P h ρ t parts.toList
    unfold opBuild aggOr
    repeat (first | exact .none | exact .val _ | refine .cond _ ?_ ?_ | split)
  case nilCheck x =>
    show Bare fun h => opNilCheck h ρ x
    unfold opNilCheck
    repeat (first | exact .none | exact .val _ | split)
  case binOp op t x y t2 => exact opBin_bare op t x y
  case unOp op t x =>
    show Bare fun h => opUn P h ρ op x
    unfold opUn
    split
    · exact .cond _ (.avalF _) .none
    · exact .none
  case makeInterface t x =>
    show Bare fun h => opIface P h ρ t x
    unfold opIface
    repeat (first | exact .none | exact .val _ | split)
  case makeFunc fn a b =>
    show Bare fun h => opFunc h ρ fn a.toList b.toList
    unfold opFunc
    repeat (first | exact .none | exact .val _ | split)
  case fieldAddr s x f =>
    show Bare fun h => opFieldAddr P h ρ s x f
    unfold opFieldAddr
    repeat (first | exact .none | exact .val _ | split)
  case field t x f =>
    show Bare fun h => opField P h ρ t x f
    unfold opField
    repeat (first | exact .none | exact .val _ | exact .aval _ | split)
  case indexAddr t x ix =>
    show Bare fun h => opIndexAddr P h ρ t x ix
    unfold opIndexAddr atOr
    repeat (first | exact .none | exact .val _ | refine .cond _ ?_ ?_ | split)
  case index t x ix =>
    show Bare fun h => opIndex P h ρ t x ix
    unfold opIndex
    repeat (first | exact .none | exact .val _ | exact .aval _ | refine .cond _ ?_ ?_ | split)
  case slice t x lo hi mx =>
    show Bare fun h => opSl P h ρ t x lo hi mx
    unfold opSl
    repeat (first | exact .none | exact .aval _ | split)
  case typeAssert x xt t ok =>
    show Bare fun h => opAssert P h ρ x t ok
    unfold opAssert
    repeat (first | exact .none | exact .val _ | refine .cond _ ?_ ?_ | split)
  case extract x i =>
    show Bare fun h => opExtract h ρ x i
    unfold opExtract
    repeat (first | exact .none | exact .aval _ | split)
  case convert src dst x =>
    show Bare fun h => opConvert P h ρ src dst x
    have hs : ∀ e, P.underlying src ≠ some (.slice e) := by
      intro e he
      simp [blindS, he] at hb
    have hd : ∀ e, P.underlying dst ≠ some (.slice e) := by
      intro e he
      simp [blindS, he] at hb
    unfold opConvert
    cases ρ x with
    | none => exact .none
    | some v =>
      simp only
      split
      · repeat (first | exact .none | exact .val _ | split)
      · rename_i e he; exact absurd he (hd e)
      · split
        · first
            | exact .none
            | (split
               · rename_i e he; exact absurd he (hs e)
               · exact .none)
        · exact .cond _ (.avalF _) .none
      · exact .cond _ (.avalF _) .none
  case call c =>
    show Bare fun h => opCall P h ρ c ty
    obtain ⟨callee, args, ts⟩ := c
    cases callee with
    | value f => cases hb
    | invoke r n => cases hb
    | builtin b =>
      cases b <;> first | (cases hb; done) | skip
      unfold opCall resolveL
      simp only
      cases mapE ρ args.toList with
      | none => exact .none
      | some vs =>
        simp only [invokeL, opBuiltin]
        split
        · rename_i x
          unfold opLen
          cases hts : ts.toList with
          | nil => exact .none
          | cons t tl =>
            simp only
            have hm : ∀ k e, P.underlying t ≠ some (.map k e) := by
              intro k e he
              simp [blindS, hts, he] at hb
            split
            · split <;> first | exact .val _ | exact .none
            · split <;> first | exact .val _ | exact .none
            · exact .val _
            · rename_i k e he; exact absurd he (hm k e)
            · exact .none
        · exact .none
end Go.Proofs.Ytaloembfekdkoaa.Ev
namespace Go.Proofs.Ytaloembfekdkoaa.Ev
set_option linter.unusedVariables false
set_option linter.unusedSimpArgs false
set_option linter.unusedSectionVars false
set_option linter.unusedSectionVars false
variable [Val]
inductive PEL (σ : Sg) : List PanicEntry → List PanicEntry → Prop where
  | nil : PEL σ [] []
  | cons {v v' : Value} (r g : Bool) {l l' : List PanicEntry} (h : VR σ v v') (t : PEL σ l l') : PEL σ (⟨v, r, g⟩ :: l) (⟨v', r, g⟩ :: l')
inductive MR (σ : Sg) : FrameMode → FrameMode → Prop where
  | run : MR σ .run .run
  | returning : MR σ .returning .returning
  | panicking {l l' : List PanicEntry} (h : PEL σ l l') : MR σ (.panicking l) (.panicking l')
inductive DRL (σ : Sg) : List Deferred → List Deferred → Prop where
  | nil : DRL σ [] []
  | cons {d d' : Deferred} {l l' : List Deferred} (h : DR σ d d') (t : DRL σ l l') : DRL σ (d :: l) (d' :: l')
inductive OutR (σ : Sg) : Out → Out → Prop where
  | ret {v v' : Value} (h : VR σ v v') : OutR σ (.ret v) (.ret v')
  | pan {c c' : List PanicEntry} (h : PEL σ c c') : OutR σ (.pan c) (.pan c')
def plainItem : Item → Bool
  | .code _ | .inBlock _ | .inLoop _ | .inScope _ | .beginRound => true
  | _ => false
inductive IRL (σ : Sg) : List Item → List Item → Prop where
  | nil : IRL σ [] []
  | same (i : Item) (h : plainItem i = true) {l l' : List Item} (t : IRL σ l l') : IRL σ (i :: l) (i :: l')
  | endR {b : Nat} {e : Ent} (h : σ b = some e) {l l' : List Item} (t : IRL σ l l') : IRL σ (.endRangeFunc b :: l) (.endRangeFunc e.blk :: l')
inductive RdR (σ : Sg) : Option Nat → Option Nat → Prop where
  | none : RdR σ none none
  | some {b : Nat} {e : Ent} (h : σ b = some e) : RdR σ (some b) (some e.blk)
theorem PEL.mono {σ τ : Sg} (hs : σ.sub τ) : ∀ {l l'}, PEL σ l l' → PEL τ l l'
  | _, _, .nil => .nil
  | _, _, .cons r g h t => .cons r g (h.mono hs) (PEL.mono hs t)
theorem MR.mono {σ τ : Sg} (hs : σ.sub τ) {m m'} : MR σ m m' → MR τ m m'
  | .run => .run
  | .returning => .returning
  | .panicking h => .panicking (h.mono hs)
theorem TR.mono {σ τ : Sg} (hs : σ.sub τ) {t t'} : TR σ t t' → TR τ t t'
  | .fn hf hc => .fn (match hf with | .same h => .same h | .yield h => .yield (hs _ _ h)) (hc.mono hs)
  | .builtin b ts t c c' => .builtin b ts t c c'
  | .coll h => .coll (hs _ _ h)
theorem DRL.mono {σ τ : Sg} (hs : σ.sub τ) : ∀ {l l'}, DRL σ l l' → DRL τ l l'
  | _, _, .nil => .nil
  | _, _, .cons h t => .cons ⟨h.1.mono hs, h.2.mono hs⟩ (DRL.mono hs t)
theorem DRL.append {σ : Sg} : ∀ {a a' b b'}, DRL σ a a' → DRL σ b b' → DRL σ (a ++ b) (a' ++ b')
  | _, _, _, _, .nil, k => k
  | _, _, _, _, .cons h t, k => .cons h (DRL.append t k)
theorem OutR.mono {σ τ : Sg} (hs : σ.sub τ) {o o'} : OutR σ o o' → OutR τ o o'
  | .ret h => .ret (h.mono hs)
  | .pan h => .pan (h.mono hs)
theorem IRL.mono {σ τ : Sg} (hs : σ.sub τ) : ∀ {l l'}, IRL σ l l' → IRL τ l l'
  | _, _, .nil => .nil
  | _, _, .same i h t => .same i h (IRL.mono hs t)
  | _, _, .endR h t => .endR (hs _ _ h) (IRL.mono hs t)
theorem RdR.mono {σ τ : Sg} (hs : σ.sub τ) {l l'} : RdR σ l l' → RdR τ l l'
  | .none => .none
  | .some h => .some (hs _ _ h)
theorem exitTo_ok {σ : Sg} (id : Nat) : ∀ {l l' : List Item} (k : List Item), IRL σ l l' → ∀ {r}, exitTo id l = some r → ∃ r', exitTo id (l' ++ k) = some (r' ++ k) ∧ IRL σ r r'
  | _, _, k, .nil, r, h => by simp [exitTo] at h
  | _, _, k, .same i hi t, r, h => by
    cases i <;> first | (cases hi; done) | skip
    case inBlock id' =>
      simp only [exitTo] at h
      cases hb : (id' == id) with
      | true => rw [hb] at h; cases h; exact ⟨_, by simp [exitTo, hb], t⟩
      | false =>
        rw [hb] at h
        obtain ⟨r', h1, h2⟩ := exitTo_ok id k t h
        exact ⟨r', by simp only [List.cons_append, exitTo, hb]; exact h1, h2⟩
    all_goals
      simp only [exitTo] at h
      obtain ⟨r', h1, h2⟩ := exitTo_ok id k t h
      exact ⟨r', by simp only [List.cons_append, exitTo]; exact h1, h2⟩
  | _, _, k, .endR hb t, r, h => by
    simp only [exitTo] at h
    obtain ⟨r', h1, h2⟩ := exitTo_ok id k t h
    exact ⟨r', by simp only [List.cons_append, exitTo]; exact h1, h2⟩
theorem exitTo_none {σ : Sg} (id : Nat) : ∀ {l l' : List Item}, IRL σ l l' → exitTo id l = none → exitTo id l' = none
  | _, _, .nil, h => rfl
  | _, _, .same i hi t, h => by
    cases i <;> first | (cases hi; done) | skip
    case inBlock id' =>
      simp only [exitTo] at h ⊢
      cases hb : (id' == id) with
      | true => rw [hb] at h; cases h
      | false => rw [hb] at h; exact exitTo_none id t h
    all_goals (simp only [exitTo] at h ⊢; exact exitTo_none id t h)
  | _, _, .endR hb t, h => by simp only [exitTo] at h ⊢; exact exitTo_none id t h
theorem gotoIn_ok {σ : Sg} (id : Nat) : ∀ {l l' : List Item} (k : List Item), IRL σ l l' → ∀ {r}, gotoIn id l = some r → ∃ r', gotoIn id (l' ++ k) = some (r' ++ k) ∧ IRL σ r r'
  | _, _, k, .nil, r, h => by simp [gotoIn] at h
  | _, _, k, .same i hi t, r, h => by
    cases i <;> first | (cases hi; done) | skip
    case inScope body =>
      simp only [gotoIn] at h
      cases hb : findLabel body id with
      | some rest => rw [hb] at h; cases h; exact ⟨.code rest :: .inScope body :: _, by simp only [List.cons_append, gotoIn, hb], .same _ rfl (.same _ rfl t)⟩
      | none =>
        rw [hb] at h
        obtain ⟨r', h1, h2⟩ := gotoIn_ok id k t h
        exact ⟨r', by simp only [List.cons_append, gotoIn, hb]; exact h1, h2⟩
    all_goals
      simp only [gotoIn] at h
      obtain ⟨r', h1, h2⟩ := gotoIn_ok id k t h
      exact ⟨r', by simp only [List.cons_append, gotoIn]; exact h1, h2⟩
  | _, _, k, .endR hb t, r, h => by
    simp only [gotoIn] at h
    obtain ⟨r', h1, h2⟩ := gotoIn_ok id k t h
    exact ⟨r', by simp only [List.cons_append, gotoIn]; exact h1, h2⟩
theorem gotoIn_none {σ : Sg} (id : Nat) : ∀ {l l' : List Item}, IRL σ l l' → gotoIn id l = none → gotoIn id l' = none
  | _, _, .nil, h => rfl
  | _, _, .same i hi t, h => by
    cases i <;> first | (cases hi; done) | skip
    case inScope body =>
      simp only [gotoIn] at h ⊢
      cases hb : findLabel body id with
      | some rest => rw [hb] at h; cases h
      | none => rw [hb] at h; exact gotoIn_none id t h
    all_goals (simp only [gotoIn] at h ⊢; exact gotoIn_none id t h)
  | _, _, .endR hb t, h => by simp only [gotoIn] at h ⊢; exact gotoIn_none id t h
def ER (σ : Sg) (env : T Value) (n : Nat) (unk : List Tmp) (tmps : Array Value) : Prop :=
  tmps.size = n ∧ ∀ t v, t ∉ unk → env.get t = some v → ∃ v', tmps[t]? = some v' ∧ VR σ v v'
theorem ER.mono {σ τ : Sg} (hs : σ.sub τ) {env n unk tmps} (h : ER σ env n unk tmps) : ER τ env n unk tmps :=
  ⟨h.1, fun t v ht hv => by obtain ⟨v', h1, h2⟩ := h.2 t v ht hv; exact ⟨v', h1, h2.mono hs⟩⟩
structure FR (σ : Sg) (k : List Item) (fr : AF) (fr' : Frame) : Prop where
  fn : fr'.fn = fr.fn
  env : ER σ fr.env fr.n fr.unk fr'.tmps
  todo : fr.mode = .run → ∃ t, fr'.todo = t ++ k ∧ IRL σ fr.todo t
  more : fr.more = false → k = []
  ds : DRL σ fr.defers fr'.defers
  mode : MR σ fr.mode fr'.mode
  kind : fr'.kind = fr.kind
  rnd : RdR σ fr.rnd fr'.roundOf
  unk : fr.mode = .run → fr.unk = []
theorem FR.mono {σ τ : Sg} (hs : σ.sub τ) {k fr fr'} (h : FR σ k fr fr') : FR τ k fr fr' :=
  ⟨h.fn, h.env.mono hs, fun hm => by obtain ⟨t, h1, h2⟩ := h.todo hm; exact ⟨t, h1, h2.mono hs⟩, h.more, h.ds.mono hs, h.mode.mono hs, h.kind, h.rnd.mono hs, h.unk⟩
def mkCs (kind : CallKind) (c : Frame) (cs : List Frame) (m : FrameMode) : List Frame :=
  match kind with
  | .deferred => { c with mode := m } :: cs
  | _ => cs
inductive Ends (P : Program) (kind : CallKind) (fr : Frame) (wa w : World) : Out → Prop where
  | ret {v : Value} (fn : Func) (hw : wa = w) (hm : fr.mode = .returning) (hd : fr.defers = []) (hk : fr.kind = kind) (hf : P.funcs[fr.fn]? = some fn) (hr : (results fn fr.tmps).run P w = .ok v w) : Ends P kind fr wa w (.ret v)
  | round {v : Value} (hk : kind = .normal) (hs : ∀ c cs, step P (lone fr (c :: cs) wa) = .next (lone (c.finish v) cs w)) (hr : fr.roundOf ≠ none) : Ends P kind fr wa w (.ret v)
  | pan {ch : List PanicEntry} (fn : Func) (hw : wa = w) (hm : fr.mode = .panicking ch) (hd : fr.defers = []) (hf : P.funcs[fr.fn]? = some fn) : Ends P kind fr wa w (.pan ch)
def Res (P : Program) (σ : Sg) (h : AH) (w : World) (kind : CallKind) (fr' : Frame) (m : FrameMode) (c : Frame) (cs : List Frame) (l : List OutS) : Prop :=
  ∃ o ∈ l, ∃ σ1 w1 wa fr1 m1 out', Ext P σ h w σ1 o.h w1 ∧ MR σ1 o.up m1 ∧ OutR σ1 o.out out' ∧
    Steps P (lone fr' (mkCs kind c cs m) w) (lone fr1 (mkCs kind c cs m1) wa) ∧ Ends P kind fr1 wa w1 out' ∧ fr1.fn = fr'.fn ∧ fr1.roundOf = fr'.roundOf
def RunS (P : Program) (run : Run) : Prop :=
  ∀ fr up h l, run fr up h = some l → (fr.kind = .normal ∨ fr.kind = .deferred) → (∃ fn, P.funcs[fr.fn]? = some fn) → ∀ σ w k fr' m, FR σ k fr fr' → HR P σ h w → MR σ up m → ∀ c cs, Res P σ h w fr.kind fr' m c cs l
theorem Res.head {P : Program} [Orc P] [OrcOk P] {σ σ1 : Sg} {h h1 : AH} {w w1 : World} {kind : CallKind} {fr' fr1 : Frame} {m m1 : FrameMode} {c : Frame} {cs : List Frame} {l : List OutS}
    (hs : Steps P (lone fr' (mkCs kind c cs m) w) (lone fr1 (mkCs kind c cs m1) w1)) (hx : Ext P σ h w σ1 h1 w1) (hfn : fr1.fn = fr'.fn) (hrd : fr1.roundOf = fr'.roundOf) (hr : Res P σ1 h1 w1 kind fr1 m1 c cs l) : Res P σ h w kind fr' m c cs l := by
  obtain ⟨o, ho, σ2, w2, wa, fr2, m2, out', a, b, d, e, f, g, i⟩ := hr
  exact ⟨o, ho, σ2, w2, wa, fr2, m2, out', hx.trans a, b, d, hs.trans e, f, g.trans hfn, i.trans hrd⟩
theorem Res.mem {P : Program} [Orc P] [OrcOk P] {σ : Sg} {h : AH} {w : World} {kind : CallKind} {fr' : Frame} {m : FrameMode} {c : Frame} {cs : List Frame} {l l2 : List OutS}
    (hr : Res P σ h w kind fr' m c cs l) (hsub : ∀ o ∈ l, o ∈ l2) : Res P σ h w kind fr' m c cs l2 := by
  obtain ⟨o, ho, r⟩ := hr
  exact ⟨o, hsub o ho, r⟩
def popN (c : Frame) : Out → Frame
  | .ret v => c.finish v
  | .pan ch => c.raise ch
def popD (c : Frame) : Out → Frame
  | .ret _ => { c with mode := settled c.mode }
  | .pan ch => c.raise ch
theorem Ends.pop_normal {P : Program} [Orc P] [OrcOk P] {fr : Frame} {wa w : World} {o : Out} (h : Ends P .normal fr wa w o) (c : Frame) (cs : List Frame) :
    step P (lone fr (c :: cs) wa) = .next (lone (popN c o) cs w) := by
  cases h with
  | ret fn hw hm hd hk hf hr =>
    subst hw
    exact step_lone_go (by simp [stepG, unwind, doReturn, hm, hd, hk, hf, hr, popN])
  | round _ hs _ => exact hs c cs
  | pan fn hw hm hd hf =>
    subst hw
    exact step_lone_go (by simp [stepG, unwind, Frame.catches, hm, hd, hf, popN])
theorem Ends.pop_deferred {P : Program} [Orc P] [OrcOk P] {fr : Frame} {wa w : World} {o : Out} (h : Ends P .deferred fr wa w o) (c : Frame) (cs : List Frame) :
    step P (lone fr (c :: cs) wa) = .next (lone (popD c o) cs w) := by
  cases h with
  | ret fn hw hm hd hk hf hr =>
    subst hw
    refine step_lone_go ?_
    simp only [stepG, unwind, doReturn, hm, hd, hk, hf, Sem.runT_eq, hr, GStep.bare_after, popD, settled]
    obtain ⟨f, tm, td, ds, mode, kd, rd⟩ := c
    cases mode with
    | run => rfl
    | returning => rfl
    | panicking l => cases l with
      | nil => rfl
      | cons e l =>
        obtain ⟨v, r, g⟩ := e
        cases r with
        | false => rfl
        | true =>
          simp only
          cases List.dropWhile (fun x => !x.goexit) l <;> rfl
  | round hk _ _ => cases hk
  | pan fn hw hm hd hf =>
    subst hw
    exact step_lone_go (by simp [stepG, unwind, Frame.catches, hm, hd, hf, popD])
section steps
variable {P : Program} [Orc P] [OrcOk P] {fr : Frame} {cs : List Frame} {w : World} {k : List Item}
theorem st_skip (hm : fr.mode = .run) (ht : fr.todo = .code .skip :: k ∨ (∃ l, fr.todo = .code (.label l) :: k) ∨ (∃ l, fr.todo = .inBlock l :: k) ∨ (∃ l, fr.todo = .inScope l :: k)) :
    step P (lone fr cs w) = .next (lone { fr with todo := k } cs w) := by
  rcases ht with ht | ⟨l, ht⟩ | ⟨l, ht⟩ | ⟨l, ht⟩ <;> exact step_lone_go (by simp [stepG, stepG.exec, hm, ht])
theorem st_seq {a b : Code} (hm : fr.mode = .run) (ht : fr.todo = .code (.seq a b) :: k) : step P (lone fr cs w) = .next (lone { fr with todo := .code a :: .code b :: k } cs w) :=
  step_lone_go (by simp [stepG, stepG.exec, hm, ht])
theorem st_cond {c : Operand} {x y : Code} {b : Bool} (hm : fr.mode = .run) (ht : fr.todo = .code (.cond c x y) :: k) (hc : fr.eval c = .bool b) : step P (lone fr cs w) = .next (lone { fr with todo := .code (cond b x y) :: k } cs w) :=
  step_lone_go (by cases b <;> simp [stepG, stepG.exec, hm, ht, hc])
theorem st_block {id : Nat} {b : Code} (hm : fr.mode = .run) (ht : fr.todo = .code (.block id b) :: k) : step P (lone fr cs w) = .next (lone { fr with todo := .code b :: .inBlock id :: k } cs w) :=
  step_lone_go (by simp [stepG, stepG.exec, hm, ht])
theorem st_loop {b : Code} (hm : fr.mode = .run) (ht : fr.todo = .code (.loop b) :: k ∨ fr.todo = .inLoop b :: k) : step P (lone fr cs w) = .next (lone { fr with todo := .code b :: .inLoop b :: k } cs w) := by
  rcases ht with ht | ht <;> exact step_lone_go (by simp [stepG, stepG.exec, hm, ht])
theorem st_scope {b : Code} (hm : fr.mode = .run) (ht : fr.todo = .code (.scope b) :: k) : step P (lone fr cs w) = .next (lone { fr with todo := .code b :: .inScope b :: k } cs w) :=
  step_lone_go (by simp [stepG, stepG.exec, hm, ht])
theorem st_exit {id : Nat} {k' : List Item} (hm : fr.mode = .run) (ht : fr.todo = .code (.exit id) :: k) (he : exitTo id k = some k') : step P (lone fr cs w) = .next (lone { fr with todo := k' } cs w) :=
  step_lone_go (by simp [stepG, stepG.exec, hm, ht, he])
theorem st_goto {l : Nat} {k' : List Item} (hm : fr.mode = .run) (ht : fr.todo = .code (.goto l) :: k) (he : gotoIn l k = some k') : step P (lone fr cs w) = .next (lone { fr with todo := k' } cs w) :=
  step_lone_go (by simp [stepG, stepG.exec, hm, ht, he])
theorem st_ret (hm : fr.mode = .run) (ht : fr.todo = [] ∨ fr.todo = .code .ret :: k) (hr : fr.roundOf = none) : step P (lone fr cs w) = .next (lone { fr with mode := .returning } cs w) := by
  rcases ht with ht | ht <;> exact step_lone_go (by simp [stepG, stepG.exec, hm, ht, hr])
def jumpOf (todo : List Item) : Option (Option Code) :=
  match todo with
  | [] => some none
  | .code .ret :: _ => some (some .ret)
  | .code (.exit id) :: k => if (exitTo id k).isNone then some (some (.exit id)) else none
  | .code (.goto l) :: k => if (gotoIn l k).isNone then some (some (.goto l)) else none
  | _ => none
theorem st_round {c : Frame} {l : Nat} {j : Option Code} {v : Value} {w1 : World} (hm : fr.mode = .run) (ht : jumpOf fr.todo = some j) (hr : fr.roundOf = some l) (hk : fr.kind = .normal) (he : (Instr.endRound l j).run P w = .ok v w1) :
    step P (lone fr (c :: cs) w) = .next (lone (c.finish v) cs w1) := by
  unfold jumpOf at ht
  split at ht
  · rename_i hto; cases ht; exact step_lone_go (by simp [stepG, stepG.exec, hm, hto, hr, hk, Sem.runT_eq, he, doReturn])
  · rename_i hto; cases ht; exact step_lone_go (by simp [stepG, stepG.exec, hm, hto, hr, hk, Sem.runT_eq, he, doReturn])
  · rename_i id0 k0 hto
    split at ht
    · rename_i hn; cases ht
      have hn' : exitTo id0 k0 = none := by simpa using hn
      exact step_lone_go (by simp [stepG, stepG.exec, hm, hto, hr, hk, Sem.runT_eq, he, doReturn, hn'])
    · cases ht
  · rename_i id0 k0 hto
    split at ht
    · rename_i hn; cases ht
      have hn' : gotoIn id0 k0 = none := by simpa using hn
      exact step_lone_go (by simp [stepG, stepG.exec, hm, hto, hr, hk, Sem.runT_eq, he, doReturn, hn'])
    · cases ht
  · cases ht
theorem st_begin {l : Nat} {w1 : World} (hm : fr.mode = .run) (ht : fr.todo = .beginRound :: k) (hr : fr.roundOf = some l) (he : (Instr.beginRound l).run P w = .ok () w1) :
    step P (lone fr cs w) = .next (lone { fr with todo := k } cs w1) :=
  step_lone_go (by simp [stepG, stepG.exec, stepG.apply, hm, ht, hr, Sem.runT_eq, he, Result.andThen, Frame.finish])
theorem st_endR {l : Nat} {j : Option Code} {w1 : World} (hm : fr.mode = .run) (ht : fr.todo = .endRangeFunc l :: k) (he : (Instr.endLoop l).run P w = .ok j w1) :
    step P (lone fr cs w) = .next (lone { fr with todo := (j.map Item.code).toList ++ k } cs w1) :=
  step_lone_go (by simp [stepG, stepG.exec, hm, ht, Sem.runT_eq, he])
variable {ops : Array Oper} {i : Nat} {rest : List Nat} {o : Oper}
theorem st_reg {id : Nat} (hm : fr.mode = .run) (ht : fr.todo = .code (.region id ops false) :: k) : step P (lone fr cs w) = .next (lone { fr with todo := .inRegion ops (List.range ops.size) :: k } cs w) :=
  step_lone_go (by simp [stepG, stepG.exec, hm, ht])
theorem st_regD {id : Nat} (hm : fr.mode = .run) (ht : fr.todo = .code (.region id ops true) :: k) : step P (lone fr cs w) =
    .next (lone { fr with todo := .inRegion ops (Region.schedule (P.follows .mixedOrders) ops (w.tape w.drawn (.order fr.fn id))) :: k } cs { w with drawn := w.drawn + 1 }) :=
  step_lone_go (by simp [stepG, stepG.exec, hm, ht, choose, Sem.run, Question.forced, Question.cut])
theorem st_regE (hm : fr.mode = .run) (ht : fr.todo = .inRegion ops [] :: k) : step P (lone fr cs w) = .next (lone { fr with todo := k } cs w) :=
  step_lone_go (by simp [stepG, stepG.exec, hm, ht])
theorem st_opSkip (hm : fr.mode = .run) (ht : fr.todo = .inRegion ops (i :: rest) :: k) (ho : ops[i]? = some o) (hw : Region.wanted o (yielded ops fr.tmps) = false) :
    step P (lone fr cs w) = .next (lone (fr.finish undef) cs w) :=
  step_lone_go (by simp [stepG, stepG.exec, hm, ht, ho, hw])
theorem st_op (hm : fr.mode = .run) (ht : fr.todo = .inRegion ops (i :: rest) :: k) (ho : ops[i]? = some o) (hw : Region.wanted o (yielded ops fr.tmps) = true) (hnd : fr.roundOf = none ∨ ∀ c, o.op ≠ .defer c) :
    stepG P true { frame := fr, callers := cs, status := .running, dying := none } w = stepG.apply P true fr cs none (execOp fr.eval o) w := by
  simp only [stepG, stepG.exec, hm, ht, ho, hw, Option.map_some, Option.getD_some, if_true, stepG.oper, Frame.oper?]
  rcases hnd with h0 | h0
  · simp [h0]
  · split
    · rename_i c hc; exact absurd (by assumption) (h0 _)
    · rfl
end steps
end Go.Proofs.Ytaloembfekdkoaa.Ev
namespace Go.Proofs.Ytaloembfekdkoaa.Ev
set_option linter.unusedVariables false
set_option linter.unusedSimpArgs false
set_option linter.unusedSectionVars false
set_option linter.unusedSectionVars false
variable [Val]
theorem veq_eq : ∀ (n : Nat) {v w : Value}, veq n v w = true → v = w := by
  intro n
  induction n with
  | zero => intro v w h; cases h
  | succ n ih =>
    have ihl : ∀ {l r : List Value}, l.length = r.length → ((l.zip r).all fun p => veq n p.1 p.2) = true → l = r := by
      intro l
      induction l with
      | nil => intro r hl _; cases r with | nil => rfl | cons _ _ => simp at hl
      | cons v l ihl =>
        intro r hl h
        cases r with
        | nil => simp at hl
        | cons w r =>
          simp only [List.zip_cons_cons, List.all_cons, Bool.and_eq_true] at h
          rw [ih h.1, ihl (by simpa using hl) h.2]
    intro v w h
    cases v with
    | bool a => cases w <;> first | (cases h; done) | (rw [show a = _ from eq_of_beq h])
    | int k a =>
      cases w <;> first | (cases h; done) | skip
      have h' : (decide _ && decide _) = true := h
      rw [Bool.and_eq_true] at h'
      rw [of_decide_eq_true h'.1, of_decide_eq_true h'.2]
    | string s =>
      cases w <;> first | (cases h; done) | skip
      have h' : decide _ = true := h
      rw [show s = _ from ByteArray.ext (Array.toList_inj.1 (of_decide_eq_true h'))]
    | nilFunc => cases w <;> first | (cases h; done) | rfl
    | nilIface => cases w <;> first | (cases h; done) | rfl
    | pointer a =>
      cases a with
      | some a => cases w <;> cases h
      | none =>
        cases w <;> first | (cases h; done) | skip
        rename_i b
        cases b <;> first | (cases h; done) | rfl
    | map a =>
      cases a with
      | some a => cases w <;> cases h
      | none =>
        cases w <;> first | (cases h; done) | skip
        rename_i b
        cases b <;> first | (cases h; done) | rfl
    | chan a =>
      cases a with
      | none => cases w <;> cases h
      | some a =>
        cases w <;> first | (cases h; done) | skip
        rename_i b
        cases b with
        | none => cases h
        | some b =>
          have h' : Nat.beq a b = true := h
          rw [Nat.eq_of_beq_eq_true h']
    | slice a l c =>
      cases a with
      | some a => cases w <;> cases h
      | none =>
        cases w <;> first | (cases h; done) | skip
        rename_i b l' c'
        cases b with
        | some b => cases h
        | none =>
          have h' : (Nat.beq l l' && Nat.beq c c') = true := h
          rw [Bool.and_eq_true] at h'
          rw [Nat.eq_of_beq_eq_true h'.1, Nat.eq_of_beq_eq_true h'.2]
    | iface t v =>
      cases w <;> first | (cases h; done) | skip
      rename_i t' v'
      have h' : (Nat.beq t t' && veq n v v') = true := h
      rw [Bool.and_eq_true] at h'
      rw [Nat.eq_of_beq_eq_true h'.1, ih h'.2]
    | agg a =>
      cases w <;> first | (cases h; done) | skip
      rename_i b
      have h' : (Nat.beq a.toList.length b.toList.length && (a.toList.zip b.toList).all fun p => veq n p.1 p.2) = true := h
      rw [Bool.and_eq_true] at h'
      rw [Array.toList_inj.1 (ihl (Nat.eq_of_beq_eq_true h'.1) h'.2)]
    | tuple a =>
      cases w <;> first | (cases h; done) | skip
      rename_i b
      have h' : (Nat.beq a.toList.length b.toList.length && (a.toList.zip b.toList).all fun p => veq n p.1 p.2) = true := h
      rw [Bool.and_eq_true] at h'
      rw [Array.toList_inj.1 (ihl (Nat.eq_of_beq_eq_true h'.1) h'.2)]
    | float k a => cases w <;> cases h
    | complex k a b => cases w <;> cases h
    | func f a b => cases w <;> cases h
theorem outEq_eq {a b : Out} (h : outEq a b = true) : a = b := by
  unfold outEq at h
  split at h
  · rw [veq_eq 6 h]
  · rw [veq_eq 6 h]
  · cases h
theorem outFlat_ok {σ τ : Sg} {a o' : Out} (h : outFlat a = true) (hr : OutR τ a o') : OutR σ a o' := by
  unfold outFlat at h
  split at h
  · cases hr with
    | ret hv => rw [flat_eq 6 h hv]; exact .ret (flat_refl σ 6 h)
  · cases hr with
    | pan hc => cases hc with
      | cons _ _ hv t => cases t; rw [flat_eq 6 h hv]; exact .pan (.cons _ _ (flat_refl σ 6 h) .nil)
  · cases h
theorem rowEq_eq : ∀ {l r : List Value}, rowEq l r = true → l = r
  | [], [], _ => rfl
  | [], _ :: _, h => by cases h
  | _ :: _, [], h => by cases h
  | v :: l, w :: r, h => by
    have h' : (veq 6 v w && rowEq l r) = true := h
    rw [Bool.and_eq_true] at h'
    rw [veq_eq 6 h'.1, rowEq_eq h'.2]
theorem entryEq_eq : ∀ {l r : List MapEntry}, entryEq l r = true → l = r
  | [], [], _ => rfl
  | [], _ :: _, h => by cases h
  | _ :: _, [], h => by cases h
  | ⟨k, v, b⟩ :: l, ⟨k', v', b'⟩ :: r, h => by
    have h' : (veq 6 k k' && veq 6 v v' && Nat.beq b b' && entryEq l r) = true := h
    rw [Bool.and_eq_true, Bool.and_eq_true, Bool.and_eq_true] at h'
    rw [veq_eq 6 h'.1.1.1, veq_eq 6 h'.1.1.2, Nat.eq_of_beq_eq_true h'.1.2, entryEq_eq h'.2]
theorem entries_flat {σ τ : Sg} : ∀ {l l' : List MapEntry}, (l.all fun e => flat 6 e.key && flat 6 e.val) = true → ERL τ l l' → ERL σ l l'
  | _, _, _, .nil => .nil
  | _, _, h, .cons hk hv t => by
    simp only [List.all_cons, Bool.and_eq_true] at h
    have e1 := flat_eq 6 h.1.1 hk
    have e2 := flat_eq 6 h.1.2 hv
    rw [e1, e2]
    exact .cons (flat_refl σ 6 h.1.1) (flat_refl σ 6 h.1.2) (entries_flat h.2 t)
theorem objEq_ok {P : Program} [Orc P] [OrcOk P] {σ τ : Sg} {e : Ent} {a b : Option AObj} (hf : objFlat a = true) (he : objEq a b = true) :
    ∃ x y, a = some x ∧ b = some y ∧ x ≠ .dead ∧ y ≠ .dead ∧ ∀ o, okObj P τ e y o → okObj P σ e x o := by
  unfold objEq at he
  split at he
  · rename_i es c fs d
    rw [Bool.and_eq_true] at he
    have e1 := Nat.eq_of_beq_eq_true he.1
    have e2 := entryEq_eq he.2
    refine ⟨_, _, rfl, rfl, (by intro h; cases h), (by intro h; cases h), fun o ho => ?_⟩
    obtain ⟨es', rfl, h2⟩ := ho
    subst e1
    exact ⟨es', rfl, entries_flat hf (by rw [e2]; exact h2)⟩
  · rename_i c n el d m f
    rw [Bool.and_eq_true, Bool.and_eq_true] at he
    have e1 := Nat.eq_of_beq_eq_true he.1.1
    have e2 := Nat.eq_of_beq_eq_true he.1.2
    subst e1; subst e2
    refine ⟨_, _, rfl, rfl, (by intro h; cases h), (by intro h; cases h), fun o ho => ?_⟩
    have he2 := he.2
    split at he2
    · rename_i l r hl hr
      have e3 := rowEq_eq he2
      subst e3
      have hf' : (match c.row n 0 with | some l => l.all (flat 6) | none => false) = true := hf
      rw [hl] at hf'
      obtain ⟨l1, l2⟩ := T.row_spec c _ _ _ hl
      obtain ⟨r1, r2⟩ := T.row_spec d _ _ _ hr
      obtain ⟨arr, fz, h1, h2, h3, h4, h5, h6, h7⟩ := ho
      refine ⟨arr, fz, h1, h2, h3, h4, h5, h6, fun i hi => ?_⟩
      obtain ⟨v, v', a1, a2, a3⟩ := h7 i hi
      have g1 := l2 i hi
      have g2 := r2 i hi
      rw [Nat.zero_add] at g1 g2
      rw [g2] at a1
      have hflat : flat 6 v = true := List.all_eq_true.1 hf' v (List.mem_of_getElem? a1)
      refine ⟨v, v', by rw [g1]; exact a1, a2, ?_⟩
      rw [flat_eq 6 hflat a3]; exact flat_refl σ 6 hflat
    · cases he2
  · cases he
theorem clean_bits {n : Nat} {h : AH} (hc : clean n h = true) (b : Nat) (hb : b < n) : h.wm.testBit b = false := by
  have h1 : h.wm % 2 ^ n = 0 := Nat.eq_of_beq_eq_true hc
  have h2 : (h.wm % 2 ^ n).testBit b = h.wm.testBit b := by rw [Nat.testBit_mod_two_pow]; simp [hb]
  rw [← h2, h1]; simp
theorem mask_bit : ∀ (l : List OutS) (u : Nat) (b : Nat), (l.foldl (fun u x => Nat.lor u x.h.wm) u).testBit b = false → u.testBit b = false ∧ ∀ x ∈ l, x.h.wm.testBit b = false := by
  intro l
  induction l with
  | nil => intro u b h; exact ⟨h, fun x hx => by cases hx⟩
  | cons y l ih =>
    intro u b h
    obtain ⟨h1, h2⟩ := ih _ b h
    have h1' : (u ||| y.h.wm).testBit b = false := h1
    rw [Nat.testBit_or, Bool.or_eq_false_iff] at h1'
    exact ⟨h1'.1, fun x hx => by
      cases hx with
      | head => exact h1'.2
      | tail _ hx => exact h2 x hx⟩
theorem mergeH_spec (u : Nat) (r : AH) : ∀ (l : List Nat) (h : AH), (mergeH u r l h).nx = h.nx ∧
    (∀ c, (mergeH u r l h).get c = if c ∈ l ∧ u.testBit c = true ∧ (r.get c).isSome then r.get c else h.get c) ∧
    (∀ c, (mergeH u r l h).wm.testBit c = false → h.wm.testBit c = false ∧ (c ∈ l → u.testBit c = true → r.get c = none)) := by
  intro l
  induction l with
  | nil => intro h; exact ⟨rfl, fun c => by simp [mergeH], fun c hc => ⟨hc, fun hh => by cases hh⟩⟩
  | cons b l ih =>
    intro h
    simp only [mergeH]
    cases hb : u.testBit b with
    | false =>
      simp only [cond_false]
      obtain ⟨h1, h2, h3⟩ := ih h
      refine ⟨h1, fun c => ?_, fun c hc => ?_⟩
      · rw [h2 c]
        by_cases hcb : c = b
        · subst hcb; simp [hb]
        · simp [hcb]
      · obtain ⟨k1, k2⟩ := h3 c hc
        refine ⟨k1, fun hm hu => ?_⟩
        cases hm with
        | head => rw [hb] at hu; cases hu
        | tail _ hm => exact k2 hm hu
    | true =>
      simp only [cond_true]
      cases hg : r.get b with
      | none =>
        simp only
        obtain ⟨h1, h2, h3⟩ := ih h
        refine ⟨h1, fun c => ?_, fun c hc => ?_⟩
        · rw [h2 c]
          by_cases hcb : c = b
          · subst hcb; simp [hg]
          · simp [hcb]
        · obtain ⟨k1, k2⟩ := h3 c hc
          refine ⟨k1, fun hm hu => ?_⟩
          cases hm with
          | head => exact hg
          | tail _ hm => exact k2 hm hu
      | some o =>
        simp only
        obtain ⟨h1, h2, h3⟩ := ih (h.put b o)
        refine ⟨by rw [h1, AH.nx_put], fun c => ?_, fun c hc => ?_⟩
        · rw [h2 c, AH.get_put]
          by_cases hcb : c = b
          · subst hcb; simp [hb, hg]
          · simp [hcb]
        · obtain ⟨k1, k2⟩ := h3 c hc
          rw [AH.wm_put, Bool.or_eq_false_iff] at k1
          refine ⟨k1.1, fun hm hu => ?_⟩
          cases hm with
          | head => simp at k1
          | tail _ hm => exact k2 hm hu
section
variable {P : Program} [Orc P] [OrcOk P] {σ σ1 : Sg} {h0 : AH} {w w1 : World}
theorem drop_ok (hr : HR P σ h0 w) {h1 : AH} (hx : Ext P σ h0 w σ1 h1 w1) (h2 : AH) (hnx : h2.nx = h0.nx)
    (hsame : ∀ b e, σ b = some e → (h2.get b = h1.get b ∧ (h1.get b = h0.get b)) ∨ (∃ x y, h2.get b = some x ∧ h1.get b = some y ∧ x ≠ .dead ∧ y ≠ .dead ∧ ∀ o, okObj P σ1 e y o → okObj P σ e x o))
    (hdead : ∀ b, b < h0.nx → h0.get b = some .dead → h2.get b = some .dead)
    (hwr : ∀ b, b < h0.nx → h2.wm.testBit b = false → h0.wm.testBit b = false ∧ h2.get b = h0.get b) : Ext P σ h0 w σ h2 w1 := by
  refine ⟨hx.old, .refl _, fun _ _ h => .inl h, ⟨?_, ?_, fun g o hg => ⟨(hx.hr.lay g o hg).1, (hr.lay g o hg).2⟩⟩, hx.size, hx.frame, by omega, hdead, hwr, hx.same⟩
  · intro b e hb
    obtain ⟨k1, a, k2, k3⟩ := hx.hr.live b e (hx.sub b e hb)
    refine ⟨by rw [hnx]; exact hx.old b e hb, ?_⟩
    rcases hsame b e hb with ⟨s1, s2⟩ | ⟨x, y, s1, s2, s3, s4, s5⟩
    · refine ⟨a, by rw [s1]; exact k2, ?_⟩
      rcases k3 with k3 | ⟨o, k3, k4⟩
      · exact .inl k3
      · obtain ⟨_, a0, q1, q2⟩ := hr.live b e hb
        rw [← s2, k2] at q1; cases q1
        rcases q2 with q2 | ⟨u, _, q2⟩
        · exact .inl q2
        · exact .inr ⟨o, k3, q2.cut hx.sub k4⟩
    · rw [s2] at k2; cases k2
      refine ⟨x, s1, ?_⟩
      rcases k3 with k3 | ⟨o, k3, k4⟩
      · exact absurd k3 s4
      · exact .inr ⟨o, k3, s5 o k4⟩
  · intro b c e f hb hc hef hd hd'
    have live : ∀ b e, σ b = some e → h2.get b ≠ some .dead → h1.get b ≠ some .dead := by
      intro b e hb hd
      rcases hsame b e hb with ⟨s1, _⟩ | ⟨x, y, s1, s2, s3, s4, _⟩
      · rw [← s1]; exact hd
      · rw [s2]; intro hh; cases hh; exact s4 rfl
    exact hx.hr.inj b c e f (hx.sub b e hb) (hx.sub c f hc) hef (live b e hb hd) (live c f hc hd')
theorem join_ok (hr : HR P σ h0 w) {l : List OutS} {r o : OutS} (hj : join h0 l = some r) (ho : o ∈ l) (hx : Ext P σ h0 w σ1 o.h w1) {out' : Out} (hout : OutR σ1 o.out out') :
    ∃ σ2, Ext P σ h0 w σ2 r.h w1 ∧ OutR σ2 r.out out' := by
  unfold join at hj
  split at hj
  · cases hj
  · rename_i r0
    have : o = r0 := by simpa using ho
    subst this
    cases hc : (clean h0.nx o.h && outFlat o.out) with
    | false => rw [hc] at hj; cases hj; exact ⟨σ1, hx, hout⟩
    | true =>
      rw [hc] at hj; cases hj
      rw [Bool.and_eq_true] at hc
      refine ⟨σ, drop_ok hr hx h0 rfl (fun b e hb => .inl ?_) (fun _ _ h => h) (fun _ _ h => ⟨h, rfl⟩), outFlat_ok hc.2 hout⟩
      have := (hx.wr b (hx.old b e hb) (clean_bits hc.1 b (hx.old b e hb))).2
      exact ⟨this.symm, this⟩
  · rename_i r0 rs _
    replace hj := cond_some hj; obtain ⟨hc, hj⟩ := hj
    cases hj
    rw [Bool.and_eq_true] at hc
    have hoc := List.all_eq_true.1 hc.2 o ho
    rw [Bool.and_eq_true] at hoc
    have hoe := outEq_eq hoc.1
    obtain ⟨m1, m2, m3⟩ := mergeH_spec (maskOf (r0 :: rs)) r0.h (List.range h0.nx) h0
    have hbit : ∀ b, b < h0.nx → (maskOf (r0 :: rs)).testBit b = true → objFlat (r0.h.get b) = true ∧ objEq (r0.h.get b) (o.h.get b) = true := by
      intro b hb hu
      have := List.all_eq_true.1 hoc.2 b (List.mem_range.2 hb)
      rw [hu] at this
      simpa using this
    have hnb : ∀ b, b < h0.nx → (maskOf (r0 :: rs)).testBit b = false → o.h.get b = h0.get b := by
      intro b hb hu
      exact (hx.wr b hb ((mask_bit _ _ _ hu).2 o ho)).2
    refine ⟨σ, drop_ok hr hx _ m1 (fun b e hb => ?_) (fun b hb hd => ?_) (fun b hb hw => ?_), outFlat_ok hc.1 (by rw [hoe]; exact hout)⟩
    · have hbn := hx.old b e hb
      cases hu : (maskOf (r0 :: rs)).testBit b with
      | false =>
        refine .inl ⟨?_, hnb b hbn hu⟩
        rw [m2 b, if_neg (by rw [hu]; simp), hnb b hbn hu]
      | true =>
        obtain ⟨k1, k2⟩ := hbit b hbn hu
        obtain ⟨x, y, a1, a2, a3, a4, a5⟩ := objEq_ok (P := P) (σ := σ) (τ := σ1) (e := e) k1 k2
        refine .inr ⟨x, y, ?_, a2, a3, a4, a5⟩
        rw [m2 b, if_pos ⟨List.mem_range.2 hbn, hu, by rw [a1]; rfl⟩, a1]
    · cases hu : (maskOf (r0 :: rs)).testBit b with
      | false => rw [m2 b, if_neg (by rw [hu]; simp)]; exact hd
      | true =>
        obtain ⟨k1, k2⟩ := hbit b hb hu
        obtain ⟨x, y, a1, a2, a3, a4, a5⟩ := objEq_ok (P := P) (σ := σ) (τ := σ1) (e := ⟨0, 0, 0⟩) k1 k2
        have := hx.dead b hb hd
        rw [a2] at this; cases this; exact absurd rfl a4
    · obtain ⟨k1, k2⟩ := m3 b hw
      refine ⟨k1, ?_⟩
      cases hu : (maskOf (r0 :: rs)).testBit b with
      | false => rw [m2 b, if_neg (by rw [hu]; simp)]
      | true => rw [m2 b, if_neg (by rw [k2 (List.mem_range.2 hb) hu]; simp)]
end
end Go.Proofs.Ytaloembfekdkoaa.Ev
namespace Go.Proofs.Ytaloembfekdkoaa.Ev
set_option linter.unusedVariables false
set_option linter.unusedSimpArgs false
set_option linter.unusedSectionVars false
set_option linter.unusedSectionVars false
variable [Val]
theorem layH_get : ∀ (l : List Value) (i : Nat) (t : T Value) (m : Nat) (v : Value), (layH l i t).get m = some v → (t.get m = some v) ∨ (i ≤ m ∧ l[m - i]? = some v ∧ v ≠ hole) := by
  intro l
  induction l with
  | nil => intro i t m v h; exact .inl h
  | cons x l ih =>
    intro i t m v h
    have h' : (match x with
      | .chan (some 0) => layH l (i + 1) t
      | _ => layH l (i + 1) (t.set i x)).get m = some v := h
    split at h'
    · rcases ih _ _ _ _ h' with h1 | ⟨h1, h2, h3⟩
      · exact .inl h1
      · exact .inr ⟨by omega, by rw [show m - i = (m - (i + 1)) + 1 by omega]; simpa using h2, h3⟩
    · rename_i hx
      rcases ih _ _ _ _ h' with h1 | ⟨h1, h2, h3⟩
      · rw [T.get_set] at h1
        by_cases hmi : m = i
        · rw [if_pos hmi] at h1; cases h1
          refine .inr ⟨by omega, by rw [hmi, Nat.sub_self]; rfl, fun hh => hx ?_⟩
          exact hh
        · rw [if_neg hmi] at h1; exact .inl h1
      · exact .inr ⟨by omega, by rw [show m - i = (m - (i + 1)) + 1 by omega]; simpa using h2, h3⟩
theorem HL.get {σ : Sg} : ∀ {l l' : List Value}, HL σ l l' → ∀ (i : Nat) (v : Value), l[i]? = some v → v ≠ Ev.hole → ∃ v', l'[i]? = some v' ∧ VR σ v v'
  | _, _, .nil, i, v, h, _ => by simp at h
  | _, _, .hole u t, 0, v, hv, hn => by simp at hv; exact absurd hv.symm hn
  | _, _, .hole u t, i + 1, v, hv, hn => by simpa using HL.get t i v (by simpa using hv) hn
  | _, _, .cons h t, 0, v, hv, _ => by simp at hv; subst hv; exact ⟨_, rfl, h⟩
  | _, _, .cons h t, i + 1, v, hv, hn => by simpa using HL.get t i v (by simpa using hv) hn
theorem HL.length {σ : Sg} : ∀ {l l' : List Value}, HL σ l l' → l'.length = l.length
  | _, _, .nil => rfl
  | _, _, .hole _ t => by simp [HL.length t]
  | _, _, .cons _ t => by simp [HL.length t]
theorem enterF_ok {P : Program} [Orc P] [OrcOk P] {σ : Sg} {f : FuncId} {args : List Value} {kind : CallKind} {cf : AF} (h : enterF P f args kind = some cf) {args' : Array Value} (ha : RL σ args args'.toList) :
    FR σ [] cf (Frame.enter P f args' kind) ∧ cf.kind = kind ∧ (∃ fn, P.funcs[cf.fn]? = some fn) ∧ (Frame.enter P f args' kind).fn = f ∧ cf.rnd = none ∧ cf.mode = .run := by
  unfold enterF at h
  split at h
  · rename_i fn hf
    split at h
    · rename_i c hb
      rw [forceN_eq] at h
      cases h
      have hsz : args'.size = args.length := by rw [← Array.length_toList, ha.length]
      refine ⟨⟨rfl, ⟨?_, ?_⟩, fun _ => ⟨[.code c], by simp [Frame.enter, hf, hb], .same _ rfl .nil⟩, fun _ => rfl, .nil, .run, rfl, .none, fun _ => rfl⟩, rfl, ⟨fn, hf⟩, rfl, rfl, rfl⟩
      · simp only [Frame.enter, hf, Option.map_some, Option.getD_some, Array.size_append, Array.size_replicate, hsz]
        rfl
      · intro t v _ hv
        rw [T.get_lay] at hv
        by_cases ht : 0 ≤ t ∧ t < 0 + args.length
        · rw [if_pos ht] at hv
          obtain ⟨v', h1, h2⟩ := ha.get t v (by simpa using hv)
          refine ⟨v', ?_, h2⟩
          have h1' : args'[t]? = some v' := by simpa using h1
          have hlt : t < args'.size := by
            have h2 := (List.getElem?_eq_some_iff.1 h1).1
            simpa using h2
          simp only [Frame.enter]
          rw [Array.getElem?_append_left hlt]
          exact h1'
        · rw [if_neg ht] at hv; cases hv
    · cases h
  · cases h
theorem roundF_ok {P : Program} [Orc P] [OrcOk P] {σ : Sg} {l : Nat} {e : Ent} (hl : σ l = some e) {f : FuncId} {tmps : List Value} {tm : Array Value} {assign body : Code} (ht : HL σ tmps tm.toList) :
    FR σ [] (roundF l f tmps assign body .normal) (Frame.round e.blk f tm assign body .normal) := by
  unfold roundF
  rw [forceN_eq]
  refine ⟨rfl, ⟨?_, ?_⟩, fun _ => ⟨[.code assign, .beginRound, .code body], rfl, .same _ rfl (.same _ rfl (.same _ rfl .nil))⟩, fun _ => rfl, .nil, .run, rfl, .some hl, fun _ => rfl⟩
  · show tm.size = tmps.length
    rw [← Array.length_toList, ht.length]
  · intro t v _ hv
    rcases layH_get _ _ _ _ _ hv with h1 | ⟨_, h2, h3⟩
    · cases h1
    · obtain ⟨v', h4, h5⟩ := ht.get t v (by simpa using h2) h3
      exact ⟨v', by show tm[t]? = some v'; simpa using h4, h5⟩
theorem Ext.wm {P : Program} [Orc P] [OrcOk P] {σ σ1 : Sg} {w w1 : World} {m m1 : T AObj} {nx nx1 wm wm1 : Nat} (x : Ext P σ ⟨m, nx, 0⟩ w σ1 ⟨m1, nx1, wm1⟩ w1) : Ext P σ ⟨m, nx, wm⟩ w σ1 ⟨m1, nx1, Nat.lor wm wm1⟩ w1 :=
  ⟨x.old, x.sub, x.new, ⟨x.hr.live, x.hr.inj, x.hr.lay⟩, x.size, x.frame, x.nx, x.dead, fun b hb h => by
    have h' : (wm ||| wm1).testBit b = false := h
    rw [Nat.testBit_or, Bool.or_eq_false_iff] at h'
    exact ⟨h'.1, (x.wr b hb h'.2).2⟩, x.same⟩
section
variable {P : Program} [Orc P] [OrcOk P] {run : Run} (hrun : RunS P run)
include hrun
theorem evCall_ok {cf : AF} {h : AH} {r : OutS} (hc : evCall run cf .run h = some r) {σ : Sg} {w : World} {cf' : Frame} (hf : FR σ [] cf cf') (hk : cf.kind = .normal) (hfn : ∃ fn, P.funcs[cf.fn]? = some fn) (hr : HR P σ h w) (c : Frame) (cs : List Frame) :
    ∃ σ1 w1 out', Steps P (lone cf' (c :: cs) w) (lone (popN c out') cs w1) ∧ Ext P σ h w σ1 r.h w1 ∧ OutR σ1 r.out out' := by
  obtain ⟨m, nx, wm⟩ := h
  unfold evCall at hc
  simp only at hc
  split at hc
  · rename_i l hl
    split at hc
    · rename_i o u m1 nx1 wm1 hj
      rw [forceN_eq] at hc
      cases hc
      have hr0 : HR P σ ⟨m, nx, 0⟩ w := ⟨hr.live, hr.inj, hr.lay⟩
      obtain ⟨o', ho', σ1, w1, wa, fr1, m2, out', e1, e2, e3, e4, e5, e6, e7⟩ := hrun cf .run ⟨m, nx, 0⟩ l hl (.inl hk) hfn σ w [] cf' .run hf hr0 .run c (c :: cs)
      rw [hk] at e4 e5
      obtain ⟨σ2, q1, q2⟩ := join_ok hr0 hj ho' e1 e3
      refine ⟨σ2, w1, out', e4.trans (.one (e5.pop_normal c cs)), q1.wm, q2⟩
    · cases hc
  · cases hc
def putT (tmps : Array Value) (d : Option Tmp) (v : Value) : Array Value :=
  match d with
  | some d => tmps.setIfInBounds d v
  | none => tmps
omit hrun in
theorem finish_eq {fr : Frame} {ops : Array Oper} {i : Nat} {rest : List Nat} {k : List Item} {o : Oper} (ht : fr.todo = .inRegion ops (i :: rest) :: k) (ho : ops[i]? = some o) (v : Value) :
    fr.finish v = { fr with tmps := putT fr.tmps o.dst v, todo := .inRegion ops rest :: k } := by
  unfold Frame.finish putT
  rw [ht]
  simp only [ho, Option.bind_some]
  cases o.dst <;> rfl
def OpRes (P : Program) (σ : Sg) (h : AH) (w : World) (kind : CallKind) (fr : Frame) (m : FrameMode) (c : Frame) (cs : List Frame) (o : Oper) (ops : Array Oper) (rest : List Nat) (k : List Item) (r : OR) : Prop :=
  match r with
  | .val v ds1 up1 h1 => ∃ σ1 v' w1 m1 ds', Steps P (lone fr (mkCs kind c cs m) w) (lone { fr with tmps := putT fr.tmps o.dst v', todo := .inRegion ops rest :: k, defers := ds' } (mkCs kind c cs m1) w1) ∧
      VR σ1 v v' ∧ Ext P σ h w σ1 h1 w1 ∧ MR σ1 up1 m1 ∧ DRL σ1 ds1 ds'
  | .pan ch h1 => ∃ σ1 ch' w1, Steps P (lone fr (mkCs kind c cs m) w) (lone { fr with mode := .panicking ch' } (mkCs kind c cs m) w1) ∧ PEL σ1 ch ch' ∧ Ext P σ h w σ1 h1 w1
theorem evOp_ok {kind : CallKind} {ρ : Ev} {ds : List Deferred} {up : FrameMode} {h : AH} {o : Oper} {rs : List OR} {rd : Bool} (hev : evOp P run kind .run rd ρ ds up h (nextOf o.op) (aopC P o.type o.op) = some rs)
    {σ : Sg} {w : World} {fr : Frame} {ops : Array Oper} {i : Nat} {rest : List Nat} {k : List Item} (hm : fr.mode = .run) (ht : fr.todo = .inRegion ops (i :: rest) :: k) (ho : ops[i]? = some o)
    (hw : Region.wanted o (yielded ops fr.tmps) = true) (hrd : rd = false → fr.roundOf = none) (hk : fr.kind = kind) (hkk : kind = .normal ∨ kind = .deferred) (hρ : ∀ x v, ρ x = some v → VR σ v (fr.eval x)) (hr : HR P σ h w) (hds : DRL σ ds fr.defers)
    {m : FrameMode} (hup : MR σ up m) (c : Frame) (cs : List Frame) : ∃ r ∈ rs, OpRes P σ h w kind fr m c cs o ops rest k r := by
  have hnd : fr.roundOf = none ∨ ∀ c, o.op ≠ .defer c := by
    cases hrb : rd with
    | false => exact .inl (hrd hrb)
    | true =>
      refine .inr fun c hh => ?_
      subst hrb
      unfold evOp at hev
      rw [hh] at hev
      unfold aopC at hev
      rw [OrcOk.opD] at hev
      simp only [nextOf, aopS, opDefer] at hev
      split at hev <;> simp [after] at hev
  have hstep := st_op (P := P) (cs := mkCs kind c cs m) (w := w) hm ht ho hw hnd
  have hkd : (match fr.todo with | .call _ true _ _ :: _ => CallKind.wrapped | _ => .normal) = .normal := by rw [ht]
  have hfin := finish_eq ht ho
  unfold evOp at hev
  split at hev
  · -- the next entry
    rename_i it hit
    have hop : o.op = .next it false := by
      unfold nextOf at hit
      split at hit
      · rename_i x hx; cases hit; exact hx
      · cases hit
    unfold nextR at hev
    split at hev
    · cases hev
    · rename_i iv hiv
      split at hev
      · rename_i l hl
        cases hev
        obtain ⟨p, hp, v', w1, h1, h2, h3⟩ := evNext_ok hr (hρ _ _ hiv) o.type hl
        refine ⟨_, List.mem_map.2 ⟨p, hp, rfl⟩, σ, v', w1, m, fr.defers, .one (step_lone_go ?_), h2, h3, hup, hds⟩
        have hx : (execOp fr.eval o).run P w = .ok (.value v') w1 := by simp [execOp, hop, h1]
        rw [hstep]
        simp only [stepG.apply, Sem.runT_eq, hx, GStep.bare_after, if_true, hfin]
        rfl
      · cases hev
  · have hao := fun r (hh : (aopC P o.type o.op).f h ρ = some r) => aop_ok hr (fun g => rfl) hρ hh
    generalize hre : (aopC P o.type o.op) = fo at hev hao
    obtain ⟨f⟩ := fo
    simp only at hev hao
    unfold after at hev
    split at hev
    · cases hev
    · rename_i r hf
      have har := hao r hf
      split at hev
      · -- a value
        rename_i v h1
        cases hev
        obtain ⟨σ1, v', w1, h2, h3, h4⟩ := har
        refine ⟨_, List.mem_singleton.2 rfl, σ1, v', w1, m, fr.defers, .one (step_lone_go ?_), h3, h4, hup.mono h4.sub, hds.mono h4.sub⟩
        rw [hstep]
        rcases h2 with h2 | ⟨h2, rfl⟩
        · simp only [stepG.apply, Sem.runT_eq, h2, GStep.bare_after, if_true, hfin]; rfl
        · simp only [stepG.apply, Sem.runT_eq, h2, GStep.bare_after, if_true, hfin]; rfl
      · -- a call
        rename_i g args h1
        obtain ⟨rfl, args', h2, h3⟩ := har
        unfold callR at hev
        split at hev
        · cases hev
        · rename_i cf hcf
          obtain ⟨q1, q2, q3, _⟩ := enterF_ok hcf h3
          have henter : step P (lone fr (mkCs kind c cs m) w) = .next (lone (Frame.enter P g args' .normal) (fr :: mkCs kind c cs m) w) := by
            refine step_lone_go ?_
            rw [hstep]
            simp only [stepG.apply, Sem.runT_eq, h2, GStep.bare_after, if_true, ht]
            rfl
          unfold outOf at hev
          split at hev
          · rename_i v u h2 hc
            cases hev
            obtain ⟨σ1, w1, out', e1, e2, e3⟩ := evCall_ok hrun hc q1 q2 q3 hr fr (mkCs kind c cs m)
            cases e3 with
            | ret hv =>
              refine ⟨_, List.mem_singleton.2 rfl, σ1, _, w1, m, fr.defers, .head henter ?_, hv, e2, hup.mono e2.sub, hds.mono e2.sub⟩
              rename_i vv
              rw [show popN fr (.ret vv) = fr.finish vv from rfl, hfin] at e1
              exact e1
          · rename_i ch u h2 hc
            cases hev
            obtain ⟨σ1, w1, out', e1, e2, e3⟩ := evCall_ok hrun hc q1 q2 q3 hr fr (mkCs kind c cs m)
            cases e3 with
            | pan hv =>
              refine ⟨_, List.mem_singleton.2 rfl, σ1, _, w1, .head henter ?_, hv, e2⟩
              rename_i cc
              rw [show popN fr (.pan cc) = { fr with mode := .panicking cc } by show fr.raise cc = _; unfold Frame.raise; rw [hm]] at e1
              exact e1
          · cases hev
      · -- a call whose answer is known
        rename_i g args v h1
        cases hev
        obtain ⟨rfl, hcall, args', h2, h3⟩ := har
        have henter : step P (lone fr (mkCs kind c cs m) w) = .next (lone (Frame.enter P g args' .normal) (fr :: mkCs kind c cs m) w) := by
          refine step_lone_go ?_
          rw [hstep]
          simp only [stepG.apply, Sem.runT_eq, h2, GStep.bare_after, if_true, ht]
          rfl
        obtain ⟨e, w1, fr1, ⟨v', rfl, hv, bel⟩, hcomes, _, hleave⟩ := OrcOk.call hcall hr h3 (fr :: mkCs kind c cs m)
        have hpop := step_leave_returned (c := fr) (cs := mkCs kind c cs m) hleave
        rw [hfin] at hpop
        exact ⟨_, List.mem_singleton.2 rfl, σ, v', w1, m, fr.defers, .head henter (Steps.trans hcomes (.one hpop)), hv, Ext.below hr bel, hup, hds⟩
      · -- a round
        rename_i l g tmps assign body h1
        obtain ⟨rfl, e, tm, hl, h2, h3⟩ := har
        split at hev
        · rename_i fn hfn
          have q1 := roundF_ok (P := P) (assign := assign) (body := body) (f := g) hl h3
          have q2 : (roundF l g tmps assign body .normal).kind = .normal := by unfold roundF; rw [forceN_eq]
          have q3 : ∃ fn, P.funcs[(roundF l g tmps assign body .normal).fn]? = some fn := ⟨fn, by unfold roundF; rw [forceN_eq]; exact hfn⟩
          have henter : step P (lone fr (mkCs kind c cs m) w) = .next (lone (Frame.round e.blk g tm assign body .normal) (fr :: mkCs kind c cs m) w) := by
            refine step_lone_go ?_
            rw [hstep]
            simp only [stepG.apply, Sem.runT_eq, h2, GStep.bare_after, if_true]
            rfl
          unfold outOf at hev
          split at hev
          · rename_i v u h2 hc
            cases hev
            obtain ⟨σ1, w1, out', e1, e2, e3⟩ := evCall_ok hrun hc q1 q2 q3 hr fr (mkCs kind c cs m)
            cases e3 with
            | ret hv =>
              refine ⟨_, List.mem_singleton.2 rfl, σ1, _, w1, m, fr.defers, .head henter ?_, hv, e2, hup.mono e2.sub, hds.mono e2.sub⟩
              rename_i vv
              rw [show popN fr (.ret vv) = fr.finish vv from rfl, hfin] at e1
              exact e1
          · rename_i ch u h2 hc
            cases hev
            obtain ⟨σ1, w1, out', e1, e2, e3⟩ := evCall_ok hrun hc q1 q2 q3 hr fr (mkCs kind c cs m)
            cases e3 with
            | pan hv =>
              refine ⟨_, List.mem_singleton.2 rfl, σ1, _, w1, .head henter ?_, hv, e2⟩
              rename_i cc
              rw [show popN fr (.pan cc) = { fr with mode := .panicking cc } by show fr.raise cc = _; unfold Frame.raise; rw [hm]] at e1
              exact e1
          · cases hev
        · cases hev
      · rename_i d h1
        obtain ⟨rfl, d', h2, h3⟩ := har
        cases hrb : rd with
        | true => rw [hrb] at hev; cases hev
        | false =>
        rw [hrb] at hev
        cases hev
        refine ⟨_, List.mem_singleton.2 rfl, σ, undef, w, m, d' :: fr.defers, .one (step_lone_go ?_), .tuple .nil, .refl hr, hup, .cons h3 hds⟩
        rw [hstep]
        have hfd := finish_eq (fr := { fr with defers := d' :: fr.defers }) ht ho undef
        simp only [stepG.apply, Sem.runT_eq, h2, GStep.bare_after, if_true, hfd]
        rfl
      · -- recover
        rename_i h1
        obtain ⟨rfl, h2⟩ := har
        cases hrb : rd with
        | true => rw [hrb] at hev; cases hev
        | false =>
        rw [hrb] at hev
        have hro := hrd hrb
        have key : ∀ v u, recovD kind up = (v, u) → ∃ v' m1, VR σ v v' ∧ MR σ u m1 ∧ (match tryRecover fr (mkCs kind c cs m) with
            | some (x, callers) => (x, callers)
            | none => (.nilIface, mkCs kind c cs m)) = (v', mkCs kind c cs m1) := by
          intro v u hvu
          unfold recovD at hvu
          split at hvu
          · rename_i pv older
            cases hvu
            cases hup with
            | panicking hp => cases hp with
              | cons _ _ hv t =>
                refine ⟨_, .panicking (⟨_, true, false⟩ :: _), hv, .panicking (.cons _ _ hv t), ?_⟩
                simp [tryRecover, hk, mkCs]
          · rename_i hne
            cases hvu
            refine ⟨.nilIface, m, .nilIface, hup, ?_⟩
            have : tryRecover fr (mkCs kind c cs m) = none := by
              unfold tryRecover
              rw [hk]
              rcases hkk with rfl | rfl
              · rfl
              · simp only [mkCs]
                cases hup with
                | run => rfl
                | returning => rfl
                | panicking hp => cases hp with
                  | nil => rfl
                  | cons r g hv t =>
                    cases r <;> cases g <;> first | rfl | exact (hne _ _ rfl rfl).elim
            rw [this]
        simp only [cond_false] at hev
        obtain ⟨v', m1, k1, k2, k3⟩ := key _ _ rfl
        cases hev
        refine ⟨_, List.mem_singleton.2 rfl, σ, v', w, m1, fr.defers, .one (step_lone_go ?_), k1, .refl hr, k2, hds⟩
        rw [hstep]
        simp only [stepG.apply, Sem.runT_eq, h2, GStep.bare_after, if_true, hro]
        cases htr : tryRecover fr (mkCs kind c cs m) with
        | none =>
          rw [htr] at k3
          simp only [Prod.mk.injEq] at k3
          simp only [hfin, k3.1, ← k3.2, hro]; rfl
        | some p =>
          rw [htr] at k3
          obtain ⟨x, cl⟩ := p
          simp only [Prod.mk.injEq] at k3
          simp only [hfin, k3.1, ← k3.2, hro]; rfl
      · -- panic
        rename_i v h1
        cases hev
        obtain ⟨rfl, v', h2, h3⟩ := har
        refine ⟨_, List.mem_singleton.2 rfl, σ, [{ v := v', recovered := false }], w, .one (step_lone_go ?_), .cons _ _ h3 .nil, .refl hr⟩
        rw [hstep]
        simp only [stepG.apply, Sem.runT_eq, h2, GStep.bare_after, if_true, Frame.raise, hm]
        rfl
end
end Go.Proofs.Ytaloembfekdkoaa.Ev
namespace Go.Proofs.Ytaloembfekdkoaa.Ev
set_option linter.unusedVariables false
set_option linter.unusedSimpArgs false
set_option linter.unusedSectionVars false
set_option linter.unusedSectionVars false
variable [Val]
theorem ER.eval {σ : Sg} {env : T Value} {n : Nat} {fr : Frame} (h : ER σ env n [] fr.tmps) {x : Operand} {v : Value} (hv : evalE env x = some v) : VR σ v (fr.eval x) := by
  cases x with
  | tmp t =>
    obtain ⟨v', h1, h2⟩ := h.2 t v (by simp) hv
    have : fr.eval (.tmp t) = v' := by simp [Frame.eval, h1]
    rw [this]; exact h2
  | const u =>
    obtain ⟨h1, h2⟩ := cond_some (show cond (flat 6 u) (some u) none = some v from hv)
    cases h2
    exact flat_refl σ 6 h1
  | global g => cases hv
  | func f => cases hv; exact .func (.same (by intro l hh; cases hh)) .nil .nil
theorem ER.put {σ : Sg} {env : T Value} {n : Nat} {tm : Array Value} (h : ER σ env n [] tm) {d : Option Tmp} (hd : fitsD n d = true) {v v' : Value} (hv : VR σ v v') : ER σ (setE env d v) n [] (putT tm d v') := by
  cases d with
  | none => exact h
  | some d =>
    have hlt : d < n := blt_true hd
    refine ⟨by simp [putT, h.1], fun t u _ hu => ?_⟩
    simp only [setE, T.get_set] at hu
    simp only [putT]
    by_cases ht : t = d
    · subst ht
      rw [if_pos rfl] at hu; cases hu
      exact ⟨v', by simp [h.1, hlt], hv⟩
    · rw [if_neg ht] at hu
      obtain ⟨u', h1, h2⟩ := h.2 t u (by simp) hu
      exact ⟨u', by rw [Array.getElem?_setIfInBounds_ne (Ne.symm ht)]; exact h1, h2⟩
theorem wants_ok {σ : Sg} {env : T Value} {n : Nat} {tm : Array Value} (h : ER σ env n [] tm) {ops : Array Oper} {o : Oper} {b : Bool} (hw : wants env (gdOf ops.toList o.guard) = some b) : Region.wanted o (yielded ops tm) = b := by
  unfold gdOf at hw
  unfold Region.wanted
  cases hg : o.guard with
  | none => rw [hg] at hw; cases hw; rfl
  | some p =>
    obtain ⟨j, want⟩ := p
    rw [hg] at hw
    simp only at hw ⊢
    unfold yielded
    rw [Array.getElem?_toList] at hw
    cases hj : ops[j]? with
    | none => rw [hj] at hw; cases hw; rfl
    | some oj =>
      rw [hj] at hw
      simp only [Option.bind_some] at hw ⊢
      cases hd : oj.dst with
      | none => rw [hd] at hw; cases hw; rfl
      | some d =>
        rw [hd] at hw
        simp only [wants, Option.bind_some] at hw ⊢
        cases he : env.get d with
        | none => rw [he] at hw; cases hw
        | some v =>
          rw [he] at hw
          obtain ⟨v', h1, h2⟩ := h.2 d v (by simp) he
          rw [h1]
          cases h2 <;> simp only at hw ⊢ <;> cases hw <;> rfl
section
variable {P : Program} [Orc P] [OrcOk P] {run : Run} (hrun : RunS P run)
include hrun
def RORes (P : Program) (σ : Sg) (h : AH) (w : World) (kind : CallKind) (n : Nat) (fr : Frame) (m : FrameMode) (c : Frame) (cs : List Frame) (k : List Item) (r : RO) : Prop :=
  match r with
  | .done env ds up h1 => ∃ σ1 w1 m1 tm ds', Steps P (lone fr (mkCs kind c cs m) w) (lone { fr with tmps := tm, todo := k, defers := ds' } (mkCs kind c cs m1) w1) ∧ ER σ1 env n [] tm ∧ Ext P σ h w σ1 h1 w1 ∧ MR σ1 up m1 ∧ DRL σ1 ds ds'
  | .pan ch env ds unk up h1 => ∃ σ1 w1 m1 tm ds' ch' td, Steps P (lone fr (mkCs kind c cs m) w) (lone { fr with tmps := tm, todo := td, defers := ds', mode := .panicking ch' } (mkCs kind c cs m1) w1) ∧ ER σ1 env n unk tm ∧ PEL σ1 ch ch' ∧ Ext P σ h w σ1 h1 w1 ∧ MR σ1 up m1 ∧ DRL σ1 ds ds'
omit hrun in
theorem RORes.head {σ σ1 : Sg} {h h1 : AH} {w w1 : World} {kind : CallKind} {n : Nat} {fr : Frame} {tm : Array Value} {td : List Item} {ds' : List Deferred} {m m1 : FrameMode} {c : Frame} {cs : List Frame} {k : List Item} {r : RO}
    (hs : Steps P (lone fr (mkCs kind c cs m) w) (lone { fr with tmps := tm, todo := td, defers := ds' } (mkCs kind c cs m1) w1)) (hx : Ext P σ h w σ1 h1 w1)
    (hr : RORes P σ1 h1 w1 kind n { fr with tmps := tm, todo := td, defers := ds' } m1 c cs k r) : RORes P σ h w kind n fr m c cs k r := by
  cases r with
  | done env ds up h2 =>
    obtain ⟨σ2, w2, m2, tm2, ds2, a, b, d, e, f⟩ := hr
    exact ⟨σ2, w2, m2, tm2, ds2, hs.trans a, b, hx.trans d, e, f⟩
  | pan ch env ds unk up h2 =>
    obtain ⟨σ2, w2, m2, tm2, ds2, ch2, td2, a, b, p, d, e, f⟩ := hr
    exact ⟨σ2, w2, m2, tm2, ds2, ch2, td2, hs.trans a, b, p, hx.trans d, e, f⟩
omit hrun in
theorem bindL_mem {α β : Type} {f : α → Option (List β)} : ∀ {l : List α} {r : List β}, bindL f l = some r → ∀ a ∈ l, ∃ x, f a = some x ∧ ∀ b ∈ x, b ∈ r
  | [], r, h, a, ha => by cases ha
  | y :: l, r, h, a, ha => by
    simp only [bindL] at h
    split at h
    · rename_i x z hx hz
      cases h
      cases ha with
      | head => exact ⟨x, hx, fun b hb => List.mem_append.2 (.inl hb)⟩
      | tail _ ha =>
        obtain ⟨u, h1, h2⟩ := bindL_mem hz a ha
        exact ⟨u, h1, fun b hb => List.mem_append.2 (.inr (h2 b hb))⟩
    · cases h
omit hrun in
theorem blind_val {o : Oper} (hb : blind P o.op = true) (h : AH) (ρ : Ev) : (aopC P o.type o.op).f h ρ = bare (valOf ((aopC P o.type o.op).f ⟨.nil, 0, 0⟩ ρ)) h := by
  obtain ⟨u, hu⟩ := blind_bare (ty := o.type) hb ρ
  simp only at hu
  rw [hu, hu]
  cases u <;> rfl
omit hrun in
theorem blind_next {op : Op} (hb : blind P op = true) : nextOf op = none := by
  unfold blind at hb
  cases hor : Orc.op P op with
  | some f => rw [hor] at hb; cases hb
  | none =>
    rw [hor] at hb
    cases op <;> first | rfl | (cases hb; done)
def PFok (P : Program) [Orc P] (o : Oper) : PF → Prop
  | .slow => True
  | .pure f => o.guard = none ∧ nextOf o.op = none ∧ ∀ h ρ, (aopC P o.type o.op).f h ρ = bare (f ρ) h
  | .read f => o.guard = none ∧ nextOf o.op = none ∧ ∀ h ρ, (aopC P o.type o.op).f h ρ = bare (f h ρ) h
  | .write f => o.guard = none ∧ nextOf o.op = none ∧ ∀ h ρ, (aopC P o.type o.op).f h ρ = (match f h ρ with | some h1 => some (.val undef h1) | none => none)
omit hrun in
theorem pf_ok (o : Oper) : PFok P o (pfOf P o) := by
  have gen : o.guard = none → PFok P o (cond (blind P o.op) (.pure fun ρ => valOf ((aopC P o.type o.op).f ⟨.nil, 0, 0⟩ ρ)) .slow) := by
    intro hg
    cases hb : blind P o.op with
    | false => exact trivial
    | true => exact ⟨hg, blind_next hb, fun h ρ => blind_val hb h ρ⟩
  unfold pfOf
  split
  · exact trivial
  · exact trivial
  · rename_i hg hno
    obtain ⟨dst, op, type, pos, after, guard⟩ := o
    simp only at hg gen hno ⊢
    have hS : ∀ h ρ, (aopC P type op).f h ρ = (aopS P type op).f h ρ := fun h ρ => by unfold aopC; rw [hno]
    cases op
    case move x => exact ⟨hg, rfl, fun h ρ => by refine (hS h ρ).trans ?_; show opMove h ρ x = bare (ρ x) h; unfold opMove bare; cases ρ x <;> rfl⟩
    case assign x => exact ⟨hg, rfl, fun h ρ => by refine (hS h ρ).trans ?_; show opMove h ρ x = bare (ρ x) h; unfold opMove bare; cases ρ x <;> rfl⟩
    case load t a =>
      refine ⟨hg, rfl, fun h ρ => ?_⟩
      refine (hS h ρ).trans ?_
      show opLoad P h ρ t a = _
      unfold opLoad loadF
      split
      · cases ld P h t _ <;> rfl
      · rfl
    case store t a x =>
      refine ⟨hg, rfl, fun h ρ => ?_⟩
      refine (hS h ρ).trans ?_
      show opStore P h ρ t a x = _
      unfold opStore storeF
      split
      · split
        · rfl
        · rfl
      · rfl
    all_goals exact gen hg
omit hrun in
theorem stepOp_eq (all : List Oper) (o : Oper) (kind : CallKind) (mode : FrameMode) (rd : Bool) (K : KOp) (env : T Value) (ds : List Deferred) (up : FrameMode) (h : AH) :
    stepOp P run kind mode rd (compO P all o) K env ds up h = slowOp P run kind mode rd o.dst (gdOf all o.guard) (nextOf o.op) (aopC P o.type o.op) K env ds up h := by
  have hp := pf_ok (P := P) o
  unfold stepOp compO
  simp only
  cases hpf : pfOf P o with
  | slow => rfl
  | pure f =>
    rw [hpf] at hp
    obtain ⟨hg, hn, hf⟩ := hp
    simp only
    unfold slowOp
    rw [hg, hn]
    simp only [gdOf, wants]
    unfold evOp
    simp only
    have hf' := hf h (evalE env)
    generalize aopC P o.type o.op = g at hf'
    obtain ⟨g⟩ := g
    simp only at hf' ⊢
    rw [hf']
    cases f (evalE env) <;> rfl
  | read f =>
    rw [hpf] at hp
    obtain ⟨hg, hn, hf⟩ := hp
    simp only
    unfold slowOp
    rw [hg, hn]
    simp only [gdOf, wants]
    unfold evOp
    simp only
    have hf' := hf h (evalE env)
    generalize aopC P o.type o.op = g at hf'
    obtain ⟨g⟩ := g
    simp only at hf' ⊢
    rw [hf']
    cases f h (evalE env) <;> rfl
  | write f =>
    rw [hpf] at hp
    obtain ⟨hg, hn, hf⟩ := hp
    simp only
    unfold slowOp
    rw [hg, hn]
    simp only [gdOf, wants]
    unfold evOp
    simp only
    have hf' := hf h (evalE env)
    generalize aopC P o.type o.op = g at hf'
    obtain ⟨g⟩ := g
    simp only at hf' ⊢
    rw [hf']
    cases f h (evalE env) <;> rfl
theorem evOps_ok {kind : CallKind} (hkk : kind = .normal ∨ kind = .deferred) {rd : Bool} {ops : Array Oper} {n : Nat} (hfit : (ops.toList.all fun o => fitsD n o.dst) = true) (k : List Item) (c : Frame) (cs : List Frame) :
    ∀ (j i : Nat), i + j = ops.size → ∀ {env : T Value} {ds : List Deferred} {up : FrameMode} {h : AH} {rs : List RO}, evOps P run kind .run rd ((ops.toList.drop i).map (compO P ops.toList)) env ds up h = some rs →
    ∀ {σ : Sg} {w : World} {fr : Frame} {m : FrameMode}, fr.mode = .run → fr.todo = .inRegion ops (List.range' i j) :: k → (rd = false → fr.roundOf = none) → fr.kind = kind → ER σ env n [] fr.tmps → HR P σ h w → DRL σ ds fr.defers → MR σ up m →
    ∃ r ∈ rs, RORes P σ h w kind n fr m c cs k r := by
  intro j
  induction j with
  | zero =>
    intro i hi env ds up h rs hev σ w fr m hm ht hrd hk he hr hds hup
    have : ops.toList.drop i = [] := List.drop_eq_nil_of_le (by simp; omega)
    rw [this] at hev
    cases hev
    refine ⟨_, List.mem_singleton.2 rfl, σ, w, m, fr.tmps, fr.defers, .one ?_, he, .refl hr, hup, hds⟩
    exact st_regE hm ht
  | succ j ih =>
    intro i hi env ds up h rs hev σ w fr m hm ht hrd hk he hr hds hup
    have hlt : i < ops.toList.length := by simp; omega
    have ho : ops[i]? = some (ops.toList[i]) := by simp [show i < ops.size by omega]
    rw [List.drop_eq_getElem_cons hlt] at hev
    simp only [List.map_cons] at hev
    generalize hoo : ops.toList[i] = o at hev ho
    have hf : fitsD n o.dst = true := List.all_eq_true.1 hfit o (by rw [← hoo]; exact List.getElem_mem hlt)
    have hev' : stepOp P run kind .run rd (compO P ops.toList o) (evOps P run kind .run rd ((ops.toList.drop (i + 1)).map (compO P ops.toList))) env ds up h = some rs := hev
    rw [List.range'_succ] at ht
    rw [stepOp_eq] at hev'
    unfold slowOp at hev'
    split at hev'
    · cases hev'
    · -- passed over
      rename_i hw
      have hw' := wants_ok he hw
      have hst := st_opSkip (P := P) (cs := mkCs kind c cs m) (w := w) hm ht ho hw'
      rw [finish_eq ht ho] at hst
      obtain ⟨r, hr1, hr2⟩ := ih (i + 1) (by omega) hev' (fr := { fr with tmps := putT fr.tmps o.dst undef, todo := .inRegion ops (List.range' (i + 1) j) :: k }) hm rfl hrd hk (he.put hf (.tuple .nil)) hr hds hup
      exact ⟨r, hr1, .head (.one hst) (.refl hr) hr2⟩
    · rename_i hw
      have hw' := wants_ok he hw
      cases hop : evOp P run kind .run rd (evalE env) ds up h (nextOf o.op) (aopC P o.type o.op) with
      | none => rw [hop] at hev'; cases hev'
      | some l =>
        rw [hop] at hev'
        obtain ⟨r, hr1, hr2⟩ := evOp_ok hrun hop hm ht ho hw' hrd hk hkk (fun x v hv => he.eval hv) hr hds hup c cs
        have hbind : ∃ x, onOp (evOps P run kind .run rd ((ops.toList.drop (i + 1)).map (compO P ops.toList))) o.dst env ds up r = some x ∧ ∀ b ∈ x, b ∈ rs := by
          unfold onOps at hev'
          simp only at hev'
          split at hev'
          · rename_i r0
            have : r = r0 := by simpa using hr1
            subst this
            exact ⟨rs, hev', fun _ hb => hb⟩
          · exact bindL_mem hev' r hr1
        obtain ⟨x, hx, hsub⟩ := hbind
        cases r with
        | val v ds1 up1 h1 =>
          obtain ⟨σ1, v', w1, m1, ds', a, b, d, e, f⟩ := hr2
          simp only [onOp] at hx
          obtain ⟨r, hr1, hr2⟩ := ih (i + 1) (by omega) hx (fr := { fr with tmps := putT fr.tmps o.dst v', todo := .inRegion ops (List.range' (i + 1) j) :: k, defers := ds' }) hm rfl hrd hk ((he.mono d.sub).put hf b) d.hr f e
          exact ⟨r, hsub r hr1, .head a d hr2⟩
        | pan ch h1 =>
          obtain ⟨σ1, ch', w1, a, b, d⟩ := hr2
          simp only [onOp] at hx
          cases hx
          exact ⟨_, hsub _ (List.mem_singleton.2 rfl), σ1, w1, m, fr.tmps, fr.defers, ch', fr.todo, a, he.mono d.sub, b, d, hup.mono d.sub, hds.mono d.sub⟩
end
end Go.Proofs.Ytaloembfekdkoaa.Ev
namespace Go.Proofs.Ytaloembfekdkoaa.Ev
set_option linter.unusedVariables false
set_option linter.unusedSimpArgs false
set_option linter.unusedSectionVars false
set_option linter.unusedSectionVars false
variable [Val]
def DrawnS (P : Program) [Orc P] [OrcOk P] : Prop :=
  ∀ run, RunS P run → ∀ (kind : CallKind), (kind = .normal ∨ kind = .deferred) → ∀ (ops : Array Oper) (n : Nat), (ops.toList.all fun o => fitsD n o.dst) = true → regOk ops.toList = true →
    ∀ {env : T Value} {ds : List Deferred} {up : FrameMode} {h : AH} {r : RO}, evDrawn P run kind .run (ops.toList.filterMap (·.dst)) (befores ops.toList []) (ops.toList.map (compO P ops.toList)) [] env ds up h = some r →
    ∀ {σ : Sg} {w : World} {fr : Frame} {m : FrameMode} (t : Nat) (k : List Item) (c : Frame) (cs : List Frame), fr.mode = .run → fr.todo = .inRegion ops (Region.linearise .any ops t) :: k → fr.kind = kind → ER σ env n [] fr.tmps → HR P σ h w → DRL σ ds fr.defers → MR σ up m →
    RORes P σ h w kind n fr m c cs k r
section
variable {P : Program} [Orc P] [OrcOk P] {run : Run} (hmix : P.follows .mixedOrders = true) (hdr : DrawnS P) (hrun : RunS P run)
variable {fn : FuncId} {env : T Value} {n : Nat} {todo : List Item} {ds : List Deferred} {mode : FrameMode} {kind : CallKind} {rnd : Option Nat} {more : Bool} {unk : List Tmp}
variable {up : FrameMode} {h : AH} {l : List OutS} {σ : Sg} {w : World} {k : List Item} {fr' : Frame} {m : FrameMode} (c : Frame) (cs : List Frame)
variable (hkk : kind = .normal ∨ kind = .deferred) (hfn : ∃ g, P.funcs[fn]? = some g) (hf : FR σ k ⟨fn, env, n, todo, ds, mode, kind, rnd, more, unk⟩ fr') (hr : HR P σ h w) (hup : MR σ up m)
include hrun hkk hfn hf hr hup in
theorem go_ok {todo2 t2 : List Item} {w1 : World} {h1 : AH} (hmr : mode = .run) (hl : run ⟨fn, env, n, todo2, ds, mode, kind, rnd, more, unk⟩ up h1 = some l) (hs : step P (lone fr' (mkCs kind c cs m) w) = .next (lone { fr' with todo := t2 ++ k } (mkCs kind c cs m) w1))
    (hi : IRL σ todo2 t2) (hx : Ext P σ h w σ h1 w1) : Res P σ h w kind fr' m c cs l := by
  have hf2 : FR σ k ⟨fn, env, n, todo2, ds, mode, kind, rnd, more, unk⟩ { fr' with todo := t2 ++ k } := ⟨hf.fn, hf.env, fun _ => ⟨t2, rfl, hi⟩, hf.more, hf.ds, hf.mode, hf.kind, hf.rnd, hf.unk⟩
  exact .head (.one hs) hx rfl rfl (hrun _ _ _ _ hl hkk hfn σ w1 k _ m hf2 hx.hr hup c cs)
include hrun hkk hfn hf hr hup in
theorem leave_ok {j : Option Code} (hmr : mode = .run) (hl : leaveF run ⟨fn, env, n, todo, ds, mode, kind, rnd, more, unk⟩ up h j = some l) (hj : jumpOf fr'.todo = some j) (hj2 : j = none → fr'.todo = []) (hj3 : j = some .ret → ∃ k0, fr'.todo = .code .ret :: k0) : Res P σ h w kind fr' m c cs l := by
  subst hmr
  have hm' : fr'.mode = .run := by have := hf.mode; cases hfm : fr'.mode <;> rw [hfm] at this <;> first | rfl | cases this
  unfold leaveF at hl
  simp only at hl
  split at hl
  · have hrd : fr'.roundOf = none := by have := hf.rnd; cases hq : fr'.roundOf with | none => rfl | some x => rw [hq] at this; cases this
    have hend : ∀ (_ : fr'.todo = [] ∨ ∃ k0, fr'.todo = .code .ret :: k0), run ⟨fn, env, n, todo, ds, .returning, kind, none, more, unk⟩ up h = some l → Res P σ h w kind fr' m c cs l := by
      intro ht hl
      have hs : step P (lone fr' (mkCs kind c cs m) w) = .next (lone { fr' with mode := .returning } (mkCs kind c cs m) w) := by
        rcases ht with ht | ⟨k0, ht⟩
        · exact st_ret (k := []) hm' (.inl ht) hrd
        · exact st_ret hm' (.inr ht) hrd
      have hf2 : FR σ k ⟨fn, env, n, todo, ds, .returning, kind, none, more, unk⟩ { fr' with mode := .returning } := ⟨hf.fn, hf.env, (fun hh => by cases hh), hf.more, hf.ds, .returning, hf.kind, hf.rnd, (fun hh => by cases hh)⟩
      exact .head (.one hs) (.refl hr) rfl rfl (hrun _ _ _ _ hl hkk hfn σ w k _ m hf2 hr hup c cs)
    split at hl
    · exact hend (.inl (hj2 rfl)) hl
    · exact hend (.inr (hj3 rfl)) hl
    · cases hl
  · rename_i lb
    have hrd : ∃ e, σ lb = some e ∧ fr'.roundOf = some e.blk := by
      have := hf.rnd
      cases hq : fr'.roundOf with
      | none => rw [hq] at this; cases this
      | some x => rw [hq] at this; cases this with | some h => exact ⟨_, h, rfl⟩
    obtain ⟨e, hb, hrd⟩ := hrd
    split at hl
    · rename_i r hg
      cases hl
      obtain ⟨f, tm, q1, q2, q3, q4⟩ := loop_ok hr hb hg
      have hset : ∀ o', (setObj e.blk o').run P w = .ok () { w with heap := w.heap.setIfInBounds e.blk o' } := fun o' => setObj_run q2 (fun _ _ _ hh => by cases hh)
      have hx := obj_put hr hb hg (y := .loop { r with state := cond j.isNone .ready .done, pending := j }) (.loop { r with tmps := tm, defers := f.blk, state := cond j.isNone .ready .done, pending := j }) ⟨f, tm, q1, rfl, q3⟩
      have he : (Instr.endRound e.blk j).run P w = .ok (.bool j.isNone) { w with heap := w.heap.setIfInBounds e.blk (.loop { r with tmps := tm, defers := f.blk, state := cond j.isNone .ready .done, pending := j }) } := by
        simp only [Instr.endRound, Instr.getLoop, Sem.run_bind, q4, Result.andThen, Sem.run_pure, hset]
        cases j <;> rfl
      refine ⟨_, List.mem_singleton.2 rfl, σ, _, w, fr', m, .ret (.bool j.isNone), hx, hup, .ret (.bool _), .refl _ _, .round rfl (fun c cs => st_round hm' hj hrd hf.kind he) (by rw [hrd]; intro hh; cases hh), rfl, rfl⟩
    · cases hl
include hrun hkk hfn hf hr hup in
theorem onRO_ok (hmr : mode = .run) {r : RO} {kk : List Item} {kt : List Item} (hkt : IRL σ kk kt) (hl : onRO run ⟨fn, env, n, todo, ds, mode, kind, rnd, more, unk⟩ kk r = some l) {fr2 : Frame} {w2 : World}
    (hfr2 : ∃ td, fr2 = { fr' with todo := td }) (hs : Steps P (lone fr' (mkCs kind c cs m) w) (lone fr2 (mkCs kind c cs m) w2)) (hx2 : Ext P σ h w σ h w2) (hro : RORes P σ h w2 kind n fr2 m c cs (kt ++ k) r) : Res P σ h w kind fr' m c cs l := by
  subst hmr
  obtain ⟨td, rfl⟩ := hfr2
  have hm' : fr'.mode = .run := by have := hf.mode; cases hfm : fr'.mode <;> rw [hfm] at this <;> first | rfl | cases this
  unfold onRO at hl
  simp only at hl
  split at hl
  · rename_i env1 ds1 up1 h1
    obtain ⟨σ1, w1, m1, tm, ds', a, b, d, e, f⟩ := hro
    have hf2 : FR σ1 k ⟨fn, env1, n, kk, ds1, .run, kind, rnd, more, []⟩ { fr' with tmps := tm, todo := kt ++ k, defers := ds' } :=
      ⟨hf.fn, b, fun _ => ⟨kt, rfl, hkt.mono d.sub⟩, hf.more, f, by show MR σ1 .run fr'.mode; rw [hm']; exact .run, hf.kind, hf.rnd.mono d.sub, fun _ => rfl⟩
    exact .head (hs.trans a) (hx2.trans d) rfl rfl (hrun _ _ _ _ hl hkk hfn σ1 w1 k _ m1 hf2 d.hr e c cs)
  · rename_i ch env1 ds1 unk1 up1 h1
    obtain ⟨σ1, w1, m1, tm, ds', ch', td', a, b, p, d, e, f⟩ := hro
    have hf2 : FR σ1 k ⟨fn, env1, n, kk, ds1, .panicking ch, kind, rnd, more, unk1⟩ { fr' with tmps := tm, todo := td', defers := ds', mode := .panicking ch' } :=
      ⟨hf.fn, b, (fun hh => by cases hh), hf.more, f, .panicking p, hf.kind, hf.rnd.mono d.sub, (fun hh => by cases hh)⟩
    exact .head (hs.trans a) (hx2.trans d) rfl rfl (hrun _ _ _ _ hl hkk hfn σ1 w1 k _ m1 hf2 d.hr e c cs)
include hmix hdr hrun hkk hfn hf hr hup in
theorem region_ok (hmr : mode = .run) {id : Nat} {ops : Array Oper} {draw : Bool} {kk kt : List Item} (ht : fr'.todo = .code (.region id ops draw) :: (kt ++ k)) (hkt : IRL σ kk kt)
    (hl : doRegion P run ⟨fn, env, n, todo, ds, mode, kind, rnd, more, unk⟩ up h kk ops.toList draw = some l) : Res P σ h w kind fr' m c cs l := by
  subst hmr
  have hm' : fr'.mode = .run := by have := hf.mode; cases hfm : fr'.mode <;> rw [hfm] at this <;> first | rfl | cases this
  have hunk : unk = [] := hf.unk rfl
  subst hunk
  unfold doRegion at hl
  simp only at hl
  split at hl
  · cases hl
  · rename_i lc hcr
    unfold compR at hcr
    cases hfit : (ops.toList.all fun o => fitsD n o.dst) with
    | false => rw [hfit] at hcr; cases hcr
    | true =>
      rw [hfit] at hcr
      simp only [cond_true] at hcr
      cases draw with
      | true =>
        simp only [cond_true] at hcr
        cases hro : regOk ops.toList <;> rw [hro] at hcr <;> cases hcr
      | false =>
        simp only [cond_false] at hcr
        cases hcr
        have hst := st_reg (P := P) (cs := mkCs kind c cs m) (w := w) hm' ht
        have hrd : rnd.isSome = false → fr'.roundOf = none := by
          intro hh
          have := hf.rnd
          cases rnd with
          | none => cases hq : fr'.roundOf with | none => rfl | some x => rw [hq] at this; cases this
          | some x => cases hh
        cases hev : evOps P run kind .run rnd.isSome (ops.toList.map (compO P ops.toList)) env ds up h with
        | none => rw [hev] at hl; cases hl
        | some rs =>
          rw [hev] at hl
          obtain ⟨r, hr1, hr2⟩ := evOps_ok hrun hkk hfit (kt ++ k) c cs ops.size 0 (by omega) (by rw [List.drop_zero]; exact hev)
            (fr := { fr' with todo := .inRegion ops (List.range ops.size) :: (kt ++ k) }) hm' (by rw [List.range_eq_range']) hrd hf.kind hf.env hr hf.ds hup
          have hone : ∃ x, onRO run ⟨fn, env, n, todo, ds, .run, kind, rnd, more, []⟩ kk r = some x ∧ ∀ b ∈ x, b ∈ l := by
            split at hl
            · rename_i r0 heq
              cases heq
              have : r = r0 := by simpa using hr1
              subst this
              exact ⟨l, hl, fun _ hb => hb⟩
            · rename_i heq
              cases heq
              exact bindL_mem hl r hr1
            · rename_i heq; cases heq
          obtain ⟨x, hx, hsub⟩ := hone
          exact (onRO_ok hrun c cs hkk hfn hf hr hup rfl hkt hx ⟨_, rfl⟩ (.one hst) (.refl hr) hr2).mem hsub
  · rename_i lc dsts bs hcr
    unfold compR at hcr
    cases hfit : (ops.toList.all fun o => fitsD n o.dst) with
    | false => rw [hfit] at hcr; cases hcr
    | true =>
      rw [hfit] at hcr
      simp only [cond_true] at hcr
      cases draw with
      | false => simp only [cond_false] at hcr; cases hcr
      | true =>
        simp only [cond_true] at hcr
        cases hro : regOk ops.toList with
        | false => rw [hro] at hcr; cases hcr
        | true =>
          rw [hro] at hcr
          simp only [cond_true] at hcr
          cases hcr
          have hst := st_regD (P := P) (cs := mkCs kind c cs m) (w := w) hm' ht
          split at hl
          · rename_i r hev
            have hr2 : HR P σ h { w with drawn := w.drawn + 1 } := hr.drew _
            have hx2 : Ext P σ h w σ h { w with drawn := w.drawn + 1 } := (Ext.refl hr).drawn _
            rw [hmix] at hst
            have hsch : ∀ t, Region.schedule true ops t = Region.linearise .any ops t := fun t => by simp [Region.schedule]
            rw [hsch] at hst
            exact onRO_ok hrun c cs hkk hfn hf hr hup rfl hkt hl ⟨_, rfl⟩ (.one hst) hx2
              (hdr run hrun kind hkk ops n hfit hro hev (fr := { fr' with todo := .inRegion ops (Region.linearise .any ops _) :: (kt ++ k) }) _ (kt ++ k) c cs hm' rfl hf.kind hf.env hr2 hf.ds hup)
          · cases hl
end
end Go.Proofs.Ytaloembfekdkoaa.Ev
namespace Go.Proofs.Ytaloembfekdkoaa.Ev
set_option linter.unusedVariables false
set_option linter.unusedSimpArgs false
set_option linter.unusedSectionVars false
set_option linter.unusedSectionVars false
variable [Val]
theorem HL.of_get {σ : Sg} : ∀ {l l' : List Value}, l'.length = l.length → (∀ (i : Nat) (v : Value), l[i]? = some v → v = Ev.hole ∨ ∃ v', l'[i]? = some v' ∧ VR σ v v') → HL σ l l'
  | [], [], _, _ => .nil
  | [], _ :: _, h, _ => by simp at h
  | _ :: _, [], h, _ => by simp at h
  | v :: l, v' :: l', h, k => by
    have ht : HL σ l l' := HL.of_get (by simpa using h) fun i u hu => by simpa using k (i + 1) u (by simpa using hu)
    rcases k 0 v rfl with rfl | ⟨u, hu, r⟩
    · exact .hole v' ht
    · cases hu; exact .cons r ht
theorem settled_ok {σ : Sg} {m m' : FrameMode} (h : MR σ m m') : MR σ (settled m) (settled m') := by
  cases h with
  | run => exact .run
  | returning => exact .returning
  | panicking hp => cases hp with
    | nil => exact .panicking .nil
    | cons r g hv t =>
      cases r with
      | false => exact .panicking (.cons _ _ hv t)
      | true =>
        have aux : ∀ {l l' : List PanicEntry}, PEL σ l l' → PEL σ (l.dropWhile (!·.goexit)) (l'.dropWhile (!·.goexit)) := by
          intro l
          induction l with
          | nil => intro l' h; cases h; exact .nil
          | cons e l ih =>
            intro l' h
            cases h with
            | cons r g hv t =>
              simp only [List.dropWhile_cons]
              cases g
              · exact ih t
              · exact .cons _ _ hv t
        have h2 := aux t
        simp only [settled]
        rename_i l l'
        revert h2
        generalize List.dropWhile (fun (x : PanicEntry) => !x.goexit) l = a
        generalize List.dropWhile (fun (x : PanicEntry) => !x.goexit) l' = b
        intro h2
        cases h2 with
        | nil => exact .returning
        | cons r g hv t => exact .panicking (.cons _ _ hv t)
theorem PEL.append {σ : Sg} : ∀ {a a' b b'}, PEL σ a a' → PEL σ b b' → PEL σ (a ++ b) (a' ++ b')
  | _, _, _, _, .nil, k => k
  | _, _, _, _, .cons r g h t, k => .cons r g h (PEL.append t k)
theorem raised_ok {σ : Sg} {m m' : FrameMode} {c c' : List PanicEntry} (h : MR σ m m') (hc : PEL σ c c') : MR σ (raisedM m c) (raisedM m' c') := by
  cases h with
  | run => exact .panicking hc
  | returning => exact .panicking hc
  | panicking hp => exact .panicking (hc.append hp)
theorem raise_mode (f : Frame) (ch : List PanicEntry) : f.raise ch = { f with mode := raisedM f.mode ch } := by
  unfold Frame.raise raisedM; cases f.mode <;> rfl
def resF (tm : Array Value) : ResultVar → Sem Value
  | .tmp t => pure (tm.getD t undef)
  | .cell a t => do loadVar t (← asAddr (tm.getD a undef))
theorem results_eq (fn : Func) (tm : Array Value) : results fn tm = (do
    let vs ← fn.results.mapM (resF tm)
    pure (if h : vs.size = 1 then vs[0] else .tuple vs)) := by
  unfold results
  have : (fun (x : ResultVar) => (match x with
      | .tmp t => pure (tm.getD t undef)
      | .cell a t => do loadVar t (← asAddr (tm.getD a undef)) : Sem Value)) = resF tm := by funext x; cases x <;> rfl
  rw [← this]
  rfl
theorem results_ok {P : Program} [Orc P] [OrcOk P] {σ : Sg} {h : AH} {w : World} (hr : HR P σ h w) {env : T Value} {n : Nat} {unk : List Tmp} {tm : Array Value} (he : ER σ env n unk tm) : ∀ {rs : List ResultVar} {l : List Value}, resultsL P h env unk rs = some l →
    ∃ l', (rs.mapM (m := Sem) (resF tm)).run P w = .ok l' w ∧ RL σ l l' := by
  intro rs
  induction rs with
  | nil => intro l hl; cases hl; exact ⟨[], rfl, .nil⟩
  | cons x rs ih =>
    intro l hl
    simp only [resultsL] at hl
    split at hl
    · cases hl
    · rename_i vs hvs
      obtain ⟨l', h1, h2⟩ := ih hvs
      cases x with
      | tmp t =>
        simp only at hl
        cases hu : unk.contains t with
        | true => rw [hu] at hl; cases hl
        | false =>
          rw [hu] at hl
          simp only [cond_false] at hl
          split at hl
          · rename_i v hv
            cases hl
            obtain ⟨v', h3, h4⟩ := he.2 t v (by simpa using hu) hv
            refine ⟨v' :: l', ?_, .cons h4 h2⟩
            simp only [List.mapM_cons, resF, Sem.run_bind, Sem.run_pure, Result.andThen]
            rw [h1]; simp [h3]
          · cases hl
      | cell a t =>
        simp only at hl
        cases hu : unk.contains a with
        | true => rw [hu] at hl; cases hl
        | false =>
          rw [hu] at hl
          simp only [cond_false] at hl
          split at hl
          · rename_i ad hv
            split at hl
            · rename_i v hld
              cases hl
              obtain ⟨v', h3, h4⟩ := he.2 a _ (by simpa using hu) hv
              obtain ⟨b, q, e, rfl, hb, rfl⟩ := ptr_inv h4
              obtain ⟨u, l1, l2⟩ := ld_ok hr hb hld
              have hg : tm.getD a undef = .pointer (some ⟨e.blk, q, none⟩) := by simp [h3]
              refine ⟨u :: l', ?_, .cons l2 h2⟩
              have hA : (asAddr (tm.getD a undef)).run P w = .ok ⟨e.blk, q, none⟩ w := by rw [hg]; rfl
              simp only [List.mapM_cons, resF, Sem.run_bind, hA, Result.andThen, l1]
              rw [h1]; rfl
            · cases hl
          · cases hl
theorem results_run {P : Program} [Orc P] [OrcOk P] {σ : Sg} {h : AH} {w : World} (hr : HR P σ h w) {env : T Value} {n : Nat} {unk : List Tmp} {tm : Array Value} (he : ER σ env n unk tm) {fn : Func} {l : List Value} (hl : resultsL P h env unk fn.results.toList = some l) :
    ∃ v', (results fn tm).run P w = .ok v' w ∧ VR σ (oneOf l) v' := by
  obtain ⟨l', h1, h2⟩ := results_ok hr he hl
  refine ⟨oneOf l', ?_, ?_⟩
  · rw [results_eq]
    simp only [Sem.run_bind, Array.mapM_eq_mapM_toList, Sem.run_map]
    rw [h1]
    simp only [Result.andThen, Sem.run_pure]
    congr 1
    cases l' with
    | nil => rfl
    | cons x t => cases t with
      | nil => rfl
      | cons y t => simp [oneOf]
  · cases h2 with
    | nil => exact .tuple .nil
    | cons hv t => cases t with
      | nil => exact hv
      | cons hv2 t => exact .tuple (.cons hv (.cons hv2 t))
section
variable {P : Program} [Orc P] [OrcOk P] {run : Run} (hrun : RunS P run)
variable {fn : FuncId} {env : T Value} {n : Nat} {todo : List Item} {ds : List Deferred} {mode : FrameMode} {kind : CallKind} {rnd : Option Nat} {more : Bool} {unk : List Tmp}
variable {up : FrameMode} {h : AH} {l : List OutS} {σ : Sg} {w : World} {k : List Item} {fr' : Frame} {m : FrameMode} (c : Frame) (cs : List Frame)
variable (hkk : kind = .normal ∨ kind = .deferred) (hfn : ∃ g, P.funcs[fn]? = some g) (hf : FR σ k ⟨fn, env, n, todo, ds, mode, kind, rnd, more, unk⟩ fr') (hr : HR P σ h w) (hup : MR σ up m)
include hrun hkk hfn hf hr hup in
theorem off_ok (hmr : mode ≠ .run) (hl : stepOff P run ⟨fn, env, n, todo, ds, mode, kind, rnd, more, unk⟩ up h = some l) : Res P σ h w kind fr' m c cs l := by
  have hm2 := hf.mode
  have hmr' : fr'.mode ≠ .run := by
    intro hh
    rw [hh] at hm2
    cases hm2
    exact hmr rfl
  have hds := hf.ds
  unfold stepOff at hl
  simp only at hl
  split at hl
  · rename_i d ds1
    generalize hfd : fr'.defers = fd at hds
    cases hds with
    | cons hd ht =>
      rename_i d' ds'
      unfold doDefer at hl
      simp only at hl
      obtain ⟨hdt, hda⟩ := hd
      split at hl
      · rename_i b hdb
        rw [hdb] at hdt
        generalize hdt' : d'.target = dt at hdt
        cases hdt with
        | @coll _ e hb =>
          split at hl
          · rename_i ll hg
            obtain ⟨o, ho, hok⟩ := obj_ok hr hb hg
            obtain ⟨rfl, hll⟩ := hok
            rcases hll with hll | hll
            · cases hll
              have hx := obj_put hr hb hg (y := .deferred none) (.deferred none) ⟨rfl, .inr rfl⟩
              have hgo : (Instr.takeDeferred e.blk).run P w = .ok [] { w with heap := w.heap.setIfInBounds e.blk (.deferred none) } := by
                have h1 : (getObj e.blk).run P w = .ok (.deferred (some [])) w := by simp [getObj, Sem.run, ho]
                simp only [Instr.takeDeferred, Sem.run_bind, h1, Result.andThen, setObj_run (o' := .deferred none) ho (fun _ _ _ hh => by cases hh), Sem.run_pure]
              have hs : step P (lone fr' (mkCs kind c cs m) w) = .next (lone { fr' with defers := ds' } (mkCs kind c cs m) { w with heap := w.heap.setIfInBounds e.blk (.deferred none) }) := by
                refine step_lone_go ?_
                obtain ⟨dtg, dar⟩ := d'
                simp only at hdt'
                subst hdt'
                cases hq : fr'.mode with
                | run => exact absurd hq hmr'
                | returning => simp [stepG, unwind, hq, hfd, Sem.runT_eq, hgo]
                | panicking ch => simp [stepG, unwind, hq, hfd, Sem.runT_eq, hgo]
              have hf2 : FR σ k ⟨fn, env, n, todo, ([] : List Deferred) ++ ds1, mode, kind, rnd, more, unk⟩ { fr' with defers := ds' } := ⟨hf.fn, hf.env, (fun hh => absurd hh hmr), hf.more, ht, hf.mode, hf.kind, hf.rnd, (fun hh => absurd hh hmr)⟩
              exact .head (.one hs) hx rfl rfl (hrun _ _ _ _ hl hkk hfn σ _ k _ m hf2 hx.hr hup c cs)
            · cases hll
          · cases hl
      · rename_i hnc
        split at hl
        · rename_i g args h1 hinv
          have har := invokeL_ok hr hdt hda hinv
          obtain ⟨rfl, args', h2, h3⟩ := har
          split at hl
          · cases hl
          · rename_i cf hcf
            obtain ⟨q1, q2, q3, q4, q5, q6⟩ := enterF_ok hcf h3
            have hnn : ∀ b, d'.target ≠ .collected b := by
              intro b hh
              rw [hh] at hdt
              cases hdq : d.target with
              | collected x => exact hnc x hdq
              | _ => rw [hdq] at hdt; cases hdt
            have hnil : d'.target ≠ .nil := by
              intro hh
              rw [hh] at h2
              simp [invoke, runtimePanic, goPanic] at h2
            have hs : step P (lone fr' (mkCs kind c cs m) w) = .next (lone (Frame.enter P g args' .deferred) ({ fr' with defers := ds' } :: mkCs kind c cs m) w) := by
              refine step_lone_go ?_
              obtain ⟨dtg, dar⟩ := d'
              simp only at hnn hnil h2
              cases dtg <;> first | exact absurd rfl hnil | exact absurd rfl (hnn _) | skip
              all_goals
                cases hq : fr'.mode with
                | run => exact absurd hq hmr'
                | returning => simp [stepG, unwind, hq, hfd, callDeferred, Sem.runT_eq, h2]
                | panicking ch => simp [stepG, unwind, hq, hfd, callDeferred, Sem.runT_eq, h2]
            have hcall : ∀ ll, run cf mode h1 = some ll → Res P σ h1 w .deferred (Frame.enter P g args' .deferred) fr'.mode { fr' with defers := ds' } (mkCs kind c cs m) ll := by
              intro ll hll
              have := hrun cf mode h1 ll hll (.inr q2) q3 σ w [] _ fr'.mode q1 hr hm2 { fr' with defers := ds' } (mkCs kind c cs m)
              rw [q2] at this; exact this
            have hmk : mkCs .deferred { fr' with defers := ds' } (mkCs kind c cs m) fr'.mode = { fr' with defers := ds' } :: mkCs kind c cs m := rfl
            split at hl
            · rename_i rv mm h2' hrn
              obtain ⟨o', ho', σ1, w1, wa, fr1, m2, out', e1, e2, e3, e4, e5, e6, e7⟩ := hcall _ hrn
              have : o' = ⟨.ret rv, mm, h2'⟩ := by simpa using ho'
              subst this
              rw [hmk] at e4
              cases e3 with
              | ret hv =>
                have hs2 := e5.pop_deferred { fr' with defers := ds', mode := m2 } (mkCs kind c cs m)
                have hmode2 : MR σ1 (settled mm) (settled m2) := settled_ok e2
                generalize hsm : settled mm = sm at hl hmode2
                have hnr : sm ≠ .run := by intro hh; rw [hh] at hl; cases hl
                have hl : run ⟨fn, env, n, todo, ds1, sm, kind, rnd, more, unk⟩ up h2' = some l := by
                  cases sm with
                  | run => cases hl
                  | returning => exact hl
                  | panicking x => exact hl
                have hf2 : FR σ1 k ⟨fn, env, n, todo, ds1, sm, kind, rnd, more, unk⟩ { fr' with defers := ds', mode := settled m2 } :=
                  ⟨hf.fn, hf.env.mono e1.sub, (fun hh => absurd hh hnr), hf.more, ht.mono e1.sub, hmode2, hf.kind, hf.rnd.mono e1.sub, (fun hh => absurd hh hnr)⟩
                exact .head (.head hs (e4.trans (.one hs2))) e1 rfl rfl (hrun _ _ _ _ hl hkk hfn σ1 w1 k _ m hf2 e1.hr (hup.mono e1.sub) c cs)
            · rename_i pc mm h2' hrn
              obtain ⟨o', ho', σ1, w1, wa, fr1, m2, out', e1, e2, e3, e4, e5, e6, e7⟩ := hcall _ hrn
              have : o' = ⟨.pan pc, mm, h2'⟩ := by simpa using ho'
              subst this
              rw [hmk] at e4
              cases e3 with
              | pan hv =>
                rename_i pc'
                have hs2 := e5.pop_deferred { fr' with defers := ds', mode := m2 } (mkCs kind c cs m)
                have hrm : popD { fr' with defers := ds', mode := m2 } (.pan pc') = { fr' with defers := ds', mode := raisedM m2 pc' } := raise_mode _ _
                rw [hrm] at hs2
                have hmode2 : MR σ1 (raisedM mm pc) (raisedM m2 pc') := raised_ok e2 hv
                have hnr : raisedM mm pc ≠ .run := by unfold raisedM; cases mm <;> (intro hh; cases hh)
                have hf2 : FR σ1 k ⟨fn, env, n, todo, ds1, raisedM mm pc, kind, rnd, more, unk⟩ { fr' with defers := ds', mode := raisedM m2 pc' } :=
                  ⟨hf.fn, hf.env.mono e1.sub, (fun hh => absurd hh hnr), hf.more, ht.mono e1.sub, hmode2, hf.kind, hf.rnd.mono e1.sub, (fun hh => absurd hh hnr)⟩
                exact .head (.head hs (e4.trans (.one hs2))) e1 rfl rfl (hrun _ _ _ _ hl hkk hfn σ1 w1 k _ m hf2 e1.hr (hup.mono e1.sub) c cs)
            · cases hl
        · cases hl
  · have hfd : fr'.defers = [] := by cases hq : fr'.defers with | nil => rfl | cons x y => rw [hq] at hds; cases hds
    obtain ⟨g, hg⟩ := hfn
    have hg' : P.funcs[fr'.fn]? = some g := by rw [hf.fn]; exact hg
    split at hl
    · rename_i chain
      cases hl
      generalize hq : fr'.mode = fm at hm2
      cases hm2 with
      | panicking hp => exact ⟨_, List.mem_singleton.2 rfl, σ, w, w, fr', m, .pan _, .refl hr, hup, .pan hp, .refl _ _, .pan g rfl hq hfd hg', rfl, rfl⟩
    · unfold doResults at hl
      simp only [hg] at hl
      split at hl
      · rename_i rl hrl
        cases hl
        generalize hq : fr'.mode = fm at hm2
        cases hm2
        obtain ⟨v', h1, h2⟩ := results_run hr hf.env hrl
        exact ⟨_, List.mem_singleton.2 rfl, σ, w, w, fr', m, .ret v', .refl hr, hup, .ret h2, .refl _ _, .ret g rfl hq hfd hf.kind hg' h1, rfl, rfl⟩
      · cases hl
    · cases hl
end
end Go.Proofs.Ytaloembfekdkoaa.Ev
namespace Go.Proofs.Ytaloembfekdkoaa.Ev
set_option linter.unusedVariables false
set_option linter.unusedSimpArgs false
set_option linter.unusedSectionVars false
set_option linter.unusedSectionVars false
variable [Val]
section
variable {P : Program} [Orc P] [OrcOk P] {run : Run} (hmix : P.follows .mixedOrders = true) (hdr : DrawnS P) (hrun : RunS P run)
variable {fn : FuncId} {env : T Value} {n : Nat} {todo : List Item} {ds : List Deferred} {mode : FrameMode} {kind : CallKind} {rnd : Option Nat} {more : Bool} {unk : List Tmp}
variable {up : FrameMode} {h : AH} {l : List OutS} {σ : Sg} {w : World} {k : List Item} {fr' : Frame} {m : FrameMode} (c : Frame) (cs : List Frame)
variable (hkk : kind = .normal ∨ kind = .deferred) (hfn : ∃ g, P.funcs[fn]? = some g) (hf : FR σ k ⟨fn, env, n, todo, ds, mode, kind, rnd, more, unk⟩ fr') (hr : HR P σ h w) (hup : MR σ up m)
include hrun hkk hfn hf hr hup in
theorem begin_ok (hmr : mode = .run) {kk kt : List Item} (ht : fr'.todo = .beginRound :: (kt ++ k)) (hkt : IRL σ kk kt)
    (hl : doBegin run ⟨fn, env, n, kk, ds, mode, kind, rnd, more, unk⟩ up h = some l) : Res P σ h w kind fr' m c cs l := by
  subst hmr
  have hm' : fr'.mode = .run := by have := hf.mode; cases hfm : fr'.mode <;> rw [hfm] at this <;> first | rfl | cases this
  unfold doBegin at hl
  simp only at hl
  split at hl
  · rename_i lb
    have hrd : ∃ e, σ lb = some e ∧ fr'.roundOf = some e.blk := by
      have := hf.rnd
      cases hq : fr'.roundOf with
      | none => rw [hq] at this; cases this
      | some x => rw [hq] at this; cases this with | some h => exact ⟨_, h, rfl⟩
    obtain ⟨e, hb, hrd⟩ := hrd
    split at hl
    · rename_i r hg
      split at hl
      · rename_i hst
        obtain ⟨f, tm, q1, q2, q3, q4⟩ := loop_ok hr hb hg
        have hx := obj_put hr hb hg (y := .loop { r with state := .busy }) (.loop { r with tmps := tm, defers := f.blk, state := .busy }) ⟨f, tm, q1, rfl, q3⟩
        have he : (Instr.beginRound e.blk).run P w = .ok () { w with heap := w.heap.setIfInBounds e.blk (.loop { r with tmps := tm, defers := f.blk, state := .busy }) } := by
          simp only [Instr.beginRound, Instr.getLoop, Sem.run_bind, q4, Result.andThen, Sem.run_pure, hst, setObj_run (o' := .loop { r with tmps := tm, defers := f.blk, state := .busy }) q2 (fun _ _ _ hh => by cases hh)]
        exact go_ok hrun c cs hkk hfn hf hr hup rfl hl (st_begin hm' ht hrd he) hkt hx
      · cases hl
    · cases hl
  · cases hl
include hrun hkk hfn hf hr hup in
theorem end_ok (hmr : mode = .run) {kk kt : List Item} {lb : Nat} {e : Ent} (hb : σ lb = some e) (ht : fr'.todo = .endRangeFunc e.blk :: (kt ++ k)) (hkt : IRL σ kk kt)
    (hl : doEnd run ⟨fn, env, n, todo, ds, mode, kind, rnd, more, unk⟩ up h kk lb = some l) : Res P σ h w kind fr' m c cs l := by
  subst hmr
  have hm' : fr'.mode = .run := by have := hf.mode; cases hfm : fr'.mode <;> rw [hfm] at this <;> first | rfl | cases this
  unfold doEnd at hl
  split at hl
  · rename_i r hg
    obtain ⟨f, tm, q1, q2, q3, q4⟩ := loop_ok hr hb hg
    have hx := obj_put hr hb hg (y := .loop { r with state := .exhausted }) (.loop { r with tmps := tm, defers := f.blk, state := .exhausted }) ⟨f, tm, q1, rfl, q3⟩
    have hns : r.state ≠ .busy := by intro hh; rw [hh] at hl; cases hl
    have he : (Instr.endLoop e.blk).run P w = .ok r.pending { w with heap := w.heap.setIfInBounds e.blk (.loop { r with tmps := tm, defers := f.blk, state := .exhausted }) } := by
      have hb2 : (r.state == LoopState.busy) = false := by simpa using hns
      simp only [Instr.endLoop, Instr.getLoop, Sem.run_bind, q4, Result.andThen, Sem.run_pure, hb2, Bool.false_eq_true, if_false, setObj_run (o' := .loop { r with tmps := tm, defers := f.blk, state := .exhausted }) q2 (fun _ _ _ hh => by cases hh)]
    have hs := st_endR (P := P) (cs := mkCs kind c cs m) hm' ht he
    have hl2 : run ⟨fn, env, n, (match r.pending with | some c => .code c :: kk | none => kk), ds, .run, kind, rnd, more, unk⟩ up (h.put lb (.obj (.loop { r with state := .exhausted }))) = some l := by
      cases hst : r.state with
      | busy => exact absurd hst hns
      | _ => rw [hst] at hl; exact hl
    cases hp : r.pending with
    | none =>
      rw [hp] at hl2 hs hx
      exact go_ok hrun c cs hkk hfn hf hr hup rfl hl2 (t2 := kt) (by simpa using hs) hkt hx
    | some j =>
      rw [hp] at hl2 hs hx
      exact go_ok hrun c cs hkk hfn hf hr hup rfl hl2 (t2 := .code j :: kt) (by simpa using hs) (.same _ rfl hkt) hx
  · cases hl
include hrun hkk hfn hf hr hup in
theorem range_ok (hmr : mode = .run) {kk kt : List Item} {f : Operand} {params : Array Tmp} {assign body : Code} (ht : fr'.todo = .code (.rangeFunc f params assign body) :: (kt ++ k)) (hkt : IRL σ kk kt)
    (hl : doRange P run ⟨fn, env, n, todo, ds, mode, kind, rnd, more, unk⟩ up h kk f params assign body = some l) : Res P σ h w kind fr' m c cs l := by
  subst hmr
  have hm' : fr'.mode = .run := by have := hf.mode; cases hfm : fr'.mode <;> rw [hfm] at this <;> first | rfl | cases this
  have hunk : unk = [] := hf.unk rfl
  subst hunk
  unfold doRange at hl
  simp only at hl
  split at hl
  · rename_i g first captured hev
    have hrd : fr'.roundOf = none := by have := hf.rnd; cases hq : fr'.roundOf with | none => rfl | some x => rw [hq] at this; cases this
    have hfv := hf.env.eval hev
    have x1 := push_ext hr (.obj (.deferred (some []))) (.deferred (some [])) 0 0 ⟨rfl, .inl rfl⟩
    generalize hs1 : (fun b => if b = h.nx then some (⟨w.heap.size, 0, 0⟩ : Ent) else σ b) = σ1 at x1
    have hd1 : σ1 h.nx = some ⟨w.heap.size, 0, 0⟩ := by rw [← hs1]; simp
    have hHL : HL σ1 (allE env n) fr'.tmps.toList := by
      refine HL.of_get ?_ ?_
      · simp [allE, hf.env.1]
      · intro i v hi
        have hin : i < n := by
          have := (List.getElem?_eq_some_iff.1 hi).1
          simpa [allE] using this
        cases hg : env.get i with
        | none =>
          have := hi
          simp [allE, hin, hg] at this
          exact .inl this.symm
        | some u =>
          simp [allE, hin, hg] at hi
          subst hi
          obtain ⟨v', a, b⟩ := hf.env.2 i u (by simp) hg
          exact .inr ⟨v', by simpa using a, b.mono x1.sub⟩
    have hn1 : (h.push (.obj (.deferred (some [])))).nx = h.nx + 1 := AH.nx_push _ _
    generalize hw1 : ({ w with heap := w.heap.push (.deferred (some [])) } : World) = w1 at x1
    have hw1s : w1.heap.size = w.heap.size + 1 := by rw [← hw1]; simp
    have x2 := push_ext x1.hr (.obj (.loop { state := .ready, pending := none, fn, tmps := ⟨allE env n⟩, params, assign, body, defers := h.nx }))
      (.loop { state := .ready, pending := none, fn, tmps := fr'.tmps, params, assign, body, defers := w.heap.size }) 0 0
      ⟨⟨w.heap.size, 0, 0⟩, fr'.tmps, by simp only; rw [if_neg (by rw [hn1]; simp)]; exact hd1, rfl, hHL.mono (fun b e hb => by
        have := (x1.hr.live b e hb).1; rw [if_neg (by omega)]; exact hb)⟩
    generalize hh1 : h.push (.obj (.deferred (some []))) = h1 at x1 x2 hl hn1
    generalize hs2 : (fun b => if b = h1.nx then some (⟨w1.heap.size, 0, 0⟩ : Ent) else σ1 b) = σ2 at x2
    have hd2 : σ2 h1.nx = some ⟨w1.heap.size, 0, 0⟩ := by rw [← hs2]; simp
    generalize hh2 : h1.push (.obj (.loop { state := .ready, pending := none, fn, tmps := ⟨allE env n⟩, params, assign, body, defers := h.nx })) = h2 at x2 hl
    have x12 := x1.trans x2
    split at hl
    · cases hl
    · rename_i cf hcf
      replace hcf := cond_some hcf; obtain ⟨hpf, hcf⟩ := hcf
      generalize hfe : fr'.eval f = fv at hfv
      cases hfv with
      | func hfr ha hc =>
        rename_i f2 a2 c2
        cases hfr with
        | same _ =>
          have hargs : RL σ2 (first.toList ++ (.func (.yield h1.nx) #[] #[] :: captured.toList)) (a2 ++ #[Value.func (.yield w1.heap.size) #[] #[]] ++ c2).toList := by
            simp only [Array.toList_append, List.append_assoc]
            exact (ha.mono x12.sub).append (RL.cons (VR.func (FnR.yield (e := ⟨w1.heap.size, 0, 0⟩) hd2) RL.nil RL.nil) (hc.mono x12.sub))
          obtain ⟨q1, q2, q3, q4, q5, q6⟩ := enterF_ok hcf hargs
          generalize hw2 : ({ w1 with heap := w1.heap.push (.loop { state := .ready, pending := none, fn, tmps := fr'.tmps, params, assign, body, defers := w.heap.size }) } : World) = w2 at x2 x12
          have hloop : (Instr.enterLoop fr'.fn fr'.tmps params assign body fr'.roundOf).run P w = .ok (w1.heap.size, [{ target := .collected w.heap.size, args := #[] }]) w2 := by
            rw [← hw2, ← hw1, hrd, hf.fn]
            simp [Instr.enterLoop]
            rfl
          have hcall : ((resolve ({ fr' with todo := .inRangeFunc w1.heap.size :: (kt ++ k), defers := [{ target := .collected w.heap.size, args := #[] }] ++ fr'.defers, mode := .run } : Frame).eval { callee := .value f, args := #[.const (.func (.yield w1.heap.size) #[] #[])], argTypes := #[] } 0 >>= fun d => invoke d.target d.args)).run P w2 = .ok (.enter g (a2 ++ #[Value.func (.yield w1.heap.size) #[] #[]] ++ c2)) w2 := by
            have he2 : ({ fr' with todo := .inRangeFunc w1.heap.size :: (kt ++ k), defers := [{ target := .collected w.heap.size, args := #[] }] ++ fr'.defers, mode := .run } : Frame).eval f = .func (.func g) a2 c2 := by
              rw [← hfe]; cases f <;> rfl
            generalize ({ fr' with todo := .inRangeFunc w1.heap.size :: (kt ++ k), defers := [{ target := .collected w.heap.size, args := #[] }] ++ fr'.defers, mode := .run } : Frame) = F at he2
            have hmap : (#[Operand.const (.func (.yield w1.heap.size) #[] #[])]).map F.eval = #[.func (.yield w1.heap.size) #[] #[]] := by simp [Frame.eval]
            simp only [resolve, he2, hmap, Deferred.ofValue, Sem.run_bind, Sem.run_pure, Result.andThen, invoke]
            exact plainFn_run hpf _
          generalize hfr2 : ({ fr' with todo := .inRangeFunc w1.heap.size :: (kt ++ k), defers := [{ target := .collected w.heap.size, args := #[] }] ++ fr'.defers, mode := .run } : Frame) = fr2 at hcall
          have hs : step P (lone fr' (mkCs kind c cs m) w) = .next (lone (Frame.enter P g (a2 ++ #[Value.func (.yield w1.heap.size) #[] #[]] ++ c2) .normal) (fr2 :: mkCs kind c cs m) w2) := by
            refine step_lone_go ?_
            simp only [stepG, stepG.exec, hm', ht, Sem.runT_eq, hloop, GStep.bare_after, hfr2, stepG.apply, if_true, hcall]
            rw [← hfr2]
            rfl
          split at hl
          · rename_i rv uu h3 hrn
            obtain ⟨o', ho', σ3, w3, wa, fr3, m3, out', e1, e2, e3, e4, e5, e6, e7⟩ := hrun cf .run h2 _ hrn (.inl q2) q3 σ2 w2 [] _ .run q1 x12.hr .run c (fr2 :: mkCs kind c cs m)
            have : o' = ⟨.ret rv, uu, h3⟩ := by simpa using ho'
            subst this
            rw [q2] at e4 e5
            cases e3 with
            | ret hv =>
              rename_i rv'
              have hpop := e5.pop_normal fr2 (mkCs kind c cs m)
              have hfin : popN fr2 (.ret rv') = { fr2 with todo := .endRangeFunc w1.heap.size :: (kt ++ k) } := by
                rw [← hfr2]; rfl
              rw [hfin] at hpop
              have xx := x12.trans e1
              have hf2 : FR σ3 k ⟨fn, env, n, .endRangeFunc h1.nx :: kk, { target := .collected h.nx, args := #[] } :: ds, .run, kind, none, more, []⟩ { fr2 with todo := .endRangeFunc w1.heap.size :: (kt ++ k) } := by
                rw [← hfr2]
                refine ⟨hf.fn, hf.env.mono xx.sub, fun _ => ⟨.endRangeFunc w1.heap.size :: kt, rfl, .endR (e := ⟨w1.heap.size, 0, 0⟩) (e1.sub _ _ hd2) (hkt.mono xx.sub)⟩, hf.more, .cons ⟨.coll (e := ⟨w.heap.size, 0, 0⟩) (e1.sub _ _ (x2.sub _ _ hd1)), .nil⟩ (hf.ds.mono xx.sub), .run, hf.kind, hf.rnd.mono xx.sub, fun _ => rfl⟩
              refine .head (.head hs (e4.trans (.one hpop))) xx ?_ ?_ (hrun _ _ _ _ hl hkk hfn σ3 w3 k _ m hf2 xx.hr (hup.mono xx.sub) c cs)
              · rw [← hfr2]
              · rw [← hfr2]
          · cases hl
  · cases hl
end
end Go.Proofs.Ytaloembfekdkoaa.Ev
namespace Go.Proofs.Ytaloembfekdkoaa.Ev
set_option linter.unusedVariables false
set_option linter.unusedSimpArgs false
set_option linter.unusedSectionVars false
set_option linter.unusedSectionVars false
variable [Val]
open Go.RowKit
theorem stepF_ok {P : Program} [Orc P] [OrcOk P] {run : Run} (hmix : P.follows .mixedOrders = true) (hdr : DrawnS P) (hrun : RunS P run) : RunS P (stepF P run) := by
  intro fr up h l hl hkk hfn σ w k fr' m hf hr hup c cs
  obtain ⟨fn, env, n, todo, ds, mode, kind, rnd, more, unk⟩ := fr
  simp only at hkk hfn ⊢
  unfold stepF at hl
  simp only at hl
  have off : mode ≠ .run → stepOff P run ⟨fn, env, n, todo, ds, mode, kind, rnd, more, unk⟩ up h = some l → Res P σ h w kind fr' m c cs l := fun hmr hl => off_ok hrun c cs hkk hfn hf hr hup hmr hl
  cases mode with
  | returning => exact off (fun hh => by cases hh) hl
  | panicking ch => exact off (fun hh => by cases hh) hl
  | run =>
    clear off
    simp only at hl
    have hm' : fr'.mode = .run := by have := hf.mode; cases hfm : fr'.mode <;> rw [hfm] at this <;> first | rfl | cases this
    have hunk : unk = [] := hf.unk rfl
    subst hunk
    obtain ⟨t, ht, hirl⟩ := hf.todo rfl
    simp only at hirl
    cases todo with
    | nil =>
      cases hirl
      simp only at hl
      cases hmo : more with
      | true => rw [hmo] at hl; cases hl
      | false =>
        rw [hmo] at hl hf
        simp only [cond_false] at hl
        have hk0 : k = [] := hf.more rfl
        subst hk0
        exact leave_ok hrun c cs hkk hfn hf hr hup rfl hl (by rw [ht]; rfl) (fun _ => by rw [ht]; rfl) (fun hh => by cases hh)
    | cons i kk =>
      simp only at hl
      unfold stepItem at hl
      have go1 : ∀ {todo2 t2 : List Item}, run ⟨fn, env, n, todo2, ds, .run, kind, rnd, more, []⟩ up h = some l → step P (lone fr' (mkCs kind c cs m) w) = .next (lone { fr' with todo := t2 ++ k } (mkCs kind c cs m) w) → IRL σ todo2 t2 → Res P σ h w kind fr' m c cs l :=
        fun hl hs hi => go_ok hrun c cs hkk hfn hf hr hup rfl hl hs hi (.refl hr)
      cases hirl with
      | endR hb hkt =>
        rename_i lb e kt
        simp only at hl
        exact end_ok hrun c cs hkk hfn hf hr hup rfl hb (by rw [ht]; rfl) hkt hl
      | same _ hpl hkt =>
        rename_i kt
        have ht2 : fr'.todo = i :: (kt ++ k) := by rw [ht]; rfl
        cases i with
        | inRegion => cases hpl
        | inRangeFunc => cases hpl
        | endRangeFunc => cases hpl
        | call => cases hpl
        | extern => cases hpl
        | inBlock id => exact go1 (by simpa [AF.at] using hl) (st_skip hm' (.inr (.inr (.inl ⟨id, ht2⟩)))) hkt
        | inScope b => exact go1 (by simpa [AF.at] using hl) (st_skip hm' (.inr (.inr (.inr ⟨b, ht2⟩)))) hkt
        | inLoop b => exact go1 (t2 := .code b :: .inLoop b :: kt) (by simpa [AF.at] using hl) (st_loop hm' (.inr ht2)) (.same _ rfl (.same _ rfl hkt))
        | beginRound => exact begin_ok hrun c cs hkk hfn hf hr hup rfl ht2 hkt (by simpa [AF.at] using hl)
        | code cd =>
          simp only at hl
          unfold stepCode at hl
          cases cd with
          | skip => exact go1 (by simpa [AF.at] using hl) (st_skip hm' (.inl ht2)) hkt
          | label lb => exact go1 (by simpa [AF.at] using hl) (st_skip hm' (.inr (.inl ⟨lb, ht2⟩))) hkt
          | seq a b => exact go1 (t2 := .code a :: .code b :: kt) (by simpa [AF.at] using hl) (st_seq hm' ht2) (.same _ rfl (.same _ rfl hkt))
          | block id b => exact go1 (t2 := .code b :: .inBlock id :: kt) (by simpa [AF.at] using hl) (st_block hm' ht2) (.same _ rfl (.same _ rfl hkt))
          | loop b => exact go1 (t2 := .code b :: .inLoop b :: kt) (by simpa [AF.at] using hl) (st_loop hm' (.inl ht2)) (.same _ rfl (.same _ rfl hkt))
          | scope b => exact go1 (t2 := .code b :: .inScope b :: kt) (by simpa [AF.at] using hl) (st_scope hm' ht2) (.same _ rfl (.same _ rfl hkt))
          | refuse why => cases hl
          | ret => exact leave_ok hrun c cs hkk hfn hf hr hup rfl hl (by rw [ht2]; rfl) (fun hh => by cases hh) (fun _ => ⟨_, ht2⟩)
          | cond x a b =>
            simp only at hl
            split at hl
            · rename_i bb hb
              have hv := hf.env.eval hb
              generalize hx : fr'.eval x = v at hv
              cases hv
              exact go1 (t2 := .code (_root_.cond bb a b) :: kt) (by simpa [AF.at] using hl) (st_cond hm' ht2 hx) (.same _ rfl hkt)
            · cases hl
          | exit id =>
            simp only at hl
            split at hl
            · rename_i k' hk'
              obtain ⟨r', h1, h2⟩ := exitTo_ok id k hkt hk'
              exact go1 (by simpa [AF.at] using hl) (st_exit hm' ht2 h1) h2
            · rename_i hk'
              cases hmo : more with
              | true => rw [hmo] at hl; cases hl
              | false =>
                rw [hmo] at hl hf
                simp only [cond_false] at hl
                have hk0 : k = [] := hf.more rfl
                subst hk0
                have hn := exitTo_none id hkt hk'
                exact leave_ok hrun c cs hkk hfn hf hr hup rfl hl (by rw [ht2]; simp [jumpOf, hn]) (fun hh => by cases hh) (fun hh => by cases hh)
          | goto lb =>
            simp only at hl
            split at hl
            · rename_i k' hk'
              obtain ⟨r', h1, h2⟩ := gotoIn_ok lb k hkt hk'
              exact go1 (by simpa [AF.at] using hl) (st_goto hm' ht2 h1) h2
            · rename_i hk'
              cases hmo : more with
              | true => rw [hmo] at hl; cases hl
              | false =>
                rw [hmo] at hl hf
                simp only [cond_false] at hl
                have hk0 : k = [] := hf.more rfl
                subst hk0
                have hn := gotoIn_none lb hkt hk'
                exact leave_ok hrun c cs hkk hfn hf hr hup rfl hl (by rw [ht2]; simp [jumpOf, hn]) (fun hh => by cases hh) (fun hh => by cases hh)
          | rangeFunc f ps as bd => exact range_ok hrun c cs hkk hfn hf hr hup rfl ht2 hkt hl
          | region id ops draw => exact region_ok hmix hdr hrun c cs hkk hfn hf hr hup rfl ht2 hkt hl
theorem evF_ok {P : Program} [Orc P] [OrcOk P] (hmix : P.follows .mixedOrders = true) (hdr : DrawnS P) : ∀ n, RunS P (evF P n)
  | 0 => fun fr up h l hl => by cases hl
  | n + 1 => stepF_ok hmix hdr (evF_ok hmix hdr n)
theorem calls_of_ev {P : Program} [Orc P] [OrcOk P] (hmix : P.follows .mixedOrders = true) (hdr : DrawnS P) {f : FuncId} {args : Array Value} {fuel : Nat} {v : Value} (hargs : args.toList.all (flat 6) = true) (hv : flat 6 v = true)
    (hev : ∃ l, start P f args fuel = some l ∧ (l.all fun o => match o.out with | .ret u => veq 6 u v | _ => false) = true) (w : World) (hlaid : ∀ g o, Val.laid g = some o → w.heap[g]? = some o) :
    Calls P f args w fun e w' => e = .returned v ∧ Below w.heap.size w w' := by
  obtain ⟨l, hl, hall⟩ := hev
  unfold start at hl
  split at hl
  · rename_i cf hcf
    intro cs
    have hr0 : HR P (fun _ => none) { m := .nil, nx := 0, wm := 0 } w := ⟨(fun b e hb => by cases hb), (fun b c e f hb => by cases hb), fun g o hg => ⟨hlaid g o hg, fun b e hb => by cases hb⟩⟩
    obtain ⟨q1, q2, q3, q4, q5, q6⟩ := enterF_ok hcf (flats_refl (fun _ => none) hargs)
    obtain ⟨o, ho, σ1, w1, wa, fr1, m1, out', e1, e2, e3, e4, e5, e6, e7⟩ := evF_ok hmix hdr fuel cf .run _ l hl (.inl q2) q3 _ w [] _ .run q1 hr0 .run (Frame.enter P f args .normal) cs
    have hb : Below w.heap.size w w1 := ⟨e1.same.os, e1.same.tape, e1.same.output, e1.size, fun k hk => e1.frame k hk (fun b e hb => by cases hb)⟩
    have ho2 := List.all_eq_true.1 hall o ho
    rw [q2] at e4 e5
    obtain ⟨oo, ou, oh⟩ := o
    simp only at e3 ho2
    cases e3 with
    | pan hc => cases ho2
    | ret hvv =>
      have hu := veq_eq 6 ho2
      subst hu
      have hvv' := flat_eq 6 hv hvv
      subst hvv'
      cases e5 with
      | ret fn hw hm hd hk hf hrr =>
        subst hw
        exact ⟨.returned _, wa, fr1, ⟨rfl, hb⟩, e4, by rw [e6]; exact q4, hm, hd, hk, fn, hf, hrr⟩
      | round _ _ hro => rw [e7] at hro; exact absurd rfl hro
  · cases hl
end Go.Proofs.Ytaloembfekdkoaa.Ev
