/-
  The evaluator: what it tells of regions that draw is so; so of calls, and of the rest of a function. No condition.
-/
import Derived.Test.YtaloembfekdkoaaEvMach
namespace Go.Proofs.Ytaloembfekdkoaa.Ev
set_option linter.unusedVariables false
set_option linter.unusedSimpArgs false
set_option linter.unusedSectionVars false
set_option linter.unusedSectionVars false
variable [Val]
theorem mapE_congr {ρ ρ' : Ev} : ∀ {l : List Operand}, (∀ x ∈ l, ρ x = ρ' x) → mapE ρ l = mapE ρ' l
  | [], _ => rfl
  | x :: l, h => by
    have ih := mapE_congr (l := l) fun y hy => h y (List.mem_cons_of_mem _ hy)
    simp only [mapE, h x (List.mem_cons_self ..), ih]
theorem mapP_congr {ρ ρ' : Ev} : ∀ {l : List (Nat × Operand)}, (∀ x ∈ l.map (·.2), ρ x = ρ' x) → mapP ρ l = mapP ρ' l
  | [], _ => rfl
  | (i, x) :: l, h => by
    have ih := mapP_congr (l := l) fun y hy => h y (List.mem_cons_of_mem _ hy)
    simp only [mapP, h x (List.mem_cons_self ..), ih]
theorem resolveL_congr {ρ ρ' : Ev} (c : Call) (ty : TypeId) (h : ∀ x ∈ c.operands, ρ x = ρ' x) : resolveL ρ c ty = resolveL ρ' c ty := by
  have hargs : mapE ρ c.args.toList = mapE ρ' c.args.toList := mapE_congr fun x hx => h x (by simp [Call.operands, Array.mem_toList_iff.1 hx])
  unfold resolveL
  rw [hargs]
  cases hc : c.callee with
  | value f => have hf : ρ f = ρ' f := h f (by simp [Call.operands, hc]); simp only [hf]
  | invoke r m => have hr : ρ r = ρ' r := h r (by simp [Call.operands, hc]); simp only [hr]
  | builtin b => rfl
theorem aop_congr {P : Program} [Orc P] [OrcOk P] {ty : TypeId} {op : Op} {h : AH} {ρ ρ' : Ev} (hc : ∀ x ∈ op.operands, ρ x = ρ' x) : (aopC P ty op).f h ρ = (aopC P ty op).f h ρ' := by
  unfold aopC
  cases hor : Orc.op P op with
  | some f => exact OrcOk.opC hor hc
  | none =>
  simp only
  clear hor
  cases op <;> simp only [Op.operands] at hc <;> simp only [aopS]
  case move x => have h1 := hc x (by simp); simp only [opMove, h1]
  case assign x => have h1 := hc x (by simp); simp only [opMove, h1]
  case pick c a b =>
    have h1 := hc c (by simp); have h2 := hc a (by simp); have h3 := hc b (by simp)
    unfold opPick
    rw [h1]
    split
    · rename_i t _
      cases t <;> simp only [opMove, cond_true, cond_false, h2, h3]
    · rfl
  case box e x => have h1 := hc x (by simp); simp only [opBox, h1]
  case build t ps => simp only [opBuild, mapP_congr (ρ := ρ) (ρ' := ρ') (l := ps.toList) fun x hx => hc x (by simpa using hx)]
  case buildSlice t n ps => simp only [opBuildSlice, mapP_congr (ρ := ρ) (ρ' := ρ') (l := ps.toList) fun x hx => hc x (by simpa using hx)]
  case load t a => have h1 := hc a (by simp); simp only [opLoad, h1]
  case store t a x => have h1 := hc a (by simp); have h2 := hc x (by simp); simp only [opStore, h1, h2]
  case nilCheck x => have h1 := hc x (by simp); simp only [opNilCheck, h1]
  case binOp op t x y u => have h1 := hc x (by simp); have h2 := hc y (by simp); simp only [opBin, h1, h2]
  case unOp op t x => have h1 := hc x (by simp); simp only [opUn, h1]
  case convert s d x => have h1 := hc x (by simp); simp only [opConvert, h1]
  case makeInterface t x => have h1 := hc x (by simp); simp only [opIface, h1]
  case makeFunc fn a b =>
    simp only [opFunc, mapE_congr (ρ := ρ) (ρ' := ρ') (l := a.toList) fun x hx => hc x (by simp [Array.mem_toList_iff.1 hx]), mapE_congr (ρ := ρ) (ρ' := ρ') (l := b.toList) fun x hx => hc x (by simp [Array.mem_toList_iff.1 hx])]
  case makeSlice t l c => have h1 := hc l (by simp); have h2 := hc c (by simp); simp only [opMakeSlice, h1, h2]
  case slice t x lo hi mx =>
    have h1 := hc x (by simp)
    have h2 : optE ρ lo = optE ρ' lo := by cases lo with | none => rfl | some y => simp only [optE, hc y (by simp)]
    have h3 : optE ρ hi = optE ρ' hi := by cases hi with | none => rfl | some y => simp only [optE, hc y (by simp)]
    simp only [opSl, h1, h2, h3]
  case fieldAddr s x f => have h1 := hc x (by simp); simp only [opFieldAddr, h1]
  case field t x f => have h1 := hc x (by simp); simp only [opField, h1]
  case indexAddr t x i => have h1 := hc x (by simp); have h2 := hc i (by simp); simp only [opIndexAddr, h1, h2]
  case index t x i => have h1 := hc x (by simp); have h2 := hc i (by simp); simp only [opIndex, h1, h2]
  case lookup t x i ok => have h1 := hc x (by simp); have h2 := hc i (by simp); simp only [opLookup, h1, h2]
  case mapUpdate t m k x => have h1 := hc m (by simp); have h2 := hc k (by simp); have h3 := hc x (by simp); simp only [opUpdate, h1, h2, h3]
  case insert t m k x => have h1 := hc m (by simp); have h2 := hc k (by simp); have h3 := hc x (by simp); simp only [opUpdate, h1, h2, h3]
  case range t x => have h1 := hc x (by simp); simp only [opRange, h1]
  case entry it => have h1 := hc it (by simp); simp only [opEntry, h1]
  case typeAssert x t u ok => have h1 := hc x (by simp); simp only [opAssert, h1]
  case extract x i => have h1 := hc x (by simp); simp only [opExtract, h1]
  case call c => simp only [opCall, resolveL_congr c ty hc]
  case defer c => simp only [opDefer, resolveL_congr c ty hc]
  case panic x => have h1 := hc x (by simp); simp only [opPanic, h1]
theorem evOp_congr {P : Program} [Orc P] [OrcOk P] {run : Run} {kind : CallKind} {mode : FrameMode} {rd : Bool} {ρ ρ' : Ev} {ds : List Deferred} {up : FrameMode} {h : AH} {ty : TypeId} {op : Op} (hc : ∀ x ∈ op.operands, ρ x = ρ' x) :
    evOp P run kind mode rd ρ ds up h (nextOf op) (aopC P ty op) = evOp P run kind mode rd ρ' ds up h (nextOf op) (aopC P ty op) := by
  unfold evOp
  split
  · rename_i it hit
    unfold nextOf at hit
    split at hit
    · cases hit
      rw [hc it (by simp [Op.operands])]
    · cases hit
  · have := aop_congr (P := P) (ty := ty) (h := h) hc
    generalize aopC P ty op = f at this
    obtain ⟨f⟩ := f
    simp only at this ⊢
    rw [this]
noncomputable def keep (E : T Value) : List Nat → T Value
  | [] => .nil
  | d :: l => match E.get d with
    | some v => (keep E l).set d v
    | none => keep E l
theorem keep_get (E : T Value) : ∀ (l : List Nat) (t : Nat), (keep E l).get t = if t ∈ l then E.get t else none
  | [], t => by simp [keep, T.get]
  | d :: l, t => by
    have ih := keep_get E l t
    unfold keep
    split
    · rename_i v hv
      rw [T.get_set, ih]
      by_cases h : t = d
      · subst h; simp [hv]
      · simp [h]
    · rename_i hv
      rw [ih]
      by_cases h : t = d
      · subst h; simp [hv]
      · simp [h]
theorem evOp_rd {P : Program} [Orc P] [OrcOk P] {run : Run} {kind : CallKind} {mode : FrameMode} {ρ : Ev} {ds : List Deferred} {up : FrameMode} {h : AH} {nxt : Option Operand} {fn : Fun} {v : Value} {ds1 : List Deferred} {up1 : FrameMode} {h1 : AH} {l : List OR}
    (hev : evOp P run kind mode true ρ ds up h nxt fn = some l) (hm : OR.val v ds1 up1 h1 ∈ l) : ds1 = ds ∧ up1 = up := by
  have hout : ∀ {r : Option OutS}, outOf ds up r = some l → ds1 = ds ∧ up1 = up := by
    intro r hr
    unfold outOf at hr
    split at hr
    · cases hr; simp at hm; exact ⟨hm.2.1, hm.2.2.1⟩
    · cases hr; simp at hm
    · cases hr
  unfold evOp at hev
  split at hev
  · unfold nextR at hev
    split at hev
    · cases hev
    · split at hev
      · cases hev
        simp only [List.mem_map, OR.val.injEq] at hm
        obtain ⟨p, _, _, h1, h2, _⟩ := hm
        exact ⟨h1.symm, h2.symm⟩
      · cases hev
  · obtain ⟨f⟩ := fn
    simp only at hev
    unfold after at hev
    split at hev
    · cases hev
    · split at hev
      · cases hev; simp at hm; exact ⟨hm.2.1, hm.2.2.1⟩
      · unfold callR at hev
        split at hev
        · cases hev
        · exact hout hev
      · cases hev; simp at hm; exact ⟨hm.2.1, hm.2.2.1⟩
      · split at hev
        · exact hout hev
        · cases hev
      · cases hev
      · cases hev
      · cases hev; simp at hm
theorem evOp_blind {P : Program} [Orc P] [OrcOk P] {run : Run} {kind : CallKind} {mode : FrameMode} {rd : Bool} {ρ : Ev} {ds : List Deferred} {up : FrameMode} {h : AH} {ty : TypeId} {op : Op} (hb : blind P op = true) {v : Value} {ds1 : List Deferred} {up1 : FrameMode} {h1 : AH}
    (hev : evOp P run kind mode rd ρ ds up h (nextOf op) (aopC P ty op) = some [.val v ds1 up1 h1]) (h2 : AH) : evOp P run kind mode rd ρ ds up h2 (nextOf op) (aopC P ty op) = some [.val v ds up h2] := by
  have hn : nextOf op = none := blind_next hb
  obtain ⟨u, hu⟩ := blind_bare (ty := ty) hb ρ
  rw [hn] at hev ⊢
  unfold evOp at hev ⊢
  simp only at hev ⊢
  generalize aopC P ty op = f at hu hev ⊢
  obtain ⟨f⟩ := f
  simp only at hu hev ⊢
  rw [hu] at hev ⊢
  cases u with
  | none => cases hev
  | some x => simp [bare, after] at hev ⊢; exact hev.1
noncomputable def deadH (n : Nat) : AH := ⟨T.lay (List.replicate n .dead) 0 .nil, n, 0⟩
theorem deadH_get (n b : Nat) (hb : b < n) : (deadH n).get b = some .dead := by
  simp only [deadH, AH.get, T.get_lay, List.length_replicate]
  rw [if_pos (by omega)]
  simp [hb]
theorem deadH_hr (P : Program) [Orc P] [OrcOk P] {σ : Sg} {n : Nat} (hs : ∀ b e, σ b = some e → b < n) (w : World) (hl : Lay σ w) : HR P σ (deadH n) w :=
  ⟨fun b e hb => ⟨hs b e hb, .dead, deadH_get n b (hs b e hb), .inl rfl⟩, fun b c e f hb _ _ hd => absurd (deadH_get n b (hs b e hb)) hd, hl⟩
theorem PEL.cut {σ τ : Sg} (hs : σ.sub τ) : ∀ {l u l'}, PEL σ l u → PEL τ l l' → PEL σ l l'
  | _, _, _, .nil, .nil => .nil
  | _, _, _, .cons r g h t, .cons _ _ k s => .cons r g (h.cut hs k) (PEL.cut hs t s)
theorem MR.cut {σ τ : Sg} (hs : σ.sub τ) {m u m'} : MR σ m u → MR τ m m' → MR σ m m'
  | .run, .run => .run
  | .returning, .returning => .returning
  | .panicking h, .panicking k => .panicking (h.cut hs k)
theorem TR.cut {σ τ : Sg} (hs : σ.sub τ) {t u t'} : TR σ t u → TR τ t t' → TR σ t t'
  | .fn hf hc, .fn kf kc => .fn (by
      cases hf with
      | same h => cases kf with
        | same _ => exact .same h
        | yield _ => exact absurd rfl (h _)
      | yield h => cases kf with
        | same k => exact absurd rfl (k _)
        | yield k => have := hs _ _ h; rw [k] at this; cases this; exact .yield h) (hc.cut hs kc)
  | .builtin b ts t c _, .builtin _ _ _ _ c' => .builtin b ts t c c'
  | .coll h, .coll k => by have := hs _ _ h; rw [k] at this; cases this; exact .coll h
theorem DRL.cut {σ τ : Sg} (hs : σ.sub τ) : ∀ {l u l'}, DRL σ l u → DRL τ l l' → DRL σ l l'
  | _, _, _, .nil, .nil => .nil
  | _, _, _, .cons h t, .cons k s => .cons ⟨h.1.cut hs k.1, h.2.cut hs k.2⟩ (DRL.cut hs t s)
end Go.Proofs.Ytaloembfekdkoaa.Ev
namespace Go.Proofs.Ytaloembfekdkoaa.Ev
set_option linter.unusedVariables false
set_option linter.unusedSimpArgs false
set_option linter.unusedSectionVars false
set_option linter.unusedSectionVars false
variable [Val]
theorem getD_app_left {l r : List Nat} {i : Nat} (h : i < l.length) : (l ++ r).getD i 0 = l.getD i 0 := by
  simp [List.getD, List.getElem?_append_left h]
theorem befores_pre : ∀ (l : List Oper) (acc : List Nat) (i : Nat), i < acc.length → (befores l acc).getD i 0 = acc.getD i 0
  | [], _, _, _ => rfl
  | o :: l, acc, i, h => by
    unfold befores
    rw [befores_pre l _ i (by simp; omega), getD_app_left h]
theorem befores_len : ∀ (l : List Oper) (acc : List Nat), (befores l acc).length = acc.length + l.length
  | [], _ => rfl
  | o :: l, acc => by
    unfold befores
    rw [befores_len l]
    simp
    omega
theorem foldE_bit (acc : List Nat) (j : Nat) : ∀ (l : List Edge) (s : Nat), (l.foldl (fun s e => cond (Region.binds .any e) (s ||| 2 ^ e.on ||| acc.getD e.on 0) s) s).testBit j = true →
    s.testBit j = true ∨ ∃ e ∈ l, Region.binds .any e = true ∧ (j = e.on ∨ (acc.getD e.on 0).testBit j = true)
  | [], s, h => .inl h
  | e :: l, s, h => by
    simp only [List.foldl_cons] at h
    rcases foldE_bit acc j l _ h with h1 | ⟨e', h1, h2, h3⟩
    · cases hb : Region.binds .any e with
      | false => rw [hb] at h1; exact .inl h1
      | true =>
        rw [hb] at h1
        simp only [cond_true, Nat.testBit_or, Bool.or_eq_true, Nat.testBit_two_pow, decide_eq_true_eq] at h1
        rcases h1 with (h1 | h1) | h1
        · exact .inl h1
        · exact .inr ⟨e, by simp, hb, .inl h1.symm⟩
        · exact .inr ⟨e, by simp, hb, .inr h1⟩
    · exact .inr ⟨e', List.mem_cons_of_mem _ h1, h2, h3⟩
theorem befores_spec : ∀ (l : List Oper) (acc : List Nat) (i : Nat) (o : Oper), l[i]? = some o → ∀ j, ((befores l acc).getD (acc.length + i) 0).testBit j = true →
    ∃ e ∈ o.after.toList, Region.binds .any e = true ∧ (j = e.on ∨ (e.on < acc.length + i ∧ ((befores l acc).getD e.on 0).testBit j = true))
  | [], _, _, _, h, _, _ => by simp at h
  | x :: l, acc, 0, o, h, j, hj => by
    simp at h
    subst h
    unfold befores at hj ⊢
    rw [befores_pre l _ _ (by simp)] at hj
    simp only [Nat.add_zero, List.getD, List.getElem?_concat_length, Option.getD_some] at hj
    rcases foldE_bit acc j _ _ hj with h1 | ⟨e, h1, h2, h3⟩
    · simp at h1
    · refine ⟨e, h1, h2, ?_⟩
      rcases h3 with h3 | h3
      · exact .inl h3
      · by_cases hlt : e.on < acc.length
        · refine .inr ⟨by omega, ?_⟩
          rw [befores_pre l _ _ (by simp; omega), getD_app_left hlt]
          exact h3
        · rw [List.getD, List.getElem?_eq_none (by omega)] at h3
          simp at h3
  | x :: l, acc, i + 1, o, h, j, hj => by
    unfold befores at hj ⊢
    have hlen : acc.length + (i + 1) = (acc ++ [x.after.toList.foldl (fun s e => cond (Region.binds .any e) (s ||| 2 ^ e.on ||| acc.getD e.on 0) s) 0]).length + i := by simp; omega
    rw [hlen] at hj ⊢
    exact befores_spec l _ i o (by simpa using h) j hj
theorem edges_spec : ∀ (l : List Oper) (i : Nat), edgesOk i l = true → ∀ (k : Nat) (o : Oper), l[k]? = some o → ∀ e ∈ o.after.toList, Region.binds .any e = true → e.on < i + k
  | [], _, _, _, _, h, _, _, _ => by simp at h
  | x :: l, i, h, 0, o, ho, e, he, hb => by
    simp at ho
    subst ho
    simp only [edgesOk, Bool.and_eq_true, List.all_eq_true] at h
    have := h.1 e he
    rw [hb] at this
    simp at this
    omega
  | x :: l, i, h, k + 1, o, ho, e, he, hb => by
    simp only [edgesOk, Bool.and_eq_true] at h
    have := edges_spec l (i + 1) h.2 k o (by simpa using ho) e he hb
    omega
theorem pairs_spec {all : List Oper} {o : Oper} {b : Nat} : ∀ (l : List Oper) (i : Nat), pairsOk all o b i l = true → ∀ (j : Nat) (x : Oper), l[j]? = some x → b.testBit (i + j) = true ∨ apartL all x o = true
  | [], _, _, _, _, h => by simp at h
  | y :: l, i, h, 0, x, hx => by
    simp at hx
    subst hx
    simp only [pairsOk, Bool.and_eq_true, Bool.or_eq_true] at h
    exact h.1
  | y :: l, i, h, j + 1, x, hx => by
    simp only [pairsOk, Bool.and_eq_true] at h
    have := pairs_spec l (i + 1) h.2 j x (by simpa using hx)
    rwa [show i + 1 + j = i + (j + 1) by omega] at this
theorem allPairs_spec {all : List Oper} : ∀ (l ahead : List Oper) (bs : List Nat), allPairs all ahead l bs = true → ∀ (k : Nat) (o : Oper), l[k]? = some o → ∀ (j : Nat) (x : Oper), (ahead ++ l)[j]? = some x → j < ahead.length + k →
    (bs.getD k 0).testBit j = true ∨ apartL all x o = true
  | [], _, _, _, _, _, h, _, _, _, _ => by simp at h
  | y :: l, ahead, [], h, _, _, _, _, _, _, _ => by simp [allPairs] at h
  | y :: l, ahead, b :: bs, h, 0, o, ho, j, x, hx, hj => by
    simp at ho
    subst ho
    simp only [allPairs, Bool.and_eq_true] at h
    have := pairs_spec ahead 0 h.1 j x (by rw [List.getElem?_append_left (by omega)] at hx; exact hx)
    simpa using this
  | y :: l, ahead, b :: bs, h, k + 1, o, ho, j, x, hx, hj => by
    simp only [allPairs, Bool.and_eq_true] at h
    have := allPairs_spec l (ahead ++ [y]) bs h.2 k o (by simpa using ho) j x (by simpa using hx) (by simp; omega)
    simpa using this
theorem apart_spec {all : List Oper} {x y : Oper} (h : apartL all x y = true) : (∀ d, x.dst = some d → d ∉ looks all y ∧ y.dst ≠ some d) ∧ (∀ e, y.dst = some e → e ∉ looks all x) := by
  unfold apartL at h
  split at h
  · rename_i d e hd he
    simp only [Bool.and_eq_true, Bool.not_eq_true', List.contains_eq_mem, decide_eq_false_iff_not] at h
    obtain ⟨⟨h1, h2⟩, h3⟩ := h
    refine ⟨fun d' hd' => ?_, fun e' he' => ?_⟩
    · rw [hd] at hd'; cases hd'
      refine ⟨h1, fun hh => ?_⟩
      rw [he] at hh; cases hh
      have h4 : Nat.beq d d = true := Nat.beq_refl d
      rw [h4] at h3; cases h3
    · rw [he] at he'; cases he'; exact h2
  · rename_i d hd he
    simp only [Bool.not_eq_true', List.contains_eq_mem, decide_eq_false_iff_not] at h
    refine ⟨fun d' hd' => ?_, fun e' he' => ?_⟩
    · rw [hd] at hd'; cases hd'; exact ⟨h, by rw [he]; intro hh; cases hh⟩
    · rw [he] at he'; cases he'
  · rename_i e hd he
    simp only [Bool.not_eq_true', List.contains_eq_mem, decide_eq_false_iff_not] at h
    refine ⟨fun d' hd' => ?_, fun e' he' => ?_⟩
    · rw [hd] at hd'; cases hd'
    · rw [he] at he'; cases he'; exact h
  · rename_i hd he
    refine ⟨fun d' hd' => ?_, fun e' he' => ?_⟩
    · rw [hd] at hd'; cases hd'
    · rw [he] at he'; cases he'
theorem allOk_spec {bs : List Nat} {j mk : Nat} : ∀ (l : List (Nat × Nat)) (i : Nat), allOk bs j mk i l = true → ∀ (t k d : Nat), l[t]? = some (k, d) → k ≠ 0 → i + t ≠ j →
    (bs.getD j 0).testBit (i + t) = true ∨ (bs.getD (i + t) 0).testBit j = true ∨ ((k = 3 ∨ k = 4) ∧ mk.testBit d = false)
  | [], _, _, _, _, _, h, _, _ => by simp at h
  | (k0, d0) :: l, i, h, 0, k, d, ht, hk, hne => by
    simp at ht
    obtain ⟨rfl, rfl⟩ := ht
    simp only [allOk, Bool.and_eq_true, Bool.or_eq_true] at h
    rcases h.1 with (((h1 | h1) | h1) | h1) | h1
    · exact absurd (Nat.eq_of_beq_eq_true h1) hk
    · exact absurd (Nat.eq_of_beq_eq_true h1) hne
    · exact .inl h1
    · exact .inr (.inl h1)
    · exact .inr (.inr ⟨h1.1.imp Nat.eq_of_beq_eq_true Nat.eq_of_beq_eq_true, by simpa using h1.2⟩)
  | (k0, d0) :: l, i, h, t + 1, k, d, ht, hk, hne => by
    simp only [allOk, Bool.and_eq_true] at h
    have := allOk_spec l (i + 1) h.2 t k d (by simpa using ht) hk (by omega)
    rwa [show i + 1 + t = i + (t + 1) by omega] at this
theorem writers_spec {bs : List Nat} {all : List (Nat × Nat)} : ∀ (ks : List (Nat × Nat)) (j : Nat), writersOk bs all j ks = true → ∀ t mk, ks[t]? = some (2, mk) → allOk bs (j + t) mk 0 all = true
  | [], _, _, _, _, h => by simp at h
  | (k, m) :: ks, j, h, 0, mk, ht => by
    simp at ht
    obtain ⟨rfl, rfl⟩ := ht
    simp only [writersOk, Bool.and_eq_true, Bool.or_eq_true] at h
    rcases h.1 with h1 | h1
    · simp at h1
    · exact h1
  | (k, m) :: ks, j, h, t + 1, mk, ht => by
    simp only [writersOk, Bool.and_eq_true] at h
    have := writers_spec ks (j + 1) h.2 t mk (by simpa using ht)
    rwa [show j + 1 + t = j + (t + 1) by omega] at this
theorem kinds_spec {bs : List Nat} {ks : List (Nat × Nat)} (h : kindsOk bs ks = true) {j i k mk d : Nat} (hj : ks[j]? = some (2, mk)) (hi : ks[i]? = some (k, d)) (hk : k ≠ 0) (hne : i ≠ j) :
    (bs.getD j 0).testBit i = true ∨ (bs.getD i 0).testBit j = true ∨ ((k = 3 ∨ k = 4) ∧ mk.testBit d = false) := by
  have h1 := writers_spec ks 0 h j mk hj
  rw [Nat.zero_add] at h1
  have := allOk_spec ks 0 h1 i k d hi hk (by omega)
  rwa [Nat.zero_add] at this
end Go.Proofs.Ytaloembfekdkoaa.Ev
namespace Go.Proofs.Ytaloembfekdkoaa.Ev
set_option linter.unusedVariables false
set_option linter.unusedSimpArgs false
set_option linter.unusedSectionVars false
set_option linter.unusedSectionVars false
variable [Val]
def cutS (σ : Sg) (k : Nat) : Sg := fun b => if b < k then σ b else none
theorem cutS_some {σ : Sg} {k b : Nat} {e : Ent} : cutS σ k b = some e ↔ b < k ∧ σ b = some e := by
  unfold cutS
  by_cases h : b < k <;> simp [h]
theorem cutS_mono (σ : Sg) {k l : Nat} (h : k ≤ l) : (cutS σ k).sub (cutS σ l) := fun _ _ hb => by
  obtain ⟨h1, h2⟩ := cutS_some.1 hb
  exact cutS_some.2 ⟨by omega, h2⟩
theorem cutS_mono2 {σ τ : Sg} (h : σ.sub τ) (k : Nat) : (cutS σ k).sub (cutS τ k) := fun _ _ hb => by
  obtain ⟨h1, h2⟩ := cutS_some.1 hb
  exact cutS_some.2 ⟨h1, h _ _ h2⟩
theorem mergeNew_get (m1 : T AObj) (c : Nat) : ∀ (k i : Nat) (m : T AObj), T.get (Nat.rec (motive := fun _ => Nat → T AObj → T AObj) (fun _ m => m) (fun _ ih i m => ih (Nat.succ i) (match m1.get i with
    | some o => m.set i o
    | none => m)) k i m) c = if i ≤ c ∧ c < i + k then (match m1.get c with | some o => some o | none => m.get c) else m.get c := by
  intro k
  induction k with
  | zero => intro i m; rw [if_neg (by omega)]; rfl
  | succ k ih =>
    intro i m
    show T.get (Nat.rec (motive := fun _ => Nat → T AObj → T AObj) (fun _ m => m) _ k (Nat.succ i) _) c = _
    rw [ih]
    by_cases hc : c = i
    · subst hc
      rw [if_neg (by omega), if_pos (by omega)]
      cases hm : m1.get c with
      | none => rfl
      | some o => simp [T.get_set]
    · have hg : T.get (match m1.get i with | some o => m.set i o | none => m) c = m.get c := by
        cases hm : m1.get i with
        | none => rfl
        | some o => simp [T.get_set, hc]
      rw [hg]
      by_cases hr : i.succ ≤ c ∧ c < i.succ + k
      · rw [if_pos hr, if_pos (by omega)]
      · rw [if_neg hr, if_neg (by omega)]
theorem merge_get {m1 m : T AObj} {nx1 nx wm c : Nat} (hle : nx ≤ nx1) : (AH.get ⟨mergeNew m1 nx1 nx m, nx1, wm⟩ c) = if nx ≤ c ∧ c < nx1 then (match m1.get c with | some o => some o | none => m.get c) else m.get c := by
  show T.get (mergeNew m1 nx1 nx m) c = _
  unfold mergeNew
  have hs : nx + Nat.sub nx1 nx = nx1 := by have : Nat.sub nx1 nx = nx1 - nx := rfl; omega
  have := mergeNew_get m1 c (Nat.sub nx1 nx) nx m
  rw [hs] at this
  exact this
theorem setFrom_get (m1 : T AObj) (b : Nat) (m : T AObj) (c : Nat) : (setFrom m1 b m).get c = if c = b then (match m1.get c with | some o => some o | none => m.get c) else m.get c := by
  unfold setFrom
  by_cases hc : c = b
  · subst hc
    rw [if_pos rfl]
    cases m1.get c with
    | none => rfl
    | some o => simp [T.get_set]
  · rw [if_neg hc]
    cases m1.get b with
    | none => rfl
    | some o => simp [T.get_set, hc]
theorem mergeBits_get (m1 : T AObj) (c : Nat) : ∀ (f wm : Nat) (m : T AObj), wm < 2 ^ f → (mergeBits m1 f wm m).get c = if wm.testBit c = true then (match m1.get c with | some o => some o | none => m.get c) else m.get c := by
  intro f
  induction f with
  | zero =>
    intro wm m hw
    have h0 : wm = 0 := by simpa using hw
    subst h0
    simp only [Nat.zero_testBit, Bool.false_eq_true, if_false]
    rfl
  | succ f ih =>
    intro wm m hw
    show T.get (cond (Nat.beq wm 0) m (forceN (Nat.log2 wm) fun b => mergeBits m1 f (Nat.sub wm (Nat.pow 2 b)) _)) c = _
    cases hz : Nat.beq wm 0 with
    | true =>
      have h0 : wm = 0 := Nat.eq_of_beq_eq_true hz
      subst h0
      simp
    | false =>
      have hne : wm ≠ 0 := fun hh => by rw [hh] at hz; cases hz
      simp only [cond_false, forceN_eq]
      have hlog : 2 ^ wm.log2 ≤ wm := Nat.log2_self_le hne
      have hlog2 : wm < 2 ^ (wm.log2 + 1) := Nat.lt_log2_self
      have hle : wm.log2 ≤ f := by
        have := (Nat.log2_lt hne).2 hw
        omega
      have hsub : wm - 2 ^ wm.log2 < 2 ^ wm.log2 := by rw [Nat.pow_succ] at hlog2; omega
      have hpow : 2 ^ wm.log2 ≤ 2 ^ f := Nat.pow_le_pow_right (by omega) hle
      have hsub' : Nat.sub wm (Nat.pow 2 wm.log2) = wm - 2 ^ wm.log2 := rfl
      rw [hsub', ih _ _ (by omega)]
      have hbit : wm.testBit c = (decide (c = wm.log2) || (wm - 2 ^ wm.log2).testBit c) := by
        have he : wm = 2 ^ wm.log2 + (wm - 2 ^ wm.log2) := by omega
        by_cases hc : c = wm.log2
        · subst hc
          simp [Nat.testBit_log2 hne]
        · rw [decide_eq_false hc, Bool.false_or]
          rcases Nat.lt_or_gt_of_ne hc with hlt | hgt
          · conv => lhs; rw [he]
            rw [Nat.testBit_two_pow_add_gt hlt]
          · rw [Nat.testBit_lt_two_pow (Nat.lt_of_lt_of_le hlog2 (Nat.pow_le_pow_right (by omega) hgt)), Nat.testBit_lt_two_pow (Nat.lt_trans hsub (Nat.pow_lt_pow_right (by omega) hgt))]
      rw [hbit, setFrom_get]
      by_cases hc : c = wm.log2
      · subst hc
        have hf : (wm - 2 ^ wm.log2).testBit wm.log2 = false := Nat.testBit_lt_two_pow hsub
        simp only [hf, decide_true, Bool.true_or, if_true, Bool.false_eq_true, if_false]
      · simp only [decide_eq_false hc, Bool.false_or, if_neg hc]
theorem alloc_ev {P : Program} [Orc P] {run : Run} {kind : CallKind} {mode : FrameMode} {rd : Bool} {ρ : Ev} {ds ds1 : List Deferred} {up up1 : FrameMode} {h h1 : AH} {ty : TypeId} {op : Op} {elem : TypeId} {v : Value} (hop : op = .alloc elem) (hno : Orc.op P op = none)
    (hev : evOp P run kind mode rd ρ ds up h (nextOf op) (aopC P ty op) = some [.val v ds1 up1 h1]) : ∃ l, zeroL P elem = some l ∧ v = .pointer (some ⟨h.nx, 0, none⟩) ∧ h1 = h.newRow elem l false := by
  subst hop
  unfold evOp aopC at hev
  rw [hno] at hev
  simp only [nextOf, aopS, opAlloc] at hev
  cases hz : zeroL P elem with
  | none => rw [hz] at hev; simp [after] at hev
  | some l =>
    rw [hz] at hev
    simp only [after, Option.some.injEq, List.cons.injEq, OR.val.injEq, and_true] at hev
    exact ⟨l, rfl, hev.1.symm, hev.2.2.2.symm⟩
theorem isAlloc_spec {P : Program} [Orc P] {op : Op} (h : isAlloc P op = true) : ∃ elem, op = .alloc elem ∧ Orc.op P op = none := by
  unfold isAlloc at h
  split at h
  · rename_i e hno
    exact ⟨e, rfl, hno⟩
  · cases h
inductive TStep (P : Program) [Orc P] (run : Run) (kind : CallKind) (ds : List Deferred) (up : FrameMode) (all : List Oper) (o : Oper) (E : T Value) (H : AH) : T Value → AH → Nat → Nat → Prop where
  | skip (hw : wants E (gdOf all o.guard) = some false) : TStep P run kind ds up all o E H (setE E o.dst undef) H 0 0
  | blind {v : Value} {h1 : AH} (hw : wants E (gdOf all o.guard) = some true) (hb : blind P o.op = true)
      (hev : evOp P run kind .run true (evalE E) ds up ⟨H.m, H.nx, 0⟩ (nextOf o.op) (aopC P o.type o.op) = some [.val v ds up h1]) : TStep P run kind ds up all o E H (setE E o.dst v) H 0 0
  | reads {v : Value} {h1 : AH} {b : Nat} (hw : wants E (gdOf all o.guard) = some true) (hb : blockOf E (ldOf o.op) = some b)
      (hev : evOp P run kind .run true (evalE E) ds up ⟨H.m, H.nx, 0⟩ (nextOf o.op) (aopC P o.type o.op) = some [.val v ds up h1]) : TStep P run kind ds up all o E H (setE E o.dst v) H 3 b
  | adds {v : Value} {h1 : AH} (hw : wants E (gdOf all o.guard) = some true)
      (hev : evOp P run kind .run true (evalE E) ds up ⟨H.m, H.nx, 0⟩ (nextOf o.op) (aopC P o.type o.op) = some [.val v ds up h1]) (hle : H.nx ≤ h1.nx) (hcl : clean H.nx h1 = true) :
      TStep P run kind ds up all o E H (setE E o.dst v) ⟨mergeNew h1.m h1.nx H.nx H.m, h1.nx, H.wm⟩ 1 0
  | makes {v : Value} {h1 : AH} {elem : TypeId} (hw : wants E (gdOf all o.guard) = some true) (hop : o.op = .alloc elem) (hno : Orc.op P o.op = none)
      (hev : evOp P run kind .run true (evalE E) ds up ⟨H.m, H.nx, 0⟩ (nextOf o.op) (aopC P o.type o.op) = some [.val v ds up h1]) (hle : H.nx ≤ h1.nx) :
      TStep P run kind ds up all o E H (setE E o.dst v) ⟨mergeNew h1.m h1.nx H.nx H.m, h1.nx, H.wm⟩ 4 H.nx
  | writes {v : Value} {h1 : AH} (hw : wants E (gdOf all o.guard) = some true)
      (hev : evOp P run kind .run true (evalE E) ds up ⟨H.m, H.nx, 0⟩ (nextOf o.op) (aopC P o.type o.op) = some [.val v ds up h1]) (hle : H.nx ≤ h1.nx) :
      TStep P run kind ds up all o E H (setE E o.dst v) ⟨mergeBits h1.m H.nx (Nat.mod h1.wm (Nat.pow 2 H.nx)) (mergeNew h1.m h1.nx H.nx H.m), h1.nx, Nat.lor H.wm h1.wm⟩ 2 h1.wm
def EndR (P : Program) [Orc P] [OrcOk P] (run : Run) (kind : CallKind) (ds : List Deferred) (up : FrameMode) (ops : Array Oper) (dsts : List Tmp) (bs : List Nat) (E : Nat → T Value) (H : Nat → AH) (M : Nat) (kk : List (Nat × Nat)) (r : RO) : Prop :=
  (M = ops.size ∧ kindsOk bs kk = true ∧ r = .done (E M) ds up (H M)) ∨
  (M < ops.size ∧ ∃ o c h1, ops[M]? = some o ∧ wants (E M) (gdOf ops.toList o.guard) = some true ∧
    evOp P run kind .run true (evalE (E M)) ds up ⟨(H M).m, (H M).nx, 0⟩ (nextOf o.op) (aopC P o.type o.op) = some [.pan c h1] ∧ waitOk bs M = true ∧ kindsOk (bs.take (M + 1)) (kk ++ [(1, 0)]) = true ∧
    r = .pan c (E M) ds dsts up { h1 with wm := Nat.lor (H M).wm h1.wm })
theorem extract {P : Program} [Orc P] [OrcOk P] {run : Run} {kind : CallKind} {ops : Array Oper} {dsts : List Tmp} {bs : List Nat} {ds : List Deferred} {up : FrameMode} :
    ∀ (j i : Nat), i + j = ops.size → ∀ (ks : List (Nat × Nat)) (env : T Value) (h : AH) (r : RO), ks.length = i → evDrawn P run kind .run dsts bs ((ops.toList.drop i).map (compO P ops.toList)) ks env ds up h = some r →
    ∃ (E : Nat → T Value) (H : Nat → AH) (K D : Nat → Nat) (M : Nat), i ≤ M ∧ E i = env ∧ H i = h ∧ (∀ t o, i ≤ t → t < M → ops[t]? = some o → TStep P run kind ds up ops.toList o (E t) (H t) (E (t + 1)) (H (t + 1)) (K t) (D t)) ∧
      EndR P run kind ds up ops dsts bs E H M (ks ++ (List.range' i (M - i)).map fun t => (K t, D t)) r := by
  intro j
  induction j with
  | zero =>
    intro i hi ks env h r hks hev
    have : ops.toList.drop i = [] := List.drop_eq_nil_of_le (by simp; omega)
    rw [this] at hev
    have hev' : cond (kindsOk bs ks) (some (RO.done env ds up h)) none = some r := hev
    obtain ⟨h1, h2⟩ := cond_some hev'
    cases h2
    exact ⟨fun _ => env, fun _ => h, fun _ => 0, fun _ => 0, i, Nat.le_refl _, rfl, rfl, fun t o h1 h2 => by omega, .inl ⟨by omega, by simpa using h1, rfl⟩⟩
  | succ j ih =>
    intro i hi ks env h r hks hev
    have hlt : i < ops.toList.length := by simp; omega
    have ho : ops[i]? = some (ops.toList[i]) := by simp [show i < ops.size by omega]
    rw [List.drop_eq_getElem_cons hlt] at hev
    simp only [List.map_cons] at hev
    generalize hoo : ops.toList[i] = o at hev ho
    have hev' : stepDr P run kind .run dsts bs (compO P ops.toList o) (evDrawn P run kind .run dsts bs ((ops.toList.drop (i + 1)).map (compO P ops.toList))) ks env ds up h = some r := hev
    have go : ∀ (k d : Nat) (env1 : T Value) (h1 : AH), TStep P run kind ds up ops.toList o env h env1 h1 k d → evDrawn P run kind .run dsts bs ((ops.toList.drop (i + 1)).map (compO P ops.toList)) (ks ++ [(k, d)]) env1 ds up h1 = some r →
        ∃ (E : Nat → T Value) (H : Nat → AH) (K D : Nat → Nat) (M : Nat), i ≤ M ∧ E i = env ∧ H i = h ∧ (∀ t o, i ≤ t → t < M → ops[t]? = some o → TStep P run kind ds up ops.toList o (E t) (H t) (E (t + 1)) (H (t + 1)) (K t) (D t)) ∧
        EndR P run kind ds up ops dsts bs E H M (ks ++ (List.range' i (M - i)).map fun t => (K t, D t)) r := by
      intro k d env1 h1 hst hrest
      obtain ⟨E, H, K, D, M, q1, q2, q3, q4, q5⟩ := ih (i + 1) (by omega) (ks ++ [(k, d)]) env1 h1 r (by simp [hks]) hrest
      refine ⟨fun t => if t = i then env else E t, fun t => if t = i then h else H t, fun t => if t = i then k else K t, fun t => if t = i then d else D t, M, by omega, by simp, by simp, ?_, ?_⟩
      · intro t o' h2 h3 h4
        by_cases ht : t = i
        · subst ht
          rw [ho] at h4; cases h4
          simp only [if_true, show ¬ (t + 1 = t) by omega, if_false, q2, q3]
          exact hst
        · simp only [ht, show ¬ (t + 1 = i) by omega, if_false]
          exact q4 t o' (by omega) h3 h4
      · have hk : ks ++ (List.range' i (M - i)).map (fun t => (if t = i then k else K t, if t = i then d else D t)) = ks ++ [(k, d)] ++ (List.range' (i + 1) (M - (i + 1))).map fun t => (K t, D t) := by
          obtain ⟨d, rfl⟩ : ∃ d, M = i + 1 + d := ⟨M - (i + 1), by omega⟩
          rw [show i + 1 + d - i = d + 1 by omega, show i + 1 + d - (i + 1) = d by omega, List.range'_succ]
          simp only [List.map_cons, if_true, List.append_assoc, List.singleton_append]
          congr 2
          apply List.map_congr_left
          intro a ha
          rw [List.mem_range'_1] at ha
          rw [if_neg (by omega), if_neg (by omega)]
        rw [hk]
        unfold EndR at q5 ⊢
        simp only [show ¬ (M = i) by omega, if_false]
        exact q5
    unfold stepDr compO at hev'
    simp only at hev'
    split at hev'
    · cases hev'
    · rename_i hw
      exact go 0 0 _ _ (.skip hw) hev'
    · rename_i hw
      obtain ⟨m, nx, wm⟩ := h
      simp only at hev'
      unfold onDr at hev'
      split at hev'
      · rename_i v ds1 up1 h1 hop
        obtain ⟨rfl, rfl⟩ := evOp_rd hop (List.mem_singleton.2 rfl)
        obtain ⟨m1, nx1, wm1⟩ := h1
        simp only at hev'
        cases hbl : blind P o.op with
        | true =>
          rw [hbl] at hev'
          exact go 0 0 _ _ (.blind hw hbl hop) hev'
        | false =>
          rw [hbl] at hev'
          simp only [cond_false] at hev'
          split at hev'
          · rename_i rb hrb
            exact go 3 rb _ _ (.reads hw hrb hop) hev'
          obtain ⟨hle, hev2⟩ := cond_some hev'
          have hle' : nx ≤ nx1 := Nat.le_of_ble_eq_true hle
          cases hcl : clean nx ⟨m1, nx1, wm1⟩ with
          | true =>
            rw [hcl] at hev2
            simp only [cond_true] at hev2
            cases hal : isAlloc P o.op with
            | false =>
              rw [hal] at hev2
              exact go 1 0 _ _ (.adds (h1 := ⟨m1, nx1, wm1⟩) hw hop hle' hcl) hev2
            | true =>
              rw [hal] at hev2
              obtain ⟨elem, he, hno⟩ := isAlloc_spec hal
              exact go 4 nx _ _ (.makes (h1 := ⟨m1, nx1, wm1⟩) hw he hno hop hle') hev2
          | false =>
            rw [hcl] at hev2
            simp only [cond_false, forceN_eq] at hev2
            exact go 2 wm1 _ _ (.writes (h1 := ⟨m1, nx1, wm1⟩) hw hop hle') hev2
      · rename_i c h1 hop
        obtain ⟨h2, h3⟩ := cond_some hev'
        cases h3
        rw [Bool.and_eq_true] at h2
        refine ⟨fun _ => env, fun _ => ⟨m, nx, wm⟩, fun _ => 0, fun _ => 0, i, Nat.le_refl _, rfl, rfl, fun t o h1 h2 => by omega, .inr ⟨by omega, o, c, h1, ho, hw, hop, ?_, ?_, rfl⟩⟩
        · rw [hks] at h2; exact h2.1
        · rw [hks] at h2; simpa using h2.2
      · cases hev'
structure Fx (P : Program) [Orc P] (run : Run) (kind : CallKind) (ds : List Deferred) (up : FrameMode) (ops : Array Oper) (n M : Nat) (E : Nat → T Value) (H : Nat → AH) (K D : Nat → Nat) (bs : List Nat) : Prop where
  tr : ∀ i o, i < M → ops[i]? = some o → TStep P run kind ds up ops.toList o (E i) (H i) (E (i + 1)) (H (i + 1)) (K i) (D i)
  le : M ≤ ops.size
  edge : ∀ i o, ops[i]? = some o → ∀ e ∈ o.after.toList, Region.binds .any e = true → e.on < i
  bef : ∀ i o, ops[i]? = some o → ∀ j, (bs.getD i 0).testBit j = true → ∃ e ∈ o.after.toList, Region.binds .any e = true ∧ (j = e.on ∨ (bs.getD e.on 0).testBit j = true)
  pair : ∀ i j oi oj, ops[i]? = some oi → ops[j]? = some oj → j < i → (bs.getD i 0).testBit j = true ∨ apartL ops.toList oj oi = true
  kd : ∀ j i, j < M → i < M → K j = 2 → K i ≠ 0 → i ≠ j → (bs.getD j 0).testBit i = true ∨ (bs.getD i 0).testBit j = true ∨ ((K i = 3 ∨ K i = 4) ∧ (D j).testBit (D i) = false)
  fit : ∀ (i : Nat) (o : Oper), ops[i]? = some o → fitsD n o.dst = true
section
variable {P : Program} [Orc P] [OrcOk P] {run : Run} {kind : CallKind} {ds : List Deferred} {up : FrameMode} {ops : Array Oper} {n M : Nat} {E : Nat → T Value} {H : Nat → AH} {K D : Nat → Nat} {bs : List Nat} (fx : Fx P run kind ds up ops n M E H K D bs)
include fx
theorem Fx.get {i : Nat} (hi : i < M) : ∃ o, ops[i]? = some o := ⟨ops[i]'(Nat.lt_of_lt_of_le hi fx.le), Array.getElem?_eq_getElem _⟩
theorem Fx.lt : ∀ i, i < ops.size → ∀ j, (bs.getD i 0).testBit j = true → j < i := by
  intro i
  induction i using Nat.strongRecOn with
  | ind i ih =>
    intro hi j hj
    have ho : ops[i]? = some (ops[i]) := Array.getElem?_eq_getElem hi
    obtain ⟨e, h1, h2, h3⟩ := fx.bef i _ ho j hj
    have h4 := fx.edge i _ ho e h1 h2
    rcases h3 with h3 | h3
    · omega
    · have := ih e.on h4 (by omega) j h3; omega
theorem Fx.step_nx {i : Nat} (hi : i < M) : (H i).nx ≤ (H (i + 1)).nx := by
  obtain ⟨o, ho⟩ := fx.get hi
  have := fx.tr i o hi ho
  generalize hE' : E (i + 1) = E' at this
  generalize hH' : H (i + 1) = H' at this
  generalize hK' : K i = K' at this
  generalize hD' : D i = D' at this
  cases this <;> first | exact Nat.le_refl _ | assumption
theorem Fx.nx_same {i : Nat} (hi : i < M) (hk : K i = 0 ∨ K i = 3) : (H (i + 1)).nx = (H i).nx := by
  obtain ⟨o, ho⟩ := fx.get hi
  have := fx.tr i o hi ho
  generalize hE' : E (i + 1) = E' at this
  generalize hH' : H (i + 1) = H' at this
  generalize hK' : K i = K' at this hk
  generalize hD' : D i = D' at this
  cases this <;> first | rfl | omega
theorem Fx.nx_makes {i : Nat} (hi : i < M) (hk : K i = 4) : D i = (H i).nx ∧ (H (i + 1)).nx = (H i).nx + 1 := by
  obtain ⟨o, ho⟩ := fx.get hi
  have := fx.tr i o hi ho
  generalize hE' : E (i + 1) = E' at this
  generalize hH' : H (i + 1) = H' at this
  generalize hK' : K i = K' at this hk
  generalize hD' : D i = D' at this
  cases this with
  | makes hw hop hno hev hle =>
    obtain ⟨l, _, _, h3⟩ := alloc_ev hop hno hev
    exact ⟨rfl, by show AH.nx _ = _; rw [h3]; exact AH.nx_push _ _⟩
  | _ => omega
theorem Fx.nx {i j : Nat} (hij : i ≤ j) (hj : j ≤ M) : (H i).nx ≤ (H j).nx := by
  induction j with
  | zero => have : i = 0 := by omega
            subst this; exact Nat.le_refl _
  | succ j ih =>
    by_cases h : i = j + 1
    · subst h; exact Nat.le_refl _
    · exact Nat.le_trans (ih (by omega) (by omega)) (fx.step_nx (by omega))
theorem Fx.step_get {i : Nat} (hi : i < M) (hk : K i ≠ 2) {b : Nat} (hb : b < (H i).nx) : (H (i + 1)).get b = (H i).get b ∧ (H (i + 1)).wm = (H i).wm := by
  obtain ⟨o, ho⟩ := fx.get hi
  have := fx.tr i o hi ho
  generalize hE' : E (i + 1) = E' at this
  generalize hH' : H (i + 1) = H' at this
  generalize hK' : K i = K' at this hk
  generalize hD' : D i = D' at this
  cases this with
  | skip => exact ⟨rfl, rfl⟩
  | blind => exact ⟨rfl, rfl⟩
  | reads => exact ⟨rfl, rfl⟩
  | adds hw hev hle hcl =>
    refine ⟨?_, rfl⟩
    rw [merge_get hle, if_neg (by omega)]
    rfl
  | makes hw hop hno hev hle =>
    refine ⟨?_, rfl⟩
    rw [merge_get hle, if_neg (by omega)]
    rfl
  | writes => exact absurd rfl hk
theorem Fx.step_getB {i : Nat} (hi : i < M) {b : Nat} (hk : K i = 2 → (D i).testBit b = false) (hb : b < (H i).nx) : (H (i + 1)).get b = (H i).get b := by
  by_cases h2 : K i = 2
  · have hd := hk h2
    obtain ⟨o, ho⟩ := fx.get hi
    have := fx.tr i o hi ho
    generalize hE' : E (i + 1) = E' at this
    generalize hH' : H (i + 1) = H' at this
    generalize hK' : K i = K' at this h2
    generalize hD' : D i = D' at this hd
    cases this with
    | skip => cases h2
    | blind => cases h2
    | reads => cases h2
    | adds => cases h2
    | makes => cases h2
    | writes hw hev hle =>
      rename_i v h1
      have hmb := mergeBits_get h1.m b (H i).nx (Nat.mod h1.wm (Nat.pow 2 (H i).nx)) (mergeNew h1.m h1.nx (H i).nx (H i).m) (Nat.mod_lt _ (Nat.two_pow_pos _))
      have hm : (Nat.mod h1.wm (Nat.pow 2 (H i).nx)).testBit b = (decide (b < (H i).nx) && h1.wm.testBit b) := Nat.testBit_mod_two_pow ..
      rw [hm, hd, Bool.and_false, if_neg (by simp)] at hmb
      show T.get (mergeBits _ _ _ _) b = _
      rw [hmb]
      have := merge_get (m1 := h1.m) (m := (H i).m) (nx1 := h1.nx) (nx := (H i).nx) (wm := 0) (c := b) hle
      rw [if_neg (by omega)] at this
      exact this
  · exact (fx.step_get hi h2 hb).1
theorem Fx.stayB {i j : Nat} (hij : i ≤ j) (hj : j ≤ M) {b : Nat} (hk : ∀ t, i ≤ t → t < j → K t = 2 → (D t).testBit b = false) (hb : b < (H i).nx) : (H j).get b = (H i).get b := by
  induction j with
  | zero => have : i = 0 := by omega
            subst this; rfl
  | succ j ih =>
    by_cases h : i = j + 1
    · subst h; rfl
    · have h1 := ih (by omega) (by omega) fun t ht ht' => hk t ht (by omega)
      have hlt : b < (H j).nx := Nat.lt_of_lt_of_le hb (fx.nx (i := i) (j := j) (by omega) (by omega))
      rw [fx.step_getB (i := j) (by omega) (hk j (by omega) (by omega)) hlt, h1]
theorem Fx.wr {i : Nat} (hi : i < M) {b : Nat} (hb : b < (H i).nx) (hw : (H (i + 1)).wm.testBit b = false) : (H i).wm.testBit b = false ∧ (H (i + 1)).get b = (H i).get b := by
  by_cases h2 : K i = 2
  · obtain ⟨o, ho⟩ := fx.get hi
    have hst := fx.tr i o hi ho
    have hwd : (H i).wm.testBit b = false ∧ (D i).testBit b = false := by
      generalize hE' : E (i + 1) = E' at hst
      generalize hH' : H (i + 1) = H' at hst hw
      generalize hK' : K i = K' at hst h2
      generalize hD' : D i = D' at hst
      cases hst with
      | skip => cases h2
      | blind => cases h2
      | reads => cases h2
      | adds => cases h2
      | makes => cases h2
      | writes hw' hev hle =>
        rename_i v h1
        have hw2 : ((H i).wm ||| h1.wm).testBit b = false := hw
        rw [Nat.testBit_or, Bool.or_eq_false_iff] at hw2
        exact hw2
    exact ⟨hwd.1, fx.step_getB hi (fun _ => hwd.2) hb⟩
  · obtain ⟨q1, q2⟩ := fx.step_get hi h2 hb
    rw [q2] at hw
    exact ⟨hw, q1⟩
theorem Fx.wrAll : ∀ c, c ≤ M → ∀ b, b < (H 0).nx → (H c).wm.testBit b = false → (H 0).wm.testBit b = false ∧ (H c).get b = (H 0).get b
  | 0, _, _, _, h => ⟨h, rfl⟩
  | c + 1, hc, b, hb, h => by
    have hlt : b < (H c).nx := Nat.lt_of_lt_of_le hb (fx.nx (i := 0) (by omega) (by omega))
    obtain ⟨h1, h2⟩ := fx.wr (i := c) (by omega) hlt h
    obtain ⟨h3, h4⟩ := Fx.wrAll c (by omega) b hb h1
    exact ⟨h3, h2.trans h4⟩
theorem Fx.stay {i j : Nat} (hij : i ≤ j) (hj : j ≤ M) (hk : ∀ t, i ≤ t → t < j → K t ≠ 2) {b : Nat} (hb : b < (H i).nx) : (H j).get b = (H i).get b ∧ (H j).wm = (H i).wm := by
  induction j with
  | zero => have : i = 0 := by omega
            subst this; exact ⟨rfl, rfl⟩
  | succ j ih =>
    by_cases h : i = j + 1
    · subst h; exact ⟨rfl, rfl⟩
    · obtain ⟨h1, h2⟩ := ih (by omega) (by omega) fun t ht ht' => hk t ht (by omega)
      have hlt : b < (H j).nx := Nat.lt_of_lt_of_le hb (fx.nx (i := i) (j := j) (by omega) (by omega))
      obtain ⟨h3, h4⟩ := fx.step_get (i := j) (by omega) (hk j (by omega) (by omega)) hlt
      exact ⟨h3.trans h1, h4.trans h2⟩
theorem Fx.step_env {i : Nat} (hi : i < M) {o : Oper} (ho : ops[i]? = some o) {t : Nat} (ht : o.dst ≠ some t) : (E (i + 1)).get t = (E i).get t := by
  have hset : ∀ v, (setE (E i) o.dst v).get t = (E i).get t := by
    intro v
    unfold setE
    split
    · rename_i d hd
      rw [T.get_set, if_neg]
      intro hh; subst hh; exact ht hd
    · rfl
  have := fx.tr i o hi ho
  generalize hE' : E (i + 1) = E' at this
  generalize hH' : H (i + 1) = H' at this
  generalize hK' : K i = K' at this
  generalize hD' : D i = D' at this
  cases this <;> exact hset _
theorem Fx.env {i j : Nat} (hij : i ≤ j) (hj : j ≤ M) {t : Nat} (hk : ∀ (s : Nat) (o : Oper), i ≤ s → s < j → ops[s]? = some o → o.dst ≠ some t) : (E j).get t = (E i).get t := by
  induction j with
  | zero => have : i = 0 := by omega
            subst this; rfl
  | succ j ih =>
    by_cases h : i = j + 1
    · subst h; rfl
    · have h1 := ih (by omega) (by omega) fun s o hs hs' => hk s o hs (by omega)
      obtain ⟨o, ho⟩ := fx.get (i := j) (by omega)
      rw [fx.step_env (i := j) (by omega) ho (hk j o (by omega) (by omega) ho), h1]
end
end Go.Proofs.Ytaloembfekdkoaa.Ev
namespace Go.Proofs.Ytaloembfekdkoaa.Ev
set_option linter.unusedVariables false
set_option linter.unusedSimpArgs false
set_option linter.unusedSectionVars false
set_option linter.unusedSectionVars false
variable [Val]
def Agr (K D : Nat → Nat) (M : Nat) (L : Nat → Prop) (c b : Nat) : Prop := ∀ j, j < M → K j = 2 → (D j).testBit b = true → (L j ↔ j < c)
structure Inv (P : Program) (ops : Array Oper) (n M : Nat) (E : Nat → T Value) (H : Nat → AH) (K D : Nat → Nat) (bs : List Nat) (σ0 : Sg) (w0 : World) (L : Nat → Prop) (σ : Sg) (tm : Array Value) (w : World) : Prop where
  low : ∀ j, L j → j < M
  clo : ∀ j, L j → ∀ i, (bs.getD j 0).testBit i = true → L i
  tsz : tm.size = n
  slot : ∀ (t c : Nat), c ≤ M → (∀ (j : Nat) (o : Oper), j < M → ops[j]? = some o → o.dst = some t → (L j ↔ j < c)) → ∀ v, (E c).get t = some v → ∃ v', tm[t]? = some v' ∧ VR (cutS σ (H c).nx) v v'
  memB : ∀ c b e, c ≤ M → Agr K D M L c b → σ b = some e → b < (H c).nx → ∃ a, (H c).get b = some a ∧ (a = .dead ∨ ∃ o, w.heap[e.blk]? = some o ∧ okObj P (cutS σ (H c).nx) e a o)
  injB : ∀ c c' b b' e f, c ≤ M → c' ≤ M → Agr K D M L c b → Agr K D M L c' b' → b < (H c).nx → b' < (H c').nx → σ b = some e → σ b' = some f → e.blk = f.blk → (H c).get b ≠ some .dead → (H c').get b' ≠ some .dead → b = b'
  dom : ∀ b e, σ b = some e → b < (H 0).nx ∨ ∃ j, L j ∧ (H j).nx ≤ b ∧ b < (H (j + 1)).nx
  old : ∀ b e, σ0 b = some e → b < (H 0).nx
  sub : σ0.sub σ
  new : ∀ b e, σ b = some e → σ0 b = some e ∨ ((H 0).nx ≤ b ∧ (w0.heap.size ≤ e.blk ∨ ∃ c f, σ0 c = some f ∧ f.blk = e.blk ∧ (H 0).get c ≠ some .dead))
  size : w0.heap.size ≤ w.heap.size
  frame : ∀ k, k < w0.heap.size → Loose σ0 (H 0) k → w.heap[k]? = w0.heap[k]?
  same : Same w0 w
  lay0 : Lay σ0 w0
  dead : ∀ j, L j → K j = 2 → ∀ b, b < (H j).nx → (H j).get b = some .dead → (H (j + 1)).get b = some .dead
theorem Inv.lay {P : Program} {ops : Array Oper} {n M : Nat} {E : Nat → T Value} {H : Nat → AH} {K D : Nat → Nat} {bs : List Nat} {σ0 : Sg} {w0 : World} {L : Nat → Prop} {σ : Sg} {tm : Array Value} {w : World}
    (iv : Inv P ops n M E H K D bs σ0 w0 L σ tm w) : Lay σ w := fun g o hg => by
  obtain ⟨h1, h2⟩ := iv.lay0 g o hg
  have hlt := (Array.getElem?_eq_some_iff.1 h1).1
  refine ⟨(iv.frame g hlt fun b e hb hh => absurd hh (h2 b e hb)).trans h1, fun b e hb => ?_⟩
  rcases iv.new b e hb with h3 | ⟨_, h3 | ⟨c, f, hc, hf, _⟩⟩
  · exact h2 b e h3
  · omega
  · rw [← hf]; exact h2 c f hc
theorem Lay.cut {σ : Sg} {w : World} (h : Lay σ w) (n : Nat) : Lay (cutS σ n) w := fun g o hg => ⟨(h g o hg).1, fun b e hb => (h g o hg).2 b e (cutS_some.1 hb).2⟩
theorem HR.wm {P : Program} [Orc P] [OrcOk P] {σ : Sg} {h h1 : AH} {w : World} (hr : HR P σ h w) (hm : h1.m = h.m) (hn : h1.nx = h.nx) : HR P σ h1 w := by
  obtain ⟨m, nx, wm⟩ := h
  obtain ⟨m1, nx1, wm1⟩ := h1
  simp only at hm hn
  subst hm hn
  exact ⟨hr.live, hr.inj, hr.lay⟩
section
variable {P : Program} [Orc P] [OrcOk P] {run : Run} {kind : CallKind} {ds : List Deferred} {up : FrameMode} {ops : Array Oper} {n M : Nat} {E : Nat → T Value} {H : Nat → AH} {K D : Nat → Nat} {bs : List Nat} (fx : Fx P run kind ds up ops n M E H K D bs)
variable {σ0 : Sg} {w0 : World} {L : Nat → Prop} {σ : Sg} {tm : Array Value} {w : World} (iv : Inv P ops n M E H K D bs σ0 w0 L σ tm w)
variable {i : Nat} (hi : i < M) (hn : ¬ L i) (hrd : ∀ j, (bs.getD i 0).testBit j = true → L j)
include fx iv in
theorem Inv.behind {j : Nat} (hj : L j) {i : Nat} (hn : ¬ L i) {oi oj : Oper} (hoi : ops[i]? = some oi) (hoj : ops[j]? = some oj) (hij : i < j) : apartL ops.toList oi oj = true := by
  rcases fx.pair j i oj oi hoj hoi hij with h | h
  · exact absurd (iv.clo j hj i h) hn
  · exact h
include fx iv hn hrd in
theorem Inv.agreeT {oi : Oper} (hoi : ops[i]? = some oi) {t : Nat} (ht : t ∈ looks ops.toList oi) (j : Nat) (o : Oper) (_hj : j < M) (ho : ops[j]? = some o) (hd : o.dst = some t) : L j ↔ j < i := by
  rcases Nat.lt_trichotomy j i with h | h | h
  · refine ⟨fun _ => h, fun _ => ?_⟩
    rcases fx.pair i j oi o hoi ho h with h1 | h1
    · exact hrd j h1
    · exact absurd ht ((apart_spec h1).1 t hd).1
  · subst h; exact ⟨fun h => absurd h hn, fun h => by omega⟩
  · refine ⟨fun hl => ?_, fun h => by omega⟩
    exact absurd ht ((apart_spec (iv.behind fx hl hn hoi ho h)).2 t hd)
include iv in
theorem Inv.full {c : Nat} (hc : c ≤ M) (hag : ∀ j, j < M → K j = 2 → (L j ↔ j < c)) : HR P (cutS σ (H c).nx) (H c) w := by
  have hA : ∀ b, Agr K D M L c b := fun b j hj hk _ => hag j hj hk
  constructor
  · intro b e hb
    obtain ⟨h1, h2⟩ := cutS_some.1 hb
    exact ⟨h1, iv.memB c b e hc (hA b) h2 h1⟩
  · intro b d e f hb hd hef h1 h2
    obtain ⟨b1, b2⟩ := cutS_some.1 hb
    obtain ⟨d1, d2⟩ := cutS_some.1 hd
    exact iv.injB c c b d e f hc hc (hA b) (hA d) b1 d1 b2 d2 hef h1 h2
  · exact iv.lay.cut _
include fx iv hi hn hrd in
theorem Inv.agreeW (hk : K i ≠ 0) (hk3 : K i ≠ 3) (hk4 : K i ≠ 4) (j : Nat) (hj : j < M) (hkj : K j = 2) : L j ↔ j < i := by
  rcases Nat.lt_trichotomy j i with h | h | h
  · refine ⟨fun _ => h, fun _ => ?_⟩
    rcases fx.kd j i hj hi hkj hk (by omega) with h1 | h1 | h1
    · have := fx.lt j (Nat.lt_of_lt_of_le hj fx.le) i h1; omega
    · exact hrd j h1
    · rcases h1.1 with h2 | h2 <;> contradiction
  · subst h; exact ⟨fun h => absurd h hn, fun h => by omega⟩
  · refine ⟨fun hl => ?_, fun h => by omega⟩
    rcases fx.kd j i hj hi hkj hk (by omega) with h1 | h1 | h1
    · exact absurd (iv.clo j hl i h1) hn
    · have := fx.lt i (Nat.lt_of_lt_of_le hi fx.le) j h1; omega
    · rcases h1.1 with h2 | h2 <;> contradiction
include fx iv hi hn hrd in
theorem Inv.agreeR (hk3 : K i = 3) : Agr K D M L i (D i) := by
  intro j hj hkj hd
  rcases Nat.lt_trichotomy j i with h | h | h
  · refine ⟨fun _ => h, fun _ => ?_⟩
    rcases fx.kd j i hj hi hkj (by omega) (by omega) with h1 | h1 | h1
    · have := fx.lt j (Nat.lt_of_lt_of_le hj fx.le) i h1; omega
    · exact hrd j h1
    · rw [h1.2] at hd; cases hd
  · subst h; omega
  · refine ⟨fun hl => ?_, fun h => by omega⟩
    rcases fx.kd j i hj hi hkj (by omega) (by omega) with h1 | h1 | h1
    · exact absurd (iv.clo j hl i h1) hn
    · have := fx.lt i (Nat.lt_of_lt_of_le hi fx.le) j h1; omega
    · rw [h1.2] at hd; cases hd
include fx iv hn hrd in
theorem Inv.slots (hi : i ≤ M) {oi : Oper} (hoi : ops[i]? = some oi) : ER (cutS σ (H i).nx) (keep (E i) (looks ops.toList oi)) n [] tm := by
  refine ⟨iv.tsz, fun t v _ hv => ?_⟩
  rw [keep_get] at hv
  by_cases ht : t ∈ looks ops.toList oi
  · rw [if_pos ht] at hv
    exact iv.slot t i hi (fun j o hj ho hd => iv.agreeT fx hn hrd hoi ht j o hj ho hd) v hv
  · rw [if_neg ht] at hv; cases hv
include fx iv in
theorem Inv.deadAll : ∀ c, c ≤ M → (∀ j, j < c → K j = 2 → L j) → ∀ b, b < (H 0).nx → (H 0).get b = some .dead → (H c).get b = some .dead
  | 0, _, _, _, _, h => h
  | c + 1, hc, hl, b, hb, h => by
    have ih := Inv.deadAll c (by omega) (fun j hj => hl j (by omega)) b hb h
    have hlt : b < (H c).nx := Nat.lt_of_lt_of_le hb (fx.nx (i := 0) (by omega) (by omega))
    by_cases hk : K c = 2
    · exact iv.dead c (hl c (by omega) hk) hk b hlt ih
    · rw [(fx.step_get (i := c) (by omega) hk hlt).1]; exact ih
include fx iv hi hn in
theorem Inv.slot' {oi : Oper} (hoi : ops[i]? = some oi) {σ' : Sg} (hs : σ.sub σ') {v v' : Value} (hE : E (i + 1) = setE (E i) oi.dst v) (hv : VR (cutS σ' (H (i + 1)).nx) v v') :
    ∀ (t c : Nat), c ≤ M → (∀ (j : Nat) (o : Oper), j < M → ops[j]? = some o → o.dst = some t → ((L j ∨ j = i) ↔ j < c)) → ∀ u, (E c).get t = some u → ∃ u', (putT tm oi.dst v')[t]? = some u' ∧ VR (cutS σ' (H c).nx) u u' := by
  intro t c hc hag u hu
  have hfit := fx.fit i oi hoi
  by_cases hd : oi.dst = some t
  · have hic : i < c := (hag i oi hi hoi hd).1 (.inr rfl)
    have hst : (E c).get t = (E (i + 1)).get t := fx.env (i := i + 1) (by omega) hc fun s o hs1 hs2 ho hdo => by
      rcases (hag s o (by omega) ho hdo).2 hs2 with h1 | h1
      · exact ((apart_spec (iv.behind fx h1 hn hoi ho (by omega))).1 t hd).2 hdo
      · omega
    rw [hst, hE, hd] at hu
    simp only [setE, T.get_set, if_true] at hu
    cases hu
    refine ⟨v', ?_, hv.mono (cutS_mono _ (fx.nx (i := i + 1) (by omega) hc))⟩
    rw [hd] at hfit ⊢
    have hlt : t < n := blt_true hfit
    simp [putT, iv.tsz, hlt]
  · obtain ⟨u', h1, h2⟩ := iv.slot t c hc (fun j o hj ho hdo => by
      rw [← hag j o hj ho hdo]
      refine ⟨.inl, fun h => ?_⟩
      rcases h with h | h
      · exact h
      · subst h; rw [hoi] at ho; cases ho; exact absurd hdo hd) u hu
    refine ⟨u', ?_, h2.mono (cutS_mono2 hs _)⟩
    unfold putT
    split
    · rename_i d hdd
      rw [Array.getElem?_setIfInBounds_ne]
      · exact h1
      · intro hh; subst hh; exact hd hdd
    · exact h1
include iv hi hrd in
theorem Inv.low' (j : Nat) (h : L j ∨ j = i) : j < M := by
  rcases h with h | h
  · exact iv.low j h
  · omega
include iv hi hrd in
theorem Inv.clo' (j : Nat) (h : L j ∨ j = i) (t : Nat) (ht : (bs.getD j 0).testBit t = true) : L t ∨ t = i := by
  rcases h with h | h
  · exact .inl (iv.clo j h t ht)
  · subst h; exact .inl (hrd t ht)
include fx iv hi hn hrd in
theorem Inv.quiet {oi : Oper} (hoi : ops[i]? = some oi) {v v' : Value} (hE : E (i + 1) = setE (E i) oi.dst v) (hH : H (i + 1) = H i) (hK : K i ≠ 2) (hv : VR (cutS σ (H i).nx) v v') {w1 : World}
    (hsz : w.heap.size ≤ w1.heap.size) (hh : ∀ k, k < w.heap.size → w1.heap[k]? = w.heap[k]?) (hsm : Same w w1) : Inv P ops n M E H K D bs σ0 w0 (fun j => L j ∨ j = i) σ (putT tm oi.dst v') w1 where
  low := iv.low' hi hrd
  clo := iv.clo' hi hrd
  tsz := by unfold putT; split <;> simp [iv.tsz]
  slot := iv.slot' fx hi hn hoi (.refl _) hE (by rw [hH]; exact hv)
  memB := fun c b e hc hag hb hlt => by
    have hag' : Agr K D M L c b := fun j hj hk hd => by
      rw [← hag j hj hk hd]
      refine ⟨.inl, fun h => ?_⟩
      rcases h with h | h
      · exact h
      · subst h; exact absurd hk hK
    obtain ⟨a, h1, h2⟩ := iv.memB c b e hc hag' hb hlt
    refine ⟨a, h1, ?_⟩
    rcases h2 with h2 | ⟨o, h2, h3⟩
    · exact .inl h2
    · exact .inr ⟨o, by rw [hh _ (Array.getElem?_eq_some_iff.1 h2).1]; exact h2, h3⟩
  injB := fun c c' b b' e f hc hc' hag hag' => by
    have conv : ∀ {c b}, Agr K D M (fun j => L j ∨ j = i) c b → Agr K D M L c b := fun hag j hj hk hd => by
      rw [← hag j hj hk hd]
      refine ⟨.inl, fun h => ?_⟩
      rcases h with h | h
      · exact h
      · subst h; exact absurd hk hK
    exact iv.injB c c' b b' e f hc hc' (conv hag) (conv hag')
  dom := fun b e hb => by
    rcases iv.dom b e hb with h | ⟨j, h1, h2⟩
    · exact .inl h
    · exact .inr ⟨j, .inl h1, h2⟩
  old := iv.old
  sub := iv.sub
  new := iv.new
  size := Nat.le_trans iv.size hsz
  frame := fun k hk hl => by rw [hh k (Nat.lt_of_lt_of_le hk iv.size), iv.frame k hk hl]
  same := iv.same.trans hsm
  lay0 := iv.lay0
  dead := fun j hj hk => by
    rcases hj with hj | hj
    · exact iv.dead j hj hk
    · subst hj; exact absurd hk hK
end
end Go.Proofs.Ytaloembfekdkoaa.Ev
namespace Go.Proofs.Ytaloembfekdkoaa.Ev
set_option linter.unusedVariables false
set_option linter.unusedSimpArgs false
set_option linter.unusedSectionVars false
set_option linter.unusedSectionVars false
variable [Val]
def glue (σ σ1 : Sg) (a b : Nat) : Sg := fun x => if a ≤ x ∧ x < b then σ1 x else σ x
section
variable {P : Program} [Orc P] [OrcOk P] {run : Run} {kind : CallKind} {ds : List Deferred} {up : FrameMode} {ops : Array Oper} {n M : Nat} {E : Nat → T Value} {H : Nat → AH} {K D : Nat → Nat} {bs : List Nat} (fx : Fx P run kind ds up ops n M E H K D bs)
variable {σ0 : Sg} {w0 : World} {L : Nat → Prop} {σ : Sg} {tm : Array Value} {w : World} (iv : Inv P ops n M E H K D bs σ0 w0 L σ tm w)
variable {i : Nat} (hi : i < M) (hn : ¬ L i) (hrd : ∀ j, (bs.getD i 0).testBit j = true → L j)
include fx iv in
theorem Inv.loose {c : Nat} (hc : c ≤ M) (hl : ∀ j, j < c → K j = 2 → L j) {k : Nat} (hk : k < w0.heap.size) (h : Loose σ0 (H 0) k) : Loose (cutS σ (H c).nx) (H c) k := by
  intro b e hb he
  obtain ⟨_, hb⟩ := cutS_some.1 hb
  rcases iv.new b e hb with h1 | ⟨_, h1⟩
  · exact iv.deadAll fx c hc hl b (iv.old b e h1) (h b e h1 he)
  · rcases h1 with h1 | ⟨c', f, h2, h3, h4⟩
    · omega
    · exact absurd (h c' f h2 (by rw [h3, he])) h4
include fx iv in
theorem Inv.new' {c : Nat} (hc : c ≤ M) (hl : ∀ j, j < c → K j = 2 → L j) {σ1 : Sg} {h1 : AH} {w1 : World} (x : Ext P (cutS σ (H c).nx) ⟨(H c).m, (H c).nx, 0⟩ w σ1 h1 w1) {b : Nat} {e : Ent} (hb : σ1 b = some e) :
    σ0 b = some e ∨ ((H 0).nx ≤ b ∧ (w0.heap.size ≤ e.blk ∨ ∃ c f, σ0 c = some f ∧ f.blk = e.blk ∧ (H 0).get c ≠ some .dead)) := by
  rcases x.new b e hb with h2 | ⟨h2, h3⟩
  · exact iv.new b e (cutS_some.1 h2).2
  · refine .inr ⟨Nat.le_trans (fx.nx (i := 0) (by omega) hc) h2, ?_⟩
    rcases h3 with h3 | ⟨c', f, h4, h5, h6⟩
    · exact .inl (Nat.le_trans iv.size h3)
    · rcases iv.new c' f (cutS_some.1 h4).2 with h7 | ⟨_, h7⟩
      · exact .inr ⟨c', f, h7, h5, fun hd => h6 (iv.deadAll fx c hc hl c' (iv.old c' f h7) hd)⟩
      · rcases h7 with h7 | ⟨c2, f2, h8, h9, h10⟩
        · exact .inl (by rw [← h5]; exact h7)
        · exact .inr ⟨c2, f2, h8, by rw [h9, h5], h10⟩
include fx iv in
theorem Inv.frame' {c : Nat} (hc : c ≤ M) (hl : ∀ j, j < c → K j = 2 → L j) {σ1 : Sg} {h1 : AH} {w1 : World} (x : Ext P (cutS σ (H c).nx) ⟨(H c).m, (H c).nx, 0⟩ w σ1 h1 w1) (k : Nat) (hk : k < w0.heap.size) (h : Loose σ0 (H 0) k) : w1.heap[k]? = w0.heap[k]? := by
  rw [x.frame k (Nat.lt_of_lt_of_le hk iv.size) (iv.loose fx hc hl hk h), iv.frame k hk h]
include fx iv hn in
theorem Inv.apart (hi : i < M) {b : Nat} {e : Ent} (hb : σ b = some e) : b < (H i).nx ∨ ((H (i + 1)).nx ≤ b ∧ ∃ j, i < j ∧ L j ∧ (H j).nx ≤ b ∧ b < (H (j + 1)).nx) := by
  rcases iv.dom b e hb with h | ⟨j, h1, h2, h3⟩
  · exact .inl (Nat.lt_of_lt_of_le h (fx.nx (i := 0) (by omega) (by omega)))
  · have hj := iv.low j h1
    rcases Nat.lt_trichotomy j i with h | h | h
    · exact .inl (Nat.lt_of_lt_of_le h3 (fx.nx (i := j + 1) (by omega) (by omega)))
    · subst h; exact absurd h1 hn
    · exact .inr ⟨Nat.le_trans (fx.nx (i := i + 1) (j := j) (by omega) (by omega)) h2, j, h, h1, h2, h3⟩
theorem clean_bit {nx : Nat} {h : AH} (hc : clean nx h = true) {b : Nat} (hb : b < nx) : h.wm.testBit b = false := by
  have h1 : h.wm % 2 ^ nx = 0 := Nat.eq_of_beq_eq_true hc
  have h2 : (h.wm % 2 ^ nx).testBit b = (decide (b < nx) && h.wm.testBit b) := Nat.testBit_mod_two_pow ..
  rw [h1] at h2
  simpa [hb] using h2.symm
include fx iv hi hn hrd in
theorem Inv.adds {oi : Oper} (hoi : ops[i]? = some oi) {v v' : Value} (hE : E (i + 1) = setE (E i) oi.dst v) {h1 : AH} (hH : H (i + 1) = ⟨mergeNew h1.m h1.nx (H i).nx (H i).m, h1.nx, (H i).wm⟩) (hle : (H i).nx ≤ h1.nx) (hcl : clean (H i).nx h1 = true) (hK : K i = 1)
    {σ1 : Sg} {w1 : World} (x : Ext P (cutS σ (H i).nx) ⟨(H i).m, (H i).nx, 0⟩ w σ1 h1 w1) (hv : VR σ1 v v') : Inv P ops n M E H K D bs σ0 w0 (fun j => L j ∨ j = i) (glue σ σ1 (H i).nx h1.nx) (putT tm oi.dst v') w1 := by
  have hW := iv.agreeW fx hi hn hrd (by omega) (by omega) (by omega)
  have hWl : ∀ j, j < i → K j = 2 → L j := fun j hj hk => (hW j (by omega) hk).2 hj
  have hWA : ∀ b, Agr K D M L i b := fun b j hj hk _ => hW j hj hk
  have hnx1 : (H (i + 1)).nx = h1.nx := by rw [hH]
  have hap := fun {b : Nat} {e : Ent} (hb : σ b = some e) => iv.apart fx hn hi hb
  have hgs : σ.sub (glue σ σ1 (H i).nx h1.nx) := by
    intro b e hb
    unfold glue
    rw [if_neg]
    · exact hb
    · intro hh
      rcases hap hb with h | ⟨h, _⟩ <;> omega
  have h1s : σ1.sub (cutS (glue σ σ1 (H i).nx h1.nx) h1.nx) := by
    intro b e hb
    rcases x.new b e hb with h | ⟨h, _⟩
    · obtain ⟨h2, h3⟩ := cutS_some.1 h
      exact cutS_some.2 ⟨by omega, hgs _ _ h3⟩
    · have h2 := (x.hr.live b e hb).1
      refine cutS_some.2 ⟨h2, ?_⟩
      unfold glue
      rw [if_pos ⟨h, h2⟩]
      exact hb
  have hold : ∀ b, b < (H i).nx → h1.get b = (H i).get b := fun b hb => (x.wr b hb (clean_bit hcl hb)).2
  have hnew : ∀ b e, (H i).nx ≤ b → σ1 b = some e → (H (i + 1)).get b = h1.get b := by
    intro b e hb he
    obtain ⟨h2, a, h3, _⟩ := x.hr.live b e he
    rw [hH, merge_get hle, if_pos ⟨hb, h2⟩]
    have h4 : h1.m.get b = some a := h3
    rw [h4]
    exact h3.symm
  have conv : ∀ {c b}, Agr K D M (fun j => L j ∨ j = i) c b → Agr K D M L c b := fun hag j hj hk hd => by
    rw [← hag j hj hk hd]
    refine ⟨.inl, fun h => ?_⟩
    rcases h with h | h
    · exact h
    · subst h; omega
  have hci : ∀ {c b}, c ≤ M → Agr K D M L c b → b < (H i).nx → b < (H c).nx → (H c).get b = (H i).get b := by
    intro c b hc hag hb hb2
    have hno : ∀ t, t < M → (i ≤ t ∧ t < c) ∨ (c ≤ t ∧ t < i) → K t = 2 → (D t).testBit b = false := by
      intro t ht h hk
      cases hd : (D t).testBit b with
      | false => rfl
      | true =>
        have a1 := hag t ht hk hd
        have a2 := hW t ht hk
        rcases h with h | h
        · exact absurd (a2.1 (a1.2 h.2)) (by omega)
        · exact absurd (a1.1 (a2.2 h.2)) (by omega)
    by_cases h : i ≤ c
    · exact fx.stayB h hc (fun t h2 h3 => hno t (by omega) (.inl ⟨h2, h3⟩)) hb
    · exact (fx.stayB (i := c) (j := i) (by omega) (by omega) (fun t h2 h3 => hno t (by omega) (.inr ⟨h2, h3⟩)) hb2).symm
  have hcn : ∀ {c b e}, c ≤ M → Agr K D M L c b → i < c → (H i).nx ≤ b → σ1 b = some e → (H c).get b = h1.get b := by
    intro c b e hc hag h hb he
    rw [← hnew b e hb he]
    refine fx.stayB (i := i + 1) (j := c) (by omega) hc (fun t h2 h3 hk => ?_) (by rw [hnx1]; exact (x.hr.live b e he).1)
    cases hd : (D t).testBit b with
    | false => rfl
    | true =>
      have a1 := (hag t (by omega) hk hd).2 h3
      rcases fx.kd t i (by omega) hi hk (by omega) (by omega) with q | q | q
      · exact absurd (iv.clo t a1 i q) hn
      · have := fx.lt i (Nat.lt_of_lt_of_le hi fx.le) t q; omega
      · omega
  have hbig : ∀ {c b}, c ≤ M → (H i).nx ≤ b → b < (H c).nx → i < c := by
    intro c b hc h2 h3
    by_cases h : i < c
    · exact h
    · have := fx.nx (i := c) (j := i) (by omega) (by omega); omega
  have hglue : ∀ {c b e}, c ≤ M → b < (H c).nx → glue σ σ1 (H i).nx h1.nx b = some e → ((H i).nx ≤ b ∧ b < h1.nx ∧ σ1 b = some e ∧ i < c) ∨ (σ b = some e ∧ (b < (H i).nx ∨ h1.nx ≤ b)) := by
    intro c b e hc h2 h3
    unfold glue at h3
    by_cases h : (H i).nx ≤ b ∧ b < h1.nx
    · rw [if_pos h] at h3
      exact .inl ⟨h.1, h.2, h3, hbig hc h.1 h2⟩
    · rw [if_neg h] at h3
      exact .inr ⟨h3, by omega⟩
  have hsubc : ∀ {c}, c ≤ M → i < c → σ1.sub (cutS (glue σ σ1 (H i).nx h1.nx) (H c).nx) := fun hc h => h1s.trans (cutS_mono _ (by rw [← hnx1]; exact fx.nx (by omega) hc))
  refine ⟨iv.low' hi hrd, iv.clo' hi hrd, by unfold putT; split <;> simp [iv.tsz], iv.slot' fx hi hn hoi hgs hE (by rw [hnx1]; exact hv.mono h1s), ?_, ?_, ?_, iv.old, iv.sub.trans hgs, ?_, Nat.le_trans iv.size x.size, iv.frame' fx (by omega) hWl x, iv.same.trans x.same, iv.lay0, ?_⟩
  · intro c b e hc hag0 hb hbc
    have hag := conv hag0
    rcases hglue hc hbc hb with ⟨h2, h3, h4, h5⟩ | ⟨h2, h3⟩
    · obtain ⟨_, a, q1, q2⟩ := x.hr.live b e h4
      refine ⟨a, by rw [hcn hc hag h5 h2 h4]; exact q1, ?_⟩
      rcases q2 with q2 | ⟨o, q2, q3⟩
      · exact .inl q2
      · exact .inr ⟨o, q2, q3.mono (hsubc hc h5)⟩
    · obtain ⟨a, q1, q2⟩ := iv.memB c b e hc hag h2 hbc
      refine ⟨a, q1, ?_⟩
      rcases q2 with q2 | ⟨o, q2, q3⟩
      · exact .inl q2
      · by_cases hlt : b < (H i).nx
        · have hb1 : cutS σ (H i).nx b = some e := cutS_some.2 ⟨hlt, h2⟩
          obtain ⟨_, a', r1, r2⟩ := x.hr.live b e (x.sub _ _ hb1)
          rw [hold b hlt, ← hci hc hag hlt hbc, q1] at r1
          cases r1
          rcases r2 with r2 | ⟨o', r2, r3⟩
          · exact .inl r2
          · refine .inr ⟨o', r2, ?_⟩
            by_cases h : i < c
            · exact r3.mono (hsubc hc h)
            · have hsub : (cutS σ (H c).nx).sub σ1 := (cutS_mono _ (fx.nx (i := c) (j := i) (by omega) (by omega))).trans x.sub
              exact (q3.cut hsub r3).mono (cutS_mono2 hgs _)
        · by_cases had : a = .dead
          · exact .inl had
          · refine .inr ⟨o, ?_, q3.mono (cutS_mono2 hgs _)⟩
            rw [x.frame e.blk (Array.getElem?_eq_some_iff.1 q2).1 ?_]
            · exact q2
            · intro b' f hb' hf
              obtain ⟨s1, s2⟩ := cutS_some.1 hb'
              by_cases hd : (H i).get b' = some .dead
              · exact hd
              · have := iv.injB c i b b' e f hc (by omega) hag (hWA b') hbc s1 h2 s2 hf.symm (by rw [q1]; intro hh; cases hh; exact had rfl) hd
                omega
  · intro c c' b d e f hc hc' hag0 hag0' hbc hdc hb hd hef hbd hdd
    have hag := conv hag0
    have hag' := conv hag0'
    have key : ∀ c c' b d e f, c ≤ M → c' ≤ M → Agr K D M L c b → Agr K D M L c' d → b < (H c).nx → d < (H c').nx → (H i).nx ≤ b → σ1 b = some e → i < c → σ d = some f → (d < (H i).nx ∨ h1.nx ≤ d) → e.blk = f.blk → (H c).get b ≠ some .dead → (H c').get d ≠ some .dead → b = d := by
      intro c c' b d e f hc hc' hag hag' hbc hdc h2 h4 h5 k2 k3 hef hbd hdd
      by_cases hlt : d < (H i).nx
      · refine x.hr.inj b d e f h4 (x.sub _ _ (cutS_some.2 ⟨hlt, k2⟩)) hef (by rw [← hcn hc hag h5 h2 h4]; exact hbd) ?_
        rw [hold d hlt, ← hci hc' hag' hlt hdc]; exact hdd
      · obtain ⟨a, q1, q2⟩ := iv.memB c' d f hc' hag' k2 hdc
        rcases q2 with q2 | ⟨o, q2, _⟩
        · subst q2; exact absurd q1 hdd
        · have hsz := (Array.getElem?_eq_some_iff.1 q2).1
          rcases x.new b e h4 with h | ⟨_, h⟩
          · have := (cutS_some.1 h).1; omega
          · rcases h with h | ⟨c2, f', r1, r2, r3⟩
            · rw [hef] at h; omega
            · obtain ⟨s1, s2⟩ := cutS_some.1 r1
              have := iv.injB i c' c2 d f' f (by omega) hc' (hWA c2) hag' s1 hdc s2 k2 (by rw [r2, hef]) r3 hdd
              omega
    rcases hglue hc hbc hb with ⟨h2, h3, h4, h5⟩ | ⟨h2, h3⟩
    · rcases hglue hc' hdc hd with ⟨k2, k3, k4, k5⟩ | ⟨k2, k3⟩
      · exact x.hr.inj b d e f h4 k4 hef (by rw [← hcn hc hag h5 h2 h4]; exact hbd) (by rw [← hcn hc' hag' k5 k2 k4]; exact hdd)
      · exact key c c' b d e f hc hc' hag hag' hbc hdc h2 h4 h5 k2 k3 hef hbd hdd
    · rcases hglue hc' hdc hd with ⟨k2, k3, k4, k5⟩ | ⟨k2, k3⟩
      · exact (key c' c d b f e hc' hc hag' hag hdc hbc k2 k4 k5 h2 h3 hef.symm hdd hbd).symm
      · exact iv.injB c c' b d e f hc hc' hag hag' hbc hdc h2 k2 hef hbd hdd
  · intro b e hb
    unfold glue at hb
    by_cases h : (H i).nx ≤ b ∧ b < h1.nx
    · exact .inr ⟨i, .inr rfl, h.1, by rw [hnx1]; exact h.2⟩
    · rw [if_neg h] at hb
      rcases iv.dom b e hb with h2 | ⟨j, h2, h3⟩
      · exact .inl h2
      · exact .inr ⟨j, .inl h2, h3⟩
  · intro b e hb
    unfold glue at hb
    by_cases h : (H i).nx ≤ b ∧ b < h1.nx
    · rw [if_pos h] at hb
      exact iv.new' fx (by omega) hWl x hb
    · rw [if_neg h] at hb
      exact iv.new b e hb
  · intro j hj hk
    rcases hj with hj | hj
    · exact iv.dead j hj hk
    · subst hj; omega
include fx iv hi hn hrd in
theorem Inv.writes {oi : Oper} (hoi : ops[i]? = some oi) {v v' : Value} (hE : E (i + 1) = setE (E i) oi.dst v) {h1 : AH}
    (hH : H (i + 1) = ⟨mergeBits h1.m (H i).nx (Nat.mod h1.wm (Nat.pow 2 (H i).nx)) (mergeNew h1.m h1.nx (H i).nx (H i).m), h1.nx, Nat.lor (H i).wm h1.wm⟩) (hle : (H i).nx ≤ h1.nx) (hK : K i = 2) (hD : D i = h1.wm)
    {σ1 : Sg} {w1 : World} (x : Ext P (cutS σ (H i).nx) ⟨(H i).m, (H i).nx, 0⟩ w σ1 h1 w1) (hv : VR σ1 v v') : Inv P ops n M E H K D bs σ0 w0 (fun j => L j ∨ j = i) (glue σ σ1 (H i).nx h1.nx) (putT tm oi.dst v') w1 := by
  have hW := iv.agreeW fx hi hn hrd (by omega) (by omega) (by omega)
  have hWl : ∀ j, j < i → K j = 2 → L j := fun j hj hk => (hW j (by omega) hk).2 hj
  have hnx1 : (H (i + 1)).nx = h1.nx := by rw [hH]
  have hget : ∀ b a, b < h1.nx → h1.get b = some a → (H (i + 1)).get b = some a := by
    intro b a hb ha
    have ha' : h1.m.get b = some a := ha
    have hmb := mergeBits_get h1.m b (H i).nx (Nat.mod h1.wm (Nat.pow 2 (H i).nx)) (mergeNew h1.m h1.nx (H i).nx (H i).m) (Nat.mod_lt _ (Nat.two_pow_pos _))
    have hm : (Nat.mod h1.wm (Nat.pow 2 (H i).nx)).testBit b = (decide (b < (H i).nx) && h1.wm.testBit b) := Nat.testBit_mod_two_pow ..
    have hg := merge_get (m1 := h1.m) (m := (H i).m) (nx1 := h1.nx) (nx := (H i).nx) (wm := 0) (c := b) hle
    have hg' : (mergeNew h1.m h1.nx (H i).nx (H i).m).get b = _ := hg
    rw [hm] at hmb
    rw [hH]
    show T.get (mergeBits _ _ _ _) b = _
    rw [hmb]
    by_cases hlt : b < (H i).nx
    · cases hbit : h1.wm.testBit b with
      | true => rw [decide_eq_true hlt, Bool.and_true, if_pos rfl, ha']
      | false =>
        rw [Bool.and_false, if_neg (by simp), hg', if_neg (by omega)]
        have := (x.wr b hlt hbit).2
        rw [ha] at this
        exact this.symm
    · rw [decide_eq_false hlt, Bool.false_and, if_neg (by simp), hg', if_pos (by omega), ha']
  have hWA : ∀ b, Agr K D M L i b := fun b j hj hk _ => hW j hj hk
  have hap := fun {b : Nat} {e : Ent} (hb : σ b = some e) => iv.apart fx hn hi hb
  have habove : ∀ {b e}, σ b = some e → ¬ b < (H i).nx → (D i).testBit b = false := by
    intro b e hb hlt
    rcases hap hb with h | ⟨_, j, hij, hl, h2, h3⟩
    · exact absurd h hlt
    · have hj := iv.low j hl
      by_cases hk : K j = 0 ∨ K j = 3
      · have hH0 : (H (j + 1)).nx = (H j).nx := fx.nx_same hj hk
        omega
      · rcases fx.kd i j hi hj hK (by omega) (by omega) with h4 | h4 | h4
        · have := fx.lt i (Nat.lt_of_lt_of_le hi fx.le) j h4; omega
        · exact absurd (iv.clo j hl i h4) hn
        · have hk4 : K j = 4 := by
            rcases h4.1 with h5 | h5
            · exact absurd (.inr h5) hk
            · exact h5
          obtain ⟨q1, q2⟩ := fx.nx_makes hj hk4
          have : b = D j := by omega
          rw [this]; exact h4.2
  have hgs : σ.sub (glue σ σ1 (H i).nx h1.nx) := by
    intro b e hb
    unfold glue
    rw [if_neg]
    · exact hb
    · intro hh
      rcases hap hb with h | ⟨h, _⟩ <;> omega
  have h1s : σ1.sub (cutS (glue σ σ1 (H i).nx h1.nx) h1.nx) := by
    intro b e hb
    rcases x.new b e hb with h | ⟨h, _⟩
    · obtain ⟨h2, h3⟩ := cutS_some.1 h
      exact cutS_some.2 ⟨by omega, hgs _ _ h3⟩
    · have h2 := (x.hr.live b e hb).1
      refine cutS_some.2 ⟨h2, ?_⟩
      unfold glue
      rw [if_pos ⟨h, h2⟩]
      exact hb
  have hsubc : ∀ {c}, c ≤ M → i < c → σ1.sub (cutS (glue σ σ1 (H i).nx h1.nx) (H c).nx) := fun hc h => h1s.trans (cutS_mono _ (by rw [← hnx1]; exact fx.nx (by omega) hc))
  have hbig : ∀ {c b}, c ≤ M → (H i).nx ≤ b → b < (H c).nx → i < c := by
    intro c b hc h2 h3
    by_cases h : i < c
    · exact h
    · have := fx.nx (i := c) (j := i) (by omega) (by omega); omega
  have hglue : ∀ {c b e}, c ≤ M → b < (H c).nx → glue σ σ1 (H i).nx h1.nx b = some e → ((H i).nx ≤ b ∧ b < h1.nx ∧ σ1 b = some e ∧ i < c) ∨ (σ b = some e ∧ (b < (H i).nx ∨ h1.nx ≤ b)) := by
    intro c b e hc h2 h3
    unfold glue at h3
    by_cases h : (H i).nx ≤ b ∧ b < h1.nx
    · rw [if_pos h] at h3
      exact .inl ⟨h.1, h.2, h3, hbig hc h.1 h2⟩
    · rw [if_neg h] at h3
      exact .inr ⟨h3, by omega⟩
  have convU : ∀ {c b}, (D i).testBit b = false → Agr K D M (fun j => L j ∨ j = i) c b → Agr K D M L c b := fun hf hag j hj hk hd => by
    rw [← hag j hj hk hd]
    refine ⟨.inl, fun h => ?_⟩
    rcases h with h | h
    · exact h
    · subst h; rw [hf] at hd; cases hd
  have hbeh : ∀ {c b}, c ≤ M → Agr K D M (fun j => L j ∨ j = i) c b → ∀ t, i + 1 ≤ t → t < c → K t = 2 → (D t).testBit b = false := by
    intro c b hc hag t h2 h3 hk
    cases hd : (D t).testBit b with
    | false => rfl
    | true =>
      rcases (hag t (by omega) hk hd).2 h3 with h4 | h4
      · rcases fx.kd t i (by omega) hi hk (by omega) (by omega) with h5 | h5 | h5
        · exact absurd (iv.clo t h4 i h5) hn
        · have := fx.lt i (Nat.lt_of_lt_of_le hi fx.le) t h5; omega
        · omega
      · omega
  have hat : ∀ {c b e}, c ≤ M → Agr K D M (fun j => L j ∨ j = i) c b → σ1 b = some e → b < (H c).nx → (i < c ∧ ∃ a, h1.get b = some a ∧ (H c).get b = some a) ∨ (b < (H i).nx ∧ Agr K D M L c b ∧ σ b = some e ∧ (H c).get b = (H i).get b ∧ h1.get b = (H i).get b) := by
    intro c b e hc hag hb hbc
    obtain ⟨q1, a, q2, _⟩ := x.hr.live b e hb
    by_cases hw : (D i).testBit b = true ∨ (H i).nx ≤ b
    · have hic : i < c := by
        rcases hw with hw | hw
        · exact (hag i hi hK hw).1 (.inr rfl)
        · by_cases h : i < c
          · exact h
          · have := fx.nx (i := c) (j := i) (by omega) (by omega); omega
      refine .inl ⟨hic, a, q2, ?_⟩
      rw [fx.stayB (i := i + 1) (j := c) (by omega) hc (hbeh hc hag) (by rw [hnx1]; exact q1)]
      exact hget b a q1 q2
    · have hw' : (D i).testBit b = false ∧ b < (H i).nx := by
        constructor
        · cases hd : (D i).testBit b with
          | false => rfl
          | true => exact absurd (.inl hd) hw
        · by_cases h : b < (H i).nx
          · exact h
          · exact absurd (.inr (by omega)) hw
      have hag' : Agr K D M L c b := fun j hj hk hd => by
        rw [← hag j hj hk hd]
        refine ⟨.inl, fun h => ?_⟩
        rcases h with h | h
        · exact h
        · subst h; rw [hw'.1] at hd; cases hd
      have hsb : σ b = some e := by
        rcases x.new b e hb with h | ⟨h, _⟩
        · exact (cutS_some.1 h).2
        · have h' : (H i).nx ≤ b := h
          omega
      have hno : ∀ t, t < M → (i ≤ t ∧ t < c) ∨ (c ≤ t ∧ t < i) → K t = 2 → (D t).testBit b = false := by
        intro t ht h hk
        cases hd : (D t).testBit b with
        | false => rfl
        | true =>
          have a1 := hag' t ht hk hd
          have a2 := hW t ht hk
          rcases h with h | h
          · exact absurd (a2.1 (a1.2 h.2)) (by omega)
          · exact absurd (a1.1 (a2.2 h.2)) (by omega)
      refine .inr ⟨hw'.2, hag', hsb, ?_, (x.wr b hw'.2 (by rw [← hD]; exact hw'.1)).2⟩
      by_cases h : i ≤ c
      · exact fx.stayB h hc (fun t h2 h3 => hno t (by omega) (.inl ⟨h2, h3⟩)) hw'.2
      · exact (fx.stayB (i := c) (j := i) (by omega) (by omega) (fun t h2 h3 => hno t (by omega) (.inr ⟨h2, h3⟩)) hbc).symm
  refine ⟨iv.low' hi hrd, iv.clo' hi hrd, by unfold putT; split <;> simp [iv.tsz], iv.slot' fx hi hn hoi hgs hE (by rw [hnx1]; exact hv.mono h1s), ?_, ?_, ?_, iv.old, iv.sub.trans hgs, ?_, Nat.le_trans iv.size x.size, iv.frame' fx (by omega) hWl x, iv.same.trans x.same, iv.lay0, ?_⟩
  · intro c b e hc hag hb hbc
    rcases hglue hc hbc hb with ⟨h2, h3, h4, h5⟩ | ⟨h2, h3⟩
    · obtain ⟨q1, a, q2, q3⟩ := x.hr.live b e h4
      rcases hat hc hag h4 hbc with ⟨hic, a', r1, r2⟩ | ⟨r1, _⟩
      · rw [q2] at r1
        cases r1
        refine ⟨a, r2, ?_⟩
        rcases q3 with q3 | ⟨o, q3, q4⟩
        · exact .inl q3
        · exact .inr ⟨o, q3, q4.mono (hsubc hc hic)⟩
      · omega
    · by_cases hlt : b < (H i).nx
      · have hb1 : σ1 b = some e := x.sub _ _ (cutS_some.2 ⟨hlt, h2⟩)
        obtain ⟨q1, a, q2, q3⟩ := x.hr.live b e hb1
        rcases hat hc hag hb1 hbc with ⟨hic, a', r1, r2⟩ | ⟨r1, r2, r3, r4, r5⟩
        · rw [q2] at r1
          cases r1
          refine ⟨a, r2, ?_⟩
          rcases q3 with q3 | ⟨o, q3, q4⟩
          · exact .inl q3
          · exact .inr ⟨o, q3, q4.mono (hsubc hc hic)⟩
        · refine ⟨a, by rw [r4, ← r5]; exact q2, ?_⟩
          obtain ⟨a2, s1, s2⟩ := iv.memB c b e hc r2 r3 hbc
          rw [r4, ← r5, q2] at s1
          cases s1
          rcases q3 with q3 | ⟨o, q3, q4⟩
          · exact .inl q3
          · rcases s2 with s2 | ⟨o2, s2, s3⟩
            · exact .inl s2
            · refine .inr ⟨o, q3, ?_⟩
              by_cases h : i < c
              · exact q4.mono (hsubc hc h)
              · have hsub : (cutS σ (H c).nx).sub σ1 := (cutS_mono _ (fx.nx (i := c) (j := i) (by omega) (by omega))).trans x.sub
                exact (s3.cut hsub q4).mono (cutS_mono2 hgs _)
      · obtain ⟨a, q1, q2⟩ := iv.memB c b e hc (convU (habove h2 hlt) hag) h2 hbc
        refine ⟨a, q1, ?_⟩
        rcases q2 with q2 | ⟨o, q2, q3⟩
        · exact .inl q2
        · by_cases had : a = .dead
          · exact .inl had
          · refine .inr ⟨o, ?_, q3.mono (cutS_mono2 hgs _)⟩
            rw [x.frame e.blk (Array.getElem?_eq_some_iff.1 q2).1 ?_]
            · exact q2
            · intro b' f hb' hf
              obtain ⟨s1, s2⟩ := cutS_some.1 hb'
              by_cases hd : (H i).get b' = some .dead
              · exact hd
              · have := iv.injB c i b b' e f hc (by omega) (convU (habove h2 hlt) hag) (hWA b') hbc s1 h2 s2 hf.symm (by rw [q1]; intro hh; cases hh; exact had rfl) hd
                omega
  · intro c c' b d e f hc hc' hag hag' hbc hdc hb hd hef hbd hdd
    have conv1 : ∀ {c b e}, c ≤ M → Agr K D M (fun j => L j ∨ j = i) c b → σ1 b = some e → b < (H c).nx → (H c).get b ≠ some .dead → h1.get b ≠ some .dead := by
      intro c b e hc hag hb hbc hh
      rcases hat hc hag hb hbc with ⟨_, a', r1, r2⟩ | ⟨_, _, _, r4, r5⟩
      · rw [r1, ← r2]; exact hh
      · rw [r5, ← r4]; exact hh
    have below : ∀ {c b e}, c ≤ M → b < (H c).nx → glue σ σ1 (H i).nx h1.nx b = some e → b < h1.nx → σ1 b = some e := by
      intro c b e hc hbc hb hlt
      rcases hglue hc hbc hb with ⟨_, _, h4, _⟩ | ⟨h2, h3⟩
      · exact h4
      · exact x.sub _ _ (cutS_some.2 ⟨by omega, h2⟩)
    have mixed : ∀ c c' b d e f, c ≤ M → c' ≤ M → Agr K D M (fun j => L j ∨ j = i) c b → Agr K D M (fun j => L j ∨ j = i) c' d → b < (H c).nx → d < (H c').nx → glue σ σ1 (H i).nx h1.nx b = some e → glue σ σ1 (H i).nx h1.nx d = some f →
        b < h1.nx → ¬ d < h1.nx → e.blk = f.blk → (H c).get b ≠ some .dead → (H c').get d ≠ some .dead → b = d := by
      intro c c' b d e f hc hc' hag hag' hbc hdc hb hd hlt hgt hef hbd hdd
      have hb1 := below hc hbc hb hlt
      have hbd1 := conv1 hc hag hb1 hbc hbd
      have hd2 : σ d = some f := by
        rcases hglue hc' hdc hd with ⟨_, h3, _⟩ | ⟨h2, _⟩
        · omega
        · exact h2
      have hagd := convU (habove hd2 (by omega)) hag'
      obtain ⟨a, q1, q2⟩ := iv.memB c' d f hc' hagd hd2 hdc
      rcases q2 with q2 | ⟨o, q2, _⟩
      · subst q2; exact absurd q1 hdd
      · have hsz := (Array.getElem?_eq_some_iff.1 q2).1
        rcases x.new b e hb1 with h | ⟨_, h⟩
        · obtain ⟨h5, h6⟩ := cutS_some.1 h
          have hbi : (H i).get b ≠ some .dead := fun hh => hbd1 (x.dead b h5 hh)
          exact iv.injB i c' b d e f (by omega) hc' (hWA b) hagd h5 hdc h6 hd2 hef hbi hdd
        · rcases h with h | ⟨c2, f', r1, r2, r3⟩
          · rw [hef] at h; omega
          · obtain ⟨s1, s2⟩ := cutS_some.1 r1
            have := iv.injB i c' c2 d f' f (by omega) hc' (hWA c2) hagd s1 hdc s2 hd2 (by rw [r2, hef]) r3 hdd
            omega
    by_cases h1b : b < h1.nx
    · by_cases h1d : d < h1.nx
      · have hb1 := below hc hbc hb h1b
        have hd1 := below hc' hdc hd h1d
        exact x.hr.inj b d e f hb1 hd1 hef (conv1 hc hag hb1 hbc hbd) (conv1 hc' hag' hd1 hdc hdd)
      · exact mixed c c' b d e f hc hc' hag hag' hbc hdc hb hd h1b h1d hef hbd hdd
    · by_cases h1d : d < h1.nx
      · exact (mixed c' c d b f e hc' hc hag' hag hdc hbc hd hb h1d h1b hef.symm hdd hbd).symm
      · have up : ∀ {c b e}, c ≤ M → b < (H c).nx → glue σ σ1 (H i).nx h1.nx b = some e → ¬ b < h1.nx → σ b = some e := by
          intro c b e hc hbc hb hgt
          rcases hglue hc hbc hb with ⟨_, h3, _⟩ | ⟨h2, _⟩
          · omega
          · exact h2
        have hb2 := up hc hbc hb h1b
        have hd2 := up hc' hdc hd h1d
        exact iv.injB c c' b d e f hc hc' (convU (habove hb2 (by omega)) hag) (convU (habove hd2 (by omega)) hag') hbc hdc hb2 hd2 hef hbd hdd
  · intro b e hb
    unfold glue at hb
    by_cases h : (H i).nx ≤ b ∧ b < h1.nx
    · exact .inr ⟨i, .inr rfl, h.1, by rw [hnx1]; exact h.2⟩
    · rw [if_neg h] at hb
      rcases iv.dom b e hb with h2 | ⟨j, h2, h3⟩
      · exact .inl h2
      · exact .inr ⟨j, .inl h2, h3⟩
  · intro b e hb
    unfold glue at hb
    by_cases h : (H i).nx ≤ b ∧ b < h1.nx
    · rw [if_pos h] at hb
      exact iv.new' fx (by omega) hWl x hb
    · rw [if_neg h] at hb
      exact iv.new b e hb
  · intro j hj hk
    rcases hj with hj | hj
    · exact iv.dead j hj hk
    · subst hj
      intro b hb hd
      exact hget b .dead (by omega) (x.dead b hb hd)
include fx iv hi hn hrd in
theorem Inv.makes {oi : Oper} (hoi : ops[i]? = some oi) {v : Value} (hv : v = .pointer (some ⟨(H i).nx, 0, none⟩)) (hE : E (i + 1) = setE (E i) oi.dst v) {a : AObj} (hH : (H (i + 1)).get (H i).nx = some a) (hnx1 : (H (i + 1)).nx = (H i).nx + 1)
    (hK : K i = 4) (hD : D i = (H i).nx) {o : Obj} {nn sz : Nat} (hok : ∀ τ, okObj P τ ⟨w.heap.size, nn, sz⟩ a o) :
    Inv P ops n M E H K D bs σ0 w0 (fun j => L j ∨ j = i) (glue σ (fun _ => some ⟨w.heap.size, nn, sz⟩) (H i).nx ((H i).nx + 1)) (putT tm oi.dst (.pointer (some ⟨w.heap.size, 0, none⟩))) { w with heap := w.heap.push o } := by
  have hap := fun {b : Nat} {e : Ent} (hb : σ b = some e) => iv.apart fx hn hi hb
  have hgs : σ.sub (glue σ (fun _ => some ⟨w.heap.size, nn, sz⟩) (H i).nx ((H i).nx + 1)) := by
    intro b e hb
    unfold glue
    rw [if_neg]
    · exact hb
    · intro hh
      rcases hap hb with h | ⟨h, _⟩ <;> omega
  have hself : glue σ (fun _ => some ⟨w.heap.size, nn, sz⟩) (H i).nx ((H i).nx + 1) (H i).nx = some ⟨w.heap.size, nn, sz⟩ := by
    unfold glue; rw [if_pos (by omega)]
  have hglue : ∀ {b e}, glue σ (fun _ => some ⟨w.heap.size, nn, sz⟩) (H i).nx ((H i).nx + 1) b = some e → (b = (H i).nx ∧ e = ⟨w.heap.size, nn, sz⟩) ∨ (σ b = some e ∧ b ≠ (H i).nx) := by
    intro b e h3
    unfold glue at h3
    by_cases h : (H i).nx ≤ b ∧ b < (H i).nx + 1
    · rw [if_pos h] at h3
      exact .inl ⟨by omega, (Option.some.inj h3).symm⟩
    · rw [if_neg h] at h3
      exact .inr ⟨h3, by omega⟩
  have conv : ∀ {c b}, Agr K D M (fun j => L j ∨ j = i) c b → Agr K D M L c b := fun hag j hj hk hd => by
    rw [← hag j hj hk hd]
    refine ⟨.inl, fun h => ?_⟩
    rcases h with h | h
    · exact h
    · subst h; omega
  have hbig : ∀ {c}, c ≤ M → (H i).nx < (H c).nx → i < c := by
    intro c hc h3
    by_cases h : i < c
    · exact h
    · have := fx.nx (i := c) (j := i) (by omega) (by omega); omega
  have hcn : ∀ {c}, c ≤ M → Agr K D M L c (H i).nx → i < c → (H c).get (H i).nx = some a := by
    intro c hc hag h
    rw [← hH]
    refine fx.stayB (i := i + 1) (j := c) (by omega) hc (fun t h2 h3 hk => ?_) (by omega)
    cases hd : (D t).testBit (H i).nx with
    | false => rfl
    | true =>
      have a1 := (hag t (by omega) hk hd).2 h3
      rcases fx.kd t i (by omega) hi hk (by omega) (by omega) with q | q | q
      · exact absurd (iv.clo t a1 i q) hn
      · have := fx.lt i (Nat.lt_of_lt_of_le hi fx.le) t q; omega
      · rw [hD, hd] at q; exact absurd q.2 (by simp)
  have hpush : ∀ {k : Nat} {o' : Obj}, w.heap[k]? = some o' → (w.heap.push o)[k]? = some o' := by
    intro k o' hk
    rw [Array.getElem?_push, if_neg]
    · exact hk
    · have := (Array.getElem?_eq_some_iff.1 hk).1; omega
  refine ⟨iv.low' hi hrd, iv.clo' hi hrd, by unfold putT; split <;> simp [iv.tsz], iv.slot' fx hi hn hoi hgs hE ?_, ?_, ?_, ?_, iv.old, iv.sub.trans hgs, ?_, ?_, ?_, ⟨iv.same.os, iv.same.tape, iv.same.output⟩, iv.lay0, ?_⟩
  · rw [hv, hnx1]
    exact VR.ptr (e := ⟨w.heap.size, nn, sz⟩) (cutS_some.2 ⟨by omega, hself⟩)
  · intro c b e hc hag0 hb hbc
    have hag := conv hag0
    rcases hglue hb with ⟨rfl, rfl⟩ | ⟨h2, h3⟩
    · exact ⟨a, hcn hc hag (hbig hc hbc), .inr ⟨o, by simp, hok _⟩⟩
    · obtain ⟨a', q1, q2⟩ := iv.memB c b e hc hag h2 hbc
      refine ⟨a', q1, ?_⟩
      rcases q2 with q2 | ⟨o', q2, q3⟩
      · exact .inl q2
      · exact .inr ⟨o', hpush q2, q3.mono (cutS_mono2 hgs _)⟩
  · intro c c' b d e f hc hc' hag0 hag0' hbc hdc hb hd hef hbd hdd
    have hag := conv hag0
    have hag' := conv hag0'
    have key : ∀ c' d f, c' ≤ M → Agr K D M L c' d → d < (H c').nx → σ d = some f → f.blk = w.heap.size → (H c').get d ≠ some .dead → False := by
      intro c' d f hc' hag' hdc hd hf hdd
      obtain ⟨a', q1, q2⟩ := iv.memB c' d f hc' hag' hd hdc
      rcases q2 with q2 | ⟨o', q2, _⟩
      · subst q2; exact absurd q1 hdd
      · have hsz := (Array.getElem?_eq_some_iff.1 q2).1
        omega
    rcases hglue hb with ⟨h2, h3⟩ | ⟨h2, h3⟩
    · rcases hglue hd with ⟨k2, k3⟩ | ⟨k2, k3⟩
      · omega
      · subst h3
        exact (key c' d f hc' hag' hdc k2 hef.symm hdd).elim
    · rcases hglue hd with ⟨k2, k3⟩ | ⟨k2, k3⟩
      · subst k3
        exact (key c b e hc hag hbc h2 hef hbd).elim
      · exact iv.injB c c' b d e f hc hc' hag hag' hbc hdc h2 k2 hef hbd hdd
  · intro b e hb
    rcases hglue hb with ⟨h2, h3⟩ | ⟨h2, h3⟩
    · exact .inr ⟨i, .inr rfl, by omega, by omega⟩
    · rcases iv.dom b e h2 with h2 | ⟨j, h2, h3⟩
      · exact .inl h2
      · exact .inr ⟨j, .inl h2, h3⟩
  · intro b e hb
    rcases hglue hb with ⟨h2, h3⟩ | ⟨h2, h3⟩
    · subst h3
      exact .inr ⟨by have := fx.nx (i := 0) (j := i) (by omega) (by omega); omega, .inl iv.size⟩
    · exact iv.new b e h2
  · have := iv.size; simp; omega
  · intro k hk hl
    have hs := iv.size
    rw [← iv.frame k hk hl]
    show (w.heap.push o)[k]? = w.heap[k]?
    rw [Array.getElem?_push, if_neg (by omega)]
  · intro j hj hk
    rcases hj with hj | hj
    · exact iv.dead j hj hk
    · subst hj; omega
end
end Go.Proofs.Ytaloembfekdkoaa.Ev
namespace Go.Proofs.Ytaloembfekdkoaa.Ev
set_option linter.unusedVariables false
set_option linter.unusedSimpArgs false
set_option linter.unusedSectionVars false
set_option linter.unusedSectionVars false
variable [Val]
theorem looks_operand {all : List Oper} {o : Oper} {t : Nat} (h : Operand.tmp t ∈ o.op.operands) : t ∈ looks all o :=
  List.mem_append_left _ (List.mem_filterMap.2 ⟨.tmp t, by simpa using h, rfl⟩)
theorem evalE_keep {all : List Oper} {o : Oper} (E : T Value) (x : Operand) (hx : x ∈ o.op.operands) : evalE E x = evalE (keep E (looks all o)) x := by
  cases x with
  | tmp t => simp only [evalE, keep_get, if_pos (looks_operand (all := all) hx)]
  | const v => rfl
  | global g => rfl
  | func f => rfl
theorem wants_keep {all : List Oper} {o : Oper} (E : T Value) : wants (keep E (looks all o)) (gdOf all o.guard) = wants E (gdOf all o.guard) := by
  have hg : ∀ d want, gdOf all o.guard = .on d want → d ∈ looks all o := by
    intro d want h
    unfold gdOf at h
    split at h
    · cases h
    · rename_i j w0 hj
      split at h
      · rename_i oj hoj
        split at h
        · rename_i d' hd
          cases h
          refine List.mem_append_right _ ?_
          simp [hj, hoj, hd]
        · cases h
      · cases h
  cases hgd : gdOf all o.guard with
  | always => rfl
  | never => rfl
  | on d want => simp only [wants, keep_get, if_pos (hg d want hgd)]
theorem ld_block {P : Program} {h h2 : AH} {t : TypeId} {b o : Nat} (hg : h2.get b = h.get b) : ld P h2 t ⟨b, o, none⟩ = ld P h t ⟨b, o, none⟩ := by
  have hc : h2.cell ⟨b, o, none⟩ = h.cell ⟨b, o, none⟩ := by unfold AH.cell; simp only [hg]
  have hr : ∀ k, h2.row ⟨b, o, none⟩ k = h.row ⟨b, o, none⟩ k := fun k => by cases k <;> simp only [AH.row, hg]
  unfold ld
  simp only [hc, hr]
def ROAt (P : Program) (σ : Sg) (h : AH) (w0 : World) (kind : CallKind) (n : Nat) (fr : Frame) (m : FrameMode) (c : Frame) (cs : List Frame) (k : List Item) (w : World) (r : RO) : Prop :=
  match r with
  | .done env ds up h1 => ∃ σ1 w1 m1 tm ds', Steps P (lone fr (mkCs kind c cs m) w) (lone { fr with tmps := tm, todo := k, defers := ds' } (mkCs kind c cs m1) w1) ∧ ER σ1 env n [] tm ∧ Ext P σ h w0 σ1 h1 w1 ∧ MR σ1 up m1 ∧ DRL σ1 ds ds'
  | .pan ch env ds unk up h1 => ∃ σ1 w1 m1 tm ds' ch' td, Steps P (lone fr (mkCs kind c cs m) w) (lone { fr with tmps := tm, todo := td, defers := ds', mode := .panicking ch' } (mkCs kind c cs m1) w1) ∧ ER σ1 env n unk tm ∧ PEL σ1 ch ch' ∧ Ext P σ h w0 σ1 h1 w1 ∧ MR σ1 up m1 ∧ DRL σ1 ds ds'
theorem ROAt.head {P : Program} [Orc P] [OrcOk P] {σ : Sg} {h : AH} {w0 w w1 : World} {kind : CallKind} {n : Nat} {fr : Frame} {tm : Array Value} {td : List Item} {ds' : List Deferred} {m m1 : FrameMode} {c : Frame} {cs : List Frame} {k : List Item} {r : RO}
    (hs : Steps P (lone fr (mkCs kind c cs m) w) (lone { fr with tmps := tm, todo := td, defers := ds' } (mkCs kind c cs m1) w1))
    (hr : ROAt P σ h w0 kind n { fr with tmps := tm, todo := td, defers := ds' } m1 c cs k w1 r) : ROAt P σ h w0 kind n fr m c cs k w r := by
  cases r with
  | done env ds up h2 =>
    obtain ⟨σ2, w2, m2, tm2, ds2, a, b, d, e, f⟩ := hr
    exact ⟨σ2, w2, m2, tm2, ds2, hs.trans a, b, d, e, f⟩
  | pan ch env ds unk up h2 =>
    obtain ⟨σ2, w2, m2, tm2, ds2, ch2, td2, a, b, p, d, e, f⟩ := hr
    exact ⟨σ2, w2, m2, tm2, ds2, ch2, td2, hs.trans a, b, p, d, e, f⟩
section
variable {P : Program} [Orc P] [OrcOk P] {run : Run} (hrun : RunS P run) {kind : CallKind} (hkk : kind = .normal ∨ kind = .deferred) {ds : List Deferred} {up : FrameMode} {ops : Array Oper} {n M : Nat} {E : Nat → T Value} {H : Nat → AH} {K D : Nat → Nat} {bs : List Nat} (fx : Fx P run kind ds up ops n M E H K D bs)
variable {σ0 : Sg} {w0 : World} {L : Nat → Prop} {σ : Sg} {fr : Frame} {w : World} (iv : Inv P ops n M E H K D bs σ0 w0 L σ fr.tmps w)
variable {i : Nat} (hn : ¬ L i) (hrd : ∀ j, (bs.getD i 0).testBit j = true → L j)
variable {rest : List Nat} {k : List Item} (hm : fr.mode = .run) (ht : fr.todo = .inRegion ops (i :: rest) :: k) (hk : fr.kind = kind) {m : FrameMode} (hup : MR σ0 up m) (hds : DRL σ0 ds fr.defers) (c : Frame) (cs : List Frame)
include fx iv in
theorem Inv.base {c : Nat} (hc : c ≤ M) : σ0.sub (cutS σ (H c).nx) := fun b e hb => cutS_some.2 ⟨Nat.lt_of_lt_of_le (iv.old b e hb) (fx.nx (i := 0) (by omega) hc), iv.sub b e hb⟩
include hrun hkk fx iv hn hrd hm ht hk hup hds in
theorem op_go (hi : i < M) : ∃ σ' tm' w' m' ds', Steps P (lone fr (mkCs kind c cs m) w) (lone { fr with tmps := tm', todo := .inRegion ops rest :: k, defers := ds' } (mkCs kind c cs m') w') ∧
    Inv P ops n M E H K D bs σ0 w0 (fun j => L j ∨ j = i) σ' tm' w' ∧ MR σ0 up m' ∧ DRL σ0 ds ds' := by
  obtain ⟨o, ho⟩ := fx.get hi
  have her := iv.slots fx hn hrd (by omega) ho
  have hbase := iv.base fx (c := i) (by omega)
  have hst := fx.tr i o hi ho
  generalize hE : E (i + 1) = E' at hst
  generalize hH : H (i + 1) = H' at hst
  generalize hK : K i = K' at hst
  generalize hD : D i = D' at hst
  have hρ : ∀ x v, evalE (keep (E i) (looks ops.toList o)) x = some v → VR (cutS σ (H i).nx) v (fr.eval x) := fun x v hv => her.eval hv
  have hcg : ∀ h, evOp P run kind .run true (evalE (E i)) ds up h (nextOf o.op) (aopC P o.type o.op) = evOp P run kind .run true (evalE (keep (E i) (looks ops.toList o))) ds up h (nextOf o.op) (aopC P o.type o.op) :=
    fun h => evOp_congr fun x hx => evalE_keep (E i) x hx
  cases hst with
  | skip hw =>
    rw [← wants_keep] at hw
    have hs := st_opSkip (P := P) (cs := mkCs kind c cs m) (w := w) hm ht ho (wants_ok her hw)
    rw [finish_eq ht ho] at hs
    exact ⟨σ, putT fr.tmps o.dst undef, w, m, fr.defers, .one hs, iv.quiet fx hi hn hrd ho hE hH (by omega) (.tuple .nil) (Nat.le_refl _) (fun _ _ => rfl) (.refl _), hup, hds⟩
  | blind hw hb hev =>
    rename_i v h1
    rw [← wants_keep] at hw
    rw [hcg] at hev
    have hev2 := evOp_blind hb hev (deadH (H i).nx)
    have hr := deadH_hr P (σ := cutS σ (H i).nx) (n := (H i).nx) (fun b e hb => (cutS_some.1 hb).1) w (iv.lay.cut _)
    obtain ⟨r, hr1, hr2⟩ := evOp_ok hrun hev2 hm ht ho (wants_ok her hw) (by simp) hk hkk hρ hr (hds.mono hbase) (hup.mono hbase) c cs
    rw [List.mem_singleton] at hr1
    subst hr1
    obtain ⟨σ1, v', w1, m1, ds', a, b, x, e, f⟩ := hr2
    have hs1 : σ1.sub (cutS σ (H i).nx) := by
      intro b e hb
      rcases x.new b e hb with h | ⟨h, _⟩
      · exact h
      · have h2 := (x.hr.live b e hb).1
        have h3 : (deadH (H i).nx).nx = (H i).nx := rfl
        omega
    have hh : ∀ k, k < w.heap.size → w1.heap[k]? = w.heap[k]? := fun k hk => x.frame k hk fun b e hb _ => deadH_get _ b (cutS_some.1 hb).1
    have hsub1 : σ0.sub σ1 := hbase.trans x.sub
    exact ⟨σ, putT fr.tmps o.dst v', w1, m1, ds', a, iv.quiet fx hi hn hrd ho hE hH (by omega) (b.mono hs1) x.size hh x.same, hup.cut hsub1 e, hds.cut hsub1 f⟩
  | reads hw hrb hev =>
    rename_i v h1
    obtain ⟨t, x, hop⟩ : ∃ t x, o.op = .load t x := by
      unfold blockOf ldOf at hrb
      cases hoo : o.op <;> rw [hoo] at hrb <;> first | (cases hrb; done) | exact ⟨_, _, rfl⟩
    rw [← wants_keep] at hw
    rw [hcg] at hev
    have hno : Orc.op P (.load t x) = none := by
      cases hor : Orc.op P (.load t x) with
      | none => rfl
      | some f =>
        obtain ⟨g, rfl⟩ := OrcOk.opL hor
        rw [hop] at hrb
        simp [blockOf, ldOf, evalE] at hrb
    rw [hop] at hev hrb
    have hx0 : evalE (E i) x = evalE (keep (E i) (looks ops.toList o)) x := evalE_keep (E i) x (by rw [hop]; simp [Op.operands])
    simp only [blockOf, ldOf] at hrb
    rw [hx0] at hrb
    split at hrb
    · rename_i b oo hpv
      have hbe := Option.some.inj hrb
      subst hbe
      have hl : ld P ⟨(H i).m, (H i).nx, 0⟩ t ⟨b, oo, none⟩ = some v := by
        unfold evOp at hev
        unfold aopC at hev
        rw [hno] at hev
        simp only [nextOf, aopS, opLoad, hpv] at hev
        unfold aval at hev
        cases hld : ld P ⟨(H i).m, (H i).nx, 0⟩ t ⟨b, oo, none⟩ with
        | none => rw [hld] at hev; simp [after] at hev
        | some u =>
          rw [hld] at hev
          simp only [after] at hev
          have := Option.some.inj hev
          simp only [List.cons.injEq, OR.val.injEq, and_true] at this
          rw [this.1]
      obtain ⟨b2, q, e, hbq, hb, hxv⟩ := ptr_inv (hρ _ _ hpv)
      cases hbq
      obtain ⟨hblt, hbs⟩ := cutS_some.1 hb
      have hag : Agr K D M L i b := by rw [← hD]; exact iv.agreeR fx hi hn hrd hK
      obtain ⟨a, g1, g2⟩ := iv.memB i b e (by omega) hag hbs hblt
      have hr1 : HR P (cutS σ (H i).nx) ⟨(deadH (H i).nx).m.set b a, (H i).nx, 0⟩ w := by
        have hgd : ∀ c, c < (H i).nx → AH.get ⟨(deadH (H i).nx).m.set b a, (H i).nx, 0⟩ c = if c = b then some a else some .dead := by
          intro c hc
          show T.get _ c = _
          rw [T.get_set]
          by_cases hcb : c = b
          · rw [if_pos hcb, if_pos hcb]
          · rw [if_neg hcb, if_neg hcb]; exact deadH_get _ c hc
        constructor
        · intro c f hc
          obtain ⟨c1, c2⟩ := cutS_some.1 hc
          refine ⟨c1, ?_⟩
          rw [hgd c c1]
          by_cases hcb : c = b
          · subst hcb
            rw [hbs] at c2
            cases c2
            exact ⟨a, if_pos rfl, g2⟩
          · exact ⟨.dead, if_neg hcb, .inl rfl⟩
        · intro c d f g hc hd' _ h2 h3
          obtain ⟨c1, _⟩ := cutS_some.1 hc
          obtain ⟨d1, _⟩ := cutS_some.1 hd'
          rw [hgd c c1] at h2
          rw [hgd d d1] at h3
          by_cases hcb : c = b
          · by_cases hdb : d = b
            · omega
            · rw [if_neg hdb] at h3; exact absurd rfl h3
          · rw [if_neg hcb] at h2; exact absurd rfl h2
        · exact iv.lay.cut _
      have hsame : AH.get ⟨(deadH (H i).nx).m.set b a, (H i).nx, 0⟩ b = AH.get ⟨(H i).m, (H i).nx, 0⟩ b := by
        show T.get _ b = _
        rw [T.get_set, if_pos rfl]
        exact g1.symm
      have hl2 : ld P ⟨(deadH (H i).nx).m.set b a, (H i).nx, 0⟩ t ⟨b, oo, none⟩ = some v := by rw [ld_block hsame]; exact hl
      obtain ⟨v', k1, k2⟩ := ld_ok hr1 hb hl2
      have hex : (execOp fr.eval o).run P w = .ok (.value v') w := by simp [execOp, hop, hxv, Instr.loadAt, Instr.sureAddr, k1]
      have hs : step P (lone fr (mkCs kind c cs m) w) = .next (lone { fr with tmps := putT fr.tmps o.dst v', todo := .inRegion ops rest :: k } (mkCs kind c cs m) w) := by
        refine step_lone_go ?_
        rw [st_op hm ht ho (wants_ok her hw) (.inr fun c hh => by rw [hop] at hh; cases hh)]
        simp only [stepG.apply, Sem.runT_eq, hex, GStep.bare_after, if_true, finish_eq ht ho]
        rfl
      exact ⟨σ, putT fr.tmps o.dst v', w, m, fr.defers, .one hs, iv.quiet fx hi hn hrd ho hE hH (by omega) k2 (Nat.le_refl _) (fun _ _ => rfl) (.refl _), hup, hds⟩
    · cases hrb
  | adds hw hev hle hcl =>
    rename_i v h1
    rw [← wants_keep] at hw
    rw [hcg] at hev
    have hr : HR P (cutS σ (H i).nx) ⟨(H i).m, (H i).nx, 0⟩ w := (iv.full (by omega) (iv.agreeW fx hi hn hrd (by omega) (by omega) (by omega))).wm rfl rfl
    obtain ⟨r, hr1, hr2⟩ := evOp_ok hrun hev hm ht ho (wants_ok her hw) (by simp) hk hkk hρ hr (hds.mono hbase) (hup.mono hbase) c cs
    rw [List.mem_singleton] at hr1
    subst hr1
    obtain ⟨σ1, v', w1, m1, ds', a, b, x, e, f⟩ := hr2
    have hsub1 : σ0.sub σ1 := hbase.trans x.sub
    exact ⟨_, putT fr.tmps o.dst v', w1, m1, ds', a, iv.adds fx hi hn hrd ho hE hH hle hcl hK x b, hup.cut hsub1 e, hds.cut hsub1 f⟩
  | makes hw hop hno hev hle =>
    rename_i v h1 elem
    rw [← wants_keep] at hw
    obtain ⟨l, q1, q2, q3⟩ := alloc_ev hop hno hev
    obtain ⟨z, hz, hzl⟩ := zeroL_run q1
    obtain ⟨z1, z2⟩ := zero_run (w := w) hz
    have hex : (execOp fr.eval o).run P w = .ok (.value (.pointer (some ⟨w.heap.size, 0, none⟩))) { w with heap := w.heap.push (.cells z.cells elem (0, 0)) } := by
      simp [execOp, hop, Instr.alloc, z1, newVar, newRow]
    have hs : step P (lone fr (mkCs kind c cs m) w) = .next (lone { fr with tmps := putT fr.tmps o.dst (.pointer (some ⟨w.heap.size, 0, none⟩)), todo := .inRegion ops rest :: k } (mkCs kind c cs m) { w with heap := w.heap.push (.cells z.cells elem (0, 0)) }) := by
      refine step_lone_go ?_
      rw [st_op hm ht ho (wants_ok her hw) (.inr fun c hh => by rw [hop] at hh; cases hh)]
      simp only [stepG.apply, Sem.runT_eq, hex, GStep.bare_after, if_true, finish_eq ht ho]
      rfl
    have hg : (H (i + 1)).get (H i).nx = some (.cells (T.lay l 0 .nil) l.length elem false) := by
      have hlt : (H i).nx < h1.nx := by rw [q3]; show _ < AH.nx _; rw [AH.newRow, AH.nx_push]; exact Nat.lt_succ_self _
      have hg1 : h1.m.get (H i).nx = some (.cells (T.lay l 0 .nil) l.length elem false) := by
        show h1.get (H i).nx = _
        rw [q3, AH.newRow, AH.get_push]
        exact if_pos rfl
      rw [hH, merge_get hle, if_pos ⟨Nat.le_refl _, hlt⟩, hg1]
    have hn1 : (H (i + 1)).nx = (H i).nx + 1 := by
      rw [hH]
      show h1.nx = _
      rw [q3, AH.newRow, AH.nx_push]
    have hok : ∀ τ, okObj P τ ⟨w.heap.size, l.length, 0⟩ (.cells (T.lay l 0 .nil) l.length elem false) (.cells z.cells elem (0, 0)) := by
      intro τ
      have hcl : z.cells.toList = l := hzl
      have hsz : z.cells.size = l.length := by rw [← hcl]; simp
      refine ⟨z.cells, (0, 0), rfl, fun j _ => by omega, hsz, fun _ => hsz.symm, by omega, (fun hh => by cases hh), fun j hj => ?_⟩
      have hrl := cells_flat z2 τ
      rw [hcl] at hrl
      obtain ⟨u, hu1, hu2⟩ := hrl.get j l[j] (List.getElem?_eq_getElem hj)
      refine ⟨l[j], u, ?_, ?_, hu2⟩
      · rw [T.get_lay, if_pos (by omega)]; simp
      · rw [← Array.getElem?_toList, hcl]; exact hu1
    exact ⟨_, _, _, m, fr.defers, .one hs, iv.makes fx hi hn hrd ho q2 hE hg hn1 hK hD hok, hup, hds⟩
  | writes hw hev hle =>
    rename_i v h1
    rw [← wants_keep] at hw
    rw [hcg] at hev
    have hr : HR P (cutS σ (H i).nx) ⟨(H i).m, (H i).nx, 0⟩ w := (iv.full (by omega) (iv.agreeW fx hi hn hrd (by omega) (by omega) (by omega))).wm rfl rfl
    obtain ⟨r, hr1, hr2⟩ := evOp_ok hrun hev hm ht ho (wants_ok her hw) (by simp) hk hkk hρ hr (hds.mono hbase) (hup.mono hbase) c cs
    rw [List.mem_singleton] at hr1
    subst hr1
    obtain ⟨σ1, v', w1, m1, ds', a, b, x, e, f⟩ := hr2
    have hsub1 : σ0.sub σ1 := hbase.trans x.sub
    exact ⟨_, putT fr.tmps o.dst v', w1, m1, ds', a, iv.writes fx hi hn hrd ho hE hH hle hK hD x b, hup.cut hsub1 e, hds.cut hsub1 f⟩
include fx iv in
theorem Inv.below (b : Nat) (e : Ent) (hb : σ b = some e) : b < (H M).nx := by
  rcases iv.dom b e hb with h | ⟨j, h1, h2, h3⟩
  · exact Nat.lt_of_lt_of_le h (fx.nx (i := 0) (by omega) (by omega))
  · have := iv.low j h1
    exact Nat.lt_of_lt_of_le h3 (fx.nx (i := j + 1) (by omega) (by omega))
include fx iv in
theorem Inv.cutM : cutS σ (H M).nx = σ := by
  funext b
  unfold cutS
  by_cases h : b < (H M).nx
  · rw [if_pos h]
  · rw [if_neg h]
    cases hb : σ b with
    | none => rfl
    | some e => exact absurd (iv.below fx b e hb) h
include fx iv in
theorem Inv.ext (hl : ∀ j, j < M → K j = 2 → L j) : Ext P σ0 (H 0) w0 σ (H M) w := by
  have hr := iv.full (c := M) (by omega) fun j hj hk => ⟨fun _ => hj, fun _ => hl j hj hk⟩
  rw [iv.cutM fx] at hr
  exact ⟨iv.old, iv.sub, iv.new, hr, iv.size, iv.frame, fx.nx (i := 0) (by omega) (by omega), iv.deadAll fx M (by omega) hl, fx.wrAll M (by omega), iv.same⟩
include hrun hkk fx iv hn hrd hm ht hk hup hds in
theorem op_pan (hi : i = M) {o : Oper} (ho : ops[M]? = some o) {ch : List PanicEntry} {h1 : AH} (hw : wants (E M) (gdOf ops.toList o.guard) = some true)
    (hev : evOp P run kind .run true (evalE (E M)) ds up ⟨(H M).m, (H M).nx, 0⟩ (nextOf o.op) (aopC P o.type o.op) = some [.pan ch h1]) (hl : ∀ j, j < M → K j = 2 → L j) {dsts : List Tmp} (hd : ∀ (j : Nat) (o : Oper) (d : Nat), ops[j]? = some o → o.dst = some d → d ∈ dsts) :
    ROAt P σ0 (H 0) w0 kind n fr m c cs k w (.pan ch (E M) ds dsts up { h1 with wm := Nat.lor (H M).wm h1.wm }) := by
  subst hi
  have her := iv.slots fx hn hrd (by omega) ho
  have hbase := iv.base fx (c := i) (by omega)
  have hρ : ∀ x v, evalE (keep (E i) (looks ops.toList o)) x = some v → VR (cutS σ (H i).nx) v (fr.eval x) := fun x v hv => her.eval hv
  rw [← wants_keep] at hw
  rw [evOp_congr fun x hx => evalE_keep (all := ops.toList) (E i) x hx] at hev
  have hx0 := iv.ext fx hl
  have hcm := iv.cutM fx
  rw [hcm] at hρ her hbase
  have hr : HR P σ ⟨(H i).m, (H i).nx, 0⟩ w := hx0.hr.wm rfl rfl
  obtain ⟨r, hr1, hr2⟩ := evOp_ok hrun hev hm ht ho (wants_ok her hw) (by simp) hk hkk hρ hr (hds.mono hbase) (hup.mono hbase) c cs
  rw [List.mem_singleton] at hr1
  subst hr1
  obtain ⟨σ1, ch', w1, a, b, x⟩ := hr2
  have x2 := Ext.wm (wm := (H i).wm) x
  refine ⟨σ1, w1, m, fr.tmps, fr.defers, ch', fr.todo, a, ⟨iv.tsz, fun t v htd hv => ?_⟩, b, hx0.trans x2, hup.mono (hbase.trans x.sub), hds.mono (hbase.trans x.sub)⟩
  obtain ⟨v', h2, h3⟩ := iv.slot t i (by omega) (fun j o hj ho hdo => absurd (hd j o t ho hdo) htd) v hv
  rw [hcm] at h3
  exact ⟨v', h2, h3.mono x.sub⟩
end
def left (ops : Array Oper) (listed : Array Bool) : Nat := ((List.range ops.size).filter fun i => !listed.getD i true).length
theorem left_less {ops : Array Oper} {listed : Array Bool} {i : Nat} (hs : listed.size = ops.size) (hi : i < ops.size) (hn : listed.getD i true = false) : left ops (listed.setIfInBounds i true) < left ops listed := by
  have h1 : ((List.range ops.size).filter fun j => !(listed.setIfInBounds i true).getD j true) = ((List.range ops.size).filter fun j => !listed.getD j true).filter fun j => decide (j ≠ i) := by
    rw [List.filter_filter]
    apply List.filter_congr
    intro j hj
    rw [List.mem_range] at hj
    by_cases h : j = i
    · subst h
      simp [Array.getD_eq_getD_getElem?, hs, hj]
    · simp [Array.getD_eq_getD_getElem?, h, Array.getElem?_setIfInBounds_ne (Ne.symm h)]
  unfold left
  rw [h1]
  refine List.length_filter_lt_length_iff_exists.2 ⟨i, ?_, by simp⟩
  rw [List.mem_filter, List.mem_range]
  exact ⟨hi, by simp [hn]⟩
section
variable {P : Program} [Orc P] [OrcOk P] {run : Run} (hrun : RunS P run) {kind : CallKind} (hkk : kind = .normal ∨ kind = .deferred) {ds : List Deferred} {up : FrameMode} {ops : Array Oper} {n M : Nat} {E : Nat → T Value} {H : Nat → AH} {K D : Nat → Nat} {bs : List Nat} (fx : Fx P run kind ds up ops n M E H K D bs)
variable {σ0 : Sg} {w0 : World} {k : List Item} (c : Frame) (cs : List Frame) {dsts : List Tmp} (hd : ∀ (j : Nat) (o : Oper) (d : Nat), ops[j]? = some o → o.dst = some d → d ∈ dsts) {r : RO}
variable (hend : (M = ops.size ∧ r = .done (E M) ds up (H M)) ∨ (M < ops.size ∧ (∀ j, M < j → j < ops.size → (bs.getD j 0).testBit M = true) ∧ (∀ j, j < M → K j = 2 → (bs.getD M 0).testBit j = true) ∧
    ∃ o ch h1, ops[M]? = some o ∧ wants (E M) (gdOf ops.toList o.guard) = some true ∧ evOp P run kind .run true (evalE (E M)) ds up ⟨(H M).m, (H M).nx, 0⟩ (nextOf o.op) (aopC P o.type o.op) = some [.pan ch h1] ∧
    r = .pan ch (E M) ds dsts up { h1 with wm := Nat.lor (H M).wm h1.wm }))
theorem getD_tf {listed : Array Bool} {i : Nat} (h : i < listed.size) : listed.getD i true = listed.getD i false := by
  simp [Array.getD_eq_getD_getElem?, h]
include hrun hkk fx hd hend in
theorem drawn_go : ∀ (fuel t : Nat) (listed : Array Bool), listed.size = ops.size → left ops listed ≤ fuel → ∀ {σ : Sg} {w : World} {fr : Frame} {m : FrameMode}, Inv P ops n M E H K D bs σ0 w0 (fun j => listed.getD j false = true) σ fr.tmps w →
    fr.mode = .run → fr.todo = .inRegion ops (Region.linearise.go .any ops fuel t listed []) :: k → fr.kind = kind → MR σ0 up m → DRL σ0 ds fr.defers → ROAt P σ0 (H 0) w0 kind n fr m c cs k w r := by
  intro fuel
  have hfin : ∀ (listed : Array Bool), listed.size = ops.size → (∀ j, j < ops.size → listed.getD j false = true) → ∀ {σ : Sg} {w : World} {fr : Frame} {m : FrameMode}, Inv P ops n M E H K D bs σ0 w0 (fun j => listed.getD j false = true) σ fr.tmps w →
      fr.mode = .run → fr.todo = .inRegion ops [] :: k → MR σ0 up m → DRL σ0 ds fr.defers → ROAt P σ0 (H 0) w0 kind n fr m c cs k w r := by
    intro listed hsz hall σ w fr m iv hm ht hup hds
    rcases hend with ⟨hM, rfl⟩ | ⟨hM, _⟩
    · have hx := iv.ext fx fun j hj _ => hall j (by omega)
      have hcm := iv.cutM fx
      refine ⟨σ, w, m, fr.tmps, fr.defers, .one (st_regE hm ht), ⟨iv.tsz, fun t v _ hv => ?_⟩, hx, hup.mono iv.sub, hds.mono iv.sub⟩
      obtain ⟨v', h1, h2⟩ := iv.slot t M (by omega) (fun j o hj _ _ => ⟨fun _ => hj, fun _ => hall j (by omega)⟩) v hv
      rw [hcm] at h2
      exact ⟨v', h1, h2⟩
    · have := iv.low M (hall M hM)
      omega
  induction fuel with
  | zero =>
    intro t listed hsz hle σ w fr m iv hm ht hk hup hds
    refine hfin listed hsz (fun j hj => ?_) iv hm (by simpa [Region.linearise.go] using ht) hup hds
    unfold left at hle
    have h0 : ((List.range ops.size).filter fun i => !listed.getD i true) = [] := List.length_eq_zero_iff.1 (by omega)
    have h1 := List.filter_eq_nil_iff.1 h0 j (by simpa using hj)
    rw [← getD_tf (by omega)]
    simpa using h1
  | succ fuel ih =>
    intro t listed hsz hle σ w fr m iv hm ht hk hup hds
    simp only [Region.linearise.go] at ht
    generalize hrs : ((List.range ops.size).filter fun i => !listed.getD i true && ((ops[i]?).map (·.after.all fun e => !Region.binds .any e || listed.getD e.on false)).getD false) = rs at ht
    cases hpick : rs[t % rs.length]? with
    | none =>
      rw [hpick] at ht
      refine hfin listed hsz ?_ iv hm (by simpa using ht) hup hds
      have hnil : rs = [] := by
        cases hr : rs with
        | nil => rfl
        | cons x xs =>
          rw [hr] at hpick
          have hlt : t % (x :: xs).length < (x :: xs).length := Nat.mod_lt _ (by simp)
          rw [List.getElem?_eq_none_iff] at hpick
          omega
      intro j
      induction j using Nat.strongRecOn with
      | ind j ihj =>
        intro hj
        rw [hnil] at hrs
        have h1 := List.filter_eq_nil_iff.1 hrs j (by simpa using hj)
        rw [getD_tf (by omega)] at h1
        cases hlj : listed.getD j false with
        | true => rfl
        | false =>
          exfalso
          apply h1
          have hoj : ops[j]? = some ops[j] := Array.getElem?_eq_getElem hj
          rw [hlj, hoj]
          simp only [Bool.not_false, Option.map_some, Option.getD_some, Bool.true_and, Array.all_eq_true']
          intro e he
          cases hb : Region.binds .any e with
          | false => rfl
          | true =>
            have hlt := fx.edge j _ hoj e (by simpa using he) hb
            rw [ihj e.on hlt (by omega)]
            rfl
    | some i =>
      rw [hpick] at ht
      simp only at ht
      rw [linearise_go_acc, List.reverse_singleton, List.singleton_append] at ht
      have hmem := List.mem_of_getElem? hpick
      rw [← hrs, List.mem_filter, List.mem_range] at hmem
      obtain ⟨hi, hmem⟩ := hmem
      have hoi : ops[i]? = some ops[i] := Array.getElem?_eq_getElem hi
      rw [hoi] at hmem
      simp only [Option.map_some, Option.getD_some, Bool.and_eq_true, Bool.not_eq_true', Array.all_eq_true'] at hmem
      obtain ⟨hun, hedges⟩ := hmem
      have hn : ¬ (listed.getD i false = true) := by rw [← getD_tf (by omega), hun]; simp
      have hrd : ∀ j, (bs.getD i 0).testBit j = true → listed.getD j false = true := by
        intro j hj
        obtain ⟨e, h1, h2, h3⟩ := fx.bef i _ hoi j hj
        have h4 := hedges e (by simpa using h1)
        rw [h2] at h4
        simp only [Bool.not_true, Bool.false_or] at h4
        rcases h3 with h3 | h3
        · subst h3; exact h4
        · exact iv.clo e.on h4 j h3
      by_cases hlt : i < M
      · obtain ⟨σ', tm', w', m', ds', a, b, d, e⟩ := op_go hrun hkk fx iv hn hrd hm ht hk hup hds c cs hlt
        refine .head a (ih (t / rs.length) (listed.setIfInBounds i true) (by simp [hsz]) ?_ (σ := σ') (fr := { fr with tmps := tm', todo := .inRegion ops (Region.linearise.go .any ops fuel (t / rs.length) (listed.setIfInBounds i true) []) :: k, defers := ds' }) ?_ hm rfl hk d e)
        · have := left_less hsz hi hun
          omega
        · have hLL : (fun j => (listed.setIfInBounds i true).getD j false = true) = fun j => listed.getD j false = true ∨ j = i := by
            funext j
            by_cases h : j = i
            · subst h
              simp [Array.getD_eq_getD_getElem?, hsz, hi]
            · simp [Array.getD_eq_getD_getElem?, h, Array.getElem?_setIfInBounds_ne (Ne.symm h)]
          rw [hLL]
          exact b
      · rcases hend with ⟨hM, _⟩ | ⟨hM, hwait, hkd, o, ch, h1, ho, hw, hev, rfl⟩
        · omega
        · have hiM : i = M := by
            by_cases h : i = M
            · exact h
            · have h2 := iv.low M (hrd M (hwait i (by omega) hi))
              omega
          exact op_pan hrun hkk fx iv hn hrd hm ht hk hup hds c cs hiM ho hw hev (fun j hj hk => hrd j (by rw [hiM]; exact hkd j hj hk)) hd
end
theorem drawnS (P : Program) [Orc P] [OrcOk P] : DrawnS P := by
  intro run hrun kind hkk ops n hfit hreg env ds up h r hev σ w fr m t k c cs hm ht hk her hr hds hup
  obtain ⟨E, H, K, D, M, _, hE0, hH0, htr, hend⟩ := extract (P := P) (ops := ops) ops.size 0 (by omega) [] env h r rfl (by simpa using hev)
  simp only [List.nil_append, Nat.sub_zero] at hend
  have hkk2 : ∀ t, t < M → ((List.range' 0 M).map fun t => (K t, D t))[t]? = some (K t, D t) := by
    intro t ht
    simp [ht]
  have hlen : (befores ops.toList []).length = ops.size := by rw [befores_len]; simp
  unfold regOk at hreg
  rw [Bool.and_eq_true] at hreg
  have hle : M ≤ ops.size := by
    rcases hend with ⟨h1, _⟩ | ⟨h1, _⟩ <;> omega
  have hedge : ∀ (i : Nat) (o : Oper), ops[i]? = some o → ∀ e ∈ o.after.toList, Region.binds .any e = true → e.on < i := by
    intro i o ho e he hb
    have := edges_spec ops.toList 0 hreg.1 i o (by rw [Array.getElem?_toList]; exact ho) e he hb
    omega
  have hbef : ∀ (i : Nat) (o : Oper), ops[i]? = some o → ∀ j, ((befores ops.toList []).getD i 0).testBit j = true → ∃ e ∈ o.after.toList, Region.binds .any e = true ∧ (j = e.on ∨ ((befores ops.toList []).getD e.on 0).testBit j = true) := by
    intro i o ho j hj
    obtain ⟨e, h1, h2, h3⟩ := befores_spec ops.toList [] i o (by rw [Array.getElem?_toList]; exact ho) j (by simpa using hj)
    refine ⟨e, h1, h2, ?_⟩
    rcases h3 with h3 | ⟨_, h3⟩
    · exact .inl h3
    · exact .inr h3
  have hpair : ∀ (i j : Nat) (oi oj : Oper), ops[i]? = some oi → ops[j]? = some oj → j < i → ((befores ops.toList []).getD i 0).testBit j = true ∨ apartL ops.toList oj oi = true := by
    intro i j oi oj hi hj hji
    exact allPairs_spec ops.toList [] _ hreg.2 i oi (by rw [Array.getElem?_toList]; exact hi) j oj (by rw [List.nil_append, Array.getElem?_toList]; exact hj) (by simpa using hji)
  have hfits : ∀ (i : Nat) (o : Oper), ops[i]? = some o → fitsD n o.dst = true := by
    intro i o ho
    exact List.all_eq_true.1 hfit o (by rw [Array.mem_toList_iff]; exact Array.mem_of_getElem? ho)
  have hkd : ∀ j i, j < M → i < M → K j = 2 → K i ≠ 0 → i ≠ j → ((befores ops.toList []).getD j 0).testBit i = true ∨ ((befores ops.toList []).getD i 0).testBit j = true ∨ ((K i = 3 ∨ K i = 4) ∧ (D j).testBit (D i) = false) := by
    intro j i hj hi hkj hki hne
    rcases hend with ⟨h1, h2, _⟩ | ⟨h1, o, ch, h2, _, _, _, _, h3, _⟩
    · exact kinds_spec h2 (by rw [hkk2 j hj, hkj]) (hkk2 i hi) hki hne
    · have h4 := kinds_spec h3 (j := j) (i := i) (k := K i) (mk := D j) (d := D i) (by rw [List.getElem?_append_left (by simpa using hj), hkk2 j hj, hkj]) (by rw [List.getElem?_append_left (by simpa using hi), hkk2 i hi]) hki hne
      have tk : ∀ x, x < M + 1 → (List.take (M + 1) (befores ops.toList [])).getD x 0 = (befores ops.toList []).getD x 0 := by
        intro x hx
        simp [List.getD, List.getElem?_take, hx]
      rw [tk j (by omega), tk i (by omega)] at h4
      exact h4
  have fx : Fx P run kind ds up ops n M E H K D (befores ops.toList []) := ⟨fun i o hi ho => htr i o (by omega) hi ho, hle, hedge, hbef, hpair, hkd, hfits⟩
  have hdst : ∀ (j : Nat) (o : Oper) (d : Nat), ops[j]? = some o → o.dst = some d → d ∈ ops.toList.filterMap (·.dst) := by
    intro j o d ho hd
    exact List.mem_filterMap.2 ⟨o, by rw [Array.mem_toList_iff]; exact Array.mem_of_getElem? ho, hd⟩
  have hold : ∀ b e, σ b = some e → b < (H 0).nx := fun b e hb => by rw [hH0]; exact (hr.live b e hb).1
  have hrep : ∀ j, ¬ ((Array.replicate ops.size false).getD j false = true) := by
    intro j
    by_cases hj : j < ops.size <;> simp [Array.getD_eq_getD_getElem?, hj]
  have hcut : cutS σ (H 0).nx = σ := by
    funext b
    unfold cutS
    by_cases h : b < (H 0).nx
    · rw [if_pos h]
    · rw [if_neg h]
      cases hb : σ b with
      | none => rfl
      | some e => exact absurd (hold b e hb) h
  have hsubc : ∀ c, c ≤ M → cutS σ (H c).nx = σ := by
    intro c hc
    funext b
    unfold cutS
    by_cases h : b < (H c).nx
    · rw [if_pos h]
    · rw [if_neg h]
      cases hb : σ b with
      | none => rfl
      | some e => have := hold b e hb; have := fx.nx (i := 0) (j := c) (by omega) hc; omega
  have iv : Inv P ops n M E H K D (befores ops.toList []) σ w (fun j => (Array.replicate ops.size false).getD j false = true) σ fr.tmps w := by
    refine ⟨fun j hj => absurd hj (hrep j), fun j hj => absurd hj (hrep j), her.1, ?_, ?_, ?_, fun b e hb => .inl (hold b e hb), hold, .refl _, fun b e hb => .inl hb, Nat.le_refl _, fun _ _ _ => rfl, .refl _, hr.lay, fun j hj => absurd hj (hrep j)⟩
    · intro t c hc hag v hv
      have h1 : (E c).get t = (E 0).get t := fx.env (by omega) hc fun s o _ h2 ho hdo => hrep s ((hag s o (by omega) ho hdo).2 h2)
      rw [h1, hE0] at hv
      rw [hsubc c hc]
      exact her.2 t v (by simp) hv
    · intro c b e hc hag hb hbc
      rw [hsubc c hc]
      have hno : ∀ t, 0 ≤ t → t < c → K t = 2 → (D t).testBit b = false := fun t _ h2 hk => by
        cases hd : (D t).testBit b with
        | false => rfl
        | true => exact absurd ((hag t (by omega) hk hd).2 h2) (hrep t)
      obtain ⟨_, a, h2, h3⟩ := hr.live b e hb
      exact ⟨a, by rw [fx.stayB (by omega) hc hno (hold b e hb), hH0]; exact h2, h3⟩
    · intro c c' b d e f hc hc' hag hag' hbc hdc hb hd hef h2 h3
      have hno : ∀ {c b}, c ≤ M → Agr K D M (fun j => (Array.replicate ops.size false).getD j false = true) c b → ∀ t, 0 ≤ t → t < c → K t = 2 → (D t).testBit b = false := fun hc hag t _ h2 hk => by
        cases hd : (D t).testBit _ with
        | false => rfl
        | true => exact absurd ((hag t (by omega) hk hd).2 h2) (hrep t)
      rw [fx.stayB (by omega) hc (hno hc hag) (hold b e hb), hH0] at h2
      rw [fx.stayB (by omega) hc' (hno hc' hag') (hold d f hd), hH0] at h3
      exact hr.inj b d e f hb hd hef h2 h3
  have hend2 : (M = ops.size ∧ r = .done (E M) ds up (H M)) ∨ (M < ops.size ∧ (∀ j, M < j → j < ops.size → ((befores ops.toList []).getD j 0).testBit M = true) ∧ (∀ j, j < M → K j = 2 → ((befores ops.toList []).getD M 0).testBit j = true) ∧
      ∃ o ch h1, ops[M]? = some o ∧ wants (E M) (gdOf ops.toList o.guard) = some true ∧ evOp P run kind .run true (evalE (E M)) ds up ⟨(H M).m, (H M).nx, 0⟩ (nextOf o.op) (aopC P o.type o.op) = some [.pan ch h1] ∧
      r = .pan ch (E M) ds (ops.toList.filterMap (·.dst)) up { h1 with wm := Nat.lor (H M).wm h1.wm }) := by
    rcases hend with ⟨h1, _, h2⟩ | ⟨h1, o, ch, h2, q1, q2, q3, q4, q5, q6⟩
    · exact .inl ⟨h1, h2⟩
    · refine .inr ⟨h1, ?_, ?_, o, ch, h2, q1, q2, q3, q6⟩
      · intro j hj hjs
        unfold waitOk at q4
        have h3 := List.all_eq_true.1 q4 ((befores ops.toList []).getD j 0) ?_
        · exact h3
        · rw [List.mem_iff_getElem?]
          refine ⟨j - (M + 1), ?_⟩
          rw [List.getElem?_drop, show M + 1 + (j - (M + 1)) = j by omega]
          simp [List.getD, hlen, hjs]
      · intro j hj hkj
        have h4 := kinds_spec q5 (j := j) (i := M) (k := 1) (mk := D j) (d := 0) (by rw [List.getElem?_append_left (by simpa using hj), hkk2 j hj, hkj]) (by rw [List.getElem?_append_right (by simp)]; simp) (by omega) (by omega)
        have tk : ∀ x, x < M + 1 → (List.take (M + 1) (befores ops.toList [])).getD x 0 = (befores ops.toList []).getD x 0 := by
          intro x hx
          simp [List.getD, List.getElem?_take, hx]
        rw [tk j (by omega), tk M (by omega)] at h4
        rcases h4 with h4 | h4 | h4
        · have := fx.lt j (by omega) M h4; omega
        · exact h4
        · omega
  have hres := drawn_go hrun hkk fx (k := k) c cs hdst hend2 ops.size t (Array.replicate ops.size false) (by simp) (by unfold left; exact Nat.le_trans (List.length_filter_le _ _) (by simp)) iv hm ht hk hup hds
  rw [hH0] at hres
  cases r with
  | done => exact hres
  | pan => exact hres
open Go.RowKit in
theorem ev_calls {P : Program} [Orc P] [OrcOk P] (hmix : P.follows .mixedOrders = true) {f : FuncId} {args : Array Value} {fuel : Nat} {v : Value} (hargs : args.toList.all (flat 6) = true) (hv : flat 6 v = true)
    (hev : ∃ l, start P f args fuel = some l ∧ (l.all fun o => match o.out with | .ret u => veq 6 u v | _ => false) = true) (w : World) (hlaid : ∀ g o, Val.laid g = some o → w.heap[g]? = some o) :
    Calls P f args w fun e w' => e = .returned v ∧ Below w.heap.size w w' := calls_of_ev hmix (drawnS P) hargs hv hev w hlaid
end Go.Proofs.Ytaloembfekdkoaa.Ev
namespace Go.Proofs.Ytaloembfekdkoaa.Ev
set_option linter.unusedVariables false
set_option linter.unusedSimpArgs false
set_option linter.unusedSectionVars false
set_option linter.unusedSectionVars false
variable [Val]
open Go.RowKit
section
variable {P : Program} [Orc P] [OrcOk P] {f : FuncId} {Q : Exit → Act → World → Prop} {a : Act} {w : World}
noncomputable def slots (l : List (Nat × Value)) : T Value := List.rec (motive := fun _ => T Value) .nil (fun p _ ih => ih.set p.1 p.2) l
end
end Go.Proofs.Ytaloembfekdkoaa.Ev
