/-
  The evaluator: what it tells of operations is so (second part). No condition.
-/
import Derived.Test.YtaloembfekdkoaaEvOpsA
namespace Go.Proofs.Ytaloembfekdkoaa.Ev
set_option linter.unusedVariables false
set_option linter.unusedSimpArgs false
set_option linter.unusedSectionVars false
set_option linter.unusedSectionVars false
variable [Val]
theorem ba_beq (a b : ByteArray) : (a == b) = (a.data.toList == b.data.toList) := by
  show (a.data == b.data) = _
  rw [Bool.eq_iff_iff]
  constructor
  · intro h
    rw [show a.data = b.data by simpa using h]; simp
  · intro h
    rw [show a.data = b.data from Array.toList_inj.1 (by simpa using h)]; simp
theorem ba_eq {a b : ByteArray} (h : (a.data.toList == b.data.toList) = true) : a = b := ByteArray.ext (Array.toList_inj.1 (by simpa using h))
theorem ERL.length {σ : Sg} : ∀ {l l' : List MapEntry}, ERL σ l l' → l'.length = l.length
  | _, _, .nil => rfl
  | _, _, .cons _ _ t => by simp [ERL.length t]
theorem keyEq_ok {σ : Sg} {P : Program} [Orc P] [OrcOk P] {key : TypeId} {d : TypeDesc} {k k' e e' : Value} {q : Bool} (hp : plainKey P key k = true) (hu : P.underlying key = some d) (hk : VR σ k k') (he : VR σ e e') (h : keyEq k e = some q) :
    Instr.sameNow d k' e' = some q ∧ k' = k ∧ e' = e ∧ (q = true → k = e) := by
  unfold plainKey at hp
  rw [hu] at hp
  cases d <;> cases k <;> first | (cases hp; done) | skip
  · cases hk; cases e <;> first | (cases h; done) | skip
    cases he
    cases h
    exact ⟨rfl, rfl, rfl, fun hh => by rw [show _ = _ from eq_of_beq hh]⟩
  · cases hk; cases e <;> first | (cases h; done) | skip
    cases he
    rename_i j a b c dd
    simp only [keyEq] at h
    obtain ⟨h1, h2⟩ := cond_some h
    have h1 : _ = _ := of_decide_eq_true h1
    subst h1
    cases h2
    refine ⟨by simp [Instr.sameNow, beq_decI], rfl, rfl, fun hh => by rw [show _ = _ from of_decide_eq_true hh]⟩
  · cases hk; cases e <;> first | (cases h; done) | skip
    cases he
    cases h
    refine ⟨by simp only [Instr.sameNow, ba_beq], rfl, rfl, fun hh => ?_⟩
    rw [ba_eq hh]
theorem findK_ok {σ : Sg} {P : Program} [Orc P] [OrcOk P] {key : TypeId} {d : TypeDesc} {k k' : Value} (hp : plainKey P key k = true) (hu : P.underlying key = some d) (hk : VR σ k k') :
    ∀ {es es' : List MapEntry} {i : Nat} {r : Option (Nat × Value)}, ERL σ es es' → findK k es i = some r →
      (r = none ∧ Instr.findNow d k' es' i = some none) ∨ ∃ j v v' key', r = some (j, v) ∧ Instr.findNow d k' es' i = some (some (j, v')) ∧ VR σ v v' ∧ i ≤ j ∧ (es'[j - i]?).map (·.key) = some key' ∧ key' = k' := by
  intro es
  induction es with
  | nil => intro es' i r he hf; cases he; cases hf; exact .inl ⟨rfl, rfl⟩
  | cons e es ih =>
    intro es' i r he hf
    cases he with
    | cons hke hve t =>
      simp only [findK] at hf
      split at hf
      · rename_i hq
        cases hf
        obtain ⟨h1, h2, h3, h4⟩ := keyEq_ok hp hu hk hke hq
        refine .inr ⟨i, _, _, _, rfl, by simp [Instr.findNow, h1], hve, Nat.le_refl _, by rw [Nat.sub_self]; rfl, ?_⟩
        simp only [h2, h3, h4 rfl]
      · rename_i hq
        obtain ⟨h1, h2, h3, h4⟩ := keyEq_ok hp hu hk hke hq
        rcases ih t hf with ⟨h5, h6⟩ | ⟨j, v, v', key', h5, h6, h7, h8, h9, h10⟩
        · exact .inl ⟨h5, by simp only [Instr.findNow, h1]; exact h6⟩
        · refine .inr ⟨j, v, v', key', h5, by simp only [Instr.findNow, h1]; exact h6, h7, by omega, ?_, h10⟩
          have h8 : i + 1 ≤ j := h8
          rw [show j - i = (j - (i + 1)) + 1 by omega]
          simpa using h9
      · cases hf
section
variable {P : Program} [Orc P] [OrcOk P] {w : World}
theorem checkKey_run {key : TypeId} {k : Value} (hp : plainKey P key k = true) (b : Bool) (n : Nat) : (Instr.checkKey b (n + 1) key k).run P w = .ok () w := by
  unfold plainKey at hp
  cases hu : P.underlying key with
  | none => rw [hu] at hp; cases hp
  | some d =>
    rw [hu] at hp
    cases d <;> cases k <;> first | (cases hp; done) | simp [Instr.checkKey, und_run hu]
theorem plain_refl {σ : Sg} {key : TypeId} {k k' : Value} (hp : plainKey P key k = true) (hk : VR σ k k') : k' = k := by
  unfold plainKey at hp
  split at hp <;> first | (cases hp; done) | (cases hk; rfl)
end
theorem plain_flat {P : Program} [Orc P] [OrcOk P] {key : TypeId} {k : Value} (hp : plainKey P key k = true) : ∃ d, P.underlying key = some d := by
  unfold plainKey at hp
  cases hu : P.underlying key with
  | none => rw [hu] at hp; cases hp
  | some d => exact ⟨d, rfl⟩
section ops
variable {P : Program} [Orc P] [OrcOk P] {σ : Sg} {h : AH} {w : World} {ρ : Ev} {ρ' : Operand → Value} (hr : HR P σ h w) (hρ : ∀ x v, ρ x = some v → VR σ v (ρ' x))
include hr in
theorem map_ok {b : Nat} {e : Ent} (hb : σ b = some e) {es : Array MapEntry} {clock : Nat} (hg : h.get b = some (.obj (.map es clock))) :
    ∃ es' : Array MapEntry, w.heap[e.blk]? = some (.map es' clock) ∧ ERL σ es.toList es'.toList ∧ (getObj e.blk).run P w = .ok (.map es' clock) w := by
  obtain ⟨o, ho, hok⟩ := obj_ok hr hb hg
  obtain ⟨es', rfl, h1⟩ := hok
  exact ⟨es', ho, h1, by simp [getObj, Sem.run, ho]⟩
theorem lookup_run {t key elem : TypeId} {x' k' : Value} {ok : Bool} {es' : Array MapEntry} (hu : P.underlying t = some (.map key elem)) (hck : ∀ b, (Instr.checkKey b 10000 key k').run P w = .ok () w)
    (hx : (x' = .map none ∧ es' = #[]) ∨ ∃ r clock, x' = .map (some r) ∧ (getObj r).run P w = .ok (.map es' clock) w) {f : Option (Nat × Value)} (hf : (Instr.findKey key k' es'.toList).run P w = .ok f w)
    {v : Value} (hv : (∃ j, f = some (j, v)) ∨ (f = none ∧ (zeroValue elem).run P w = .ok v w)) :
    (Instr.lookup t x' k' ok).run P w = .ok (cond ok (.tuple #[v, .bool f.isSome]) v) w := by
  rcases hx with ⟨rfl, rfl⟩ | ⟨r, clock, rfl, hg⟩
  · rcases hv with ⟨j, rfl⟩ | ⟨rfl, hz⟩ <;> cases ok <;> simp_all [Instr.lookup, und_run hu]
  · rcases hv with ⟨j, rfl⟩ | ⟨rfl, hz⟩ <;> cases ok
    · simp [Instr.lookup, und_run hu, hg, hck _, hf]
    · simp [Instr.lookup, und_run hu, hg, hck _, hf]
    · simp [Instr.lookup, und_run hu, hg, hck _, hf, hz]
    · simp [Instr.lookup, und_run hu, hg, hck _, hf, hz]
include hr hρ in
theorem opLookup_ok {o : Oper} {t : TypeId} {x ix : Operand} {ok : Bool} {r : AR} (ho : o.op = .lookup t x ix ok) (hop : opLookup P h ρ t x ix ok = some r) : ARel P σ h w ((execOp ρ' o).run P w) r := by
  unfold opLookup at hop
  split at hop
  · rename_i mr k hx hk
    have hxv := hρ _ _ hx
    have hkv := hρ _ _ hk
    split at hop
    · rename_i key elem hu
      split at hop
      · rename_i es hes hpk
        obtain ⟨d, hd⟩ := plain_flat hpk
        have hkk := plain_refl hpk hkv
        have hck : ∀ b, (Instr.checkKey b 10000 key (ρ' ix)).run P w = .ok () w := fun b => by rw [hkk]; exact checkKey_run (w := w) hpk b 9999
        have hent : ∃ es' : Array MapEntry, ERL σ es es'.toList ∧ ((ρ' x = .map none ∧ es' = #[]) ∨ ∃ r clock, ρ' x = .map (some r) ∧ (getObj r).run P w = .ok (.map es' clock) w) := by
          unfold entriesL at hes
          split at hes
          · cases hes
            generalize hx' : ρ' x = xx at hxv
            cases hxv
            exact ⟨#[], .nil, .inl ⟨rfl, rfl⟩⟩
          · rename_i r
            generalize hx' : ρ' x = xx at hxv
            cases hxv with
            | map hb =>
              split at hes
              · rename_i es0 clock hg
                cases hes
                obtain ⟨es', h1, h2, h3⟩ := map_ok (P := P) hr hb hg
                exact ⟨es', h2, .inr ⟨_, _, rfl, h3⟩⟩
              · cases hes
        obtain ⟨es', he1, he2⟩ := hent
        split at hop
        · rename_i j v hf
          cases hop
          rcases findK_ok hpk hd hkv he1 hf with ⟨hn, _⟩ | ⟨j', v', v'', key', h1, h2, h3, _⟩
          · cases hn
          · cases h1
            have hfk : (Instr.findKey key (ρ' ix) es'.toList).run P w = .ok (some (j, v'')) w := by simp [Instr.findKey, und_run hd, h2]
            refine .pure hr (v' := cond ok (.tuple #[v'', .bool true]) v'') ?_ ?_
            · simp [execOp, ho, lookup_run (ok := ok) hu hck he2 hfk (.inl ⟨j, rfl⟩)]
            · cases ok
              · exact h3
              · exact .tuple (.cons h3 (.cons (.bool true) .nil))
        · rename_i hf
          split at hop
          · rename_i z hz
            cases hop
            obtain ⟨z1, z2⟩ := zero_run (w := w) hz
            rcases findK_ok hpk hd hkv he1 hf with ⟨_, h2⟩ | ⟨j', v', v'', key', h1, _⟩
            · have hfk : (Instr.findKey key (ρ' ix) es'.toList).run P w = .ok none w := by simp [Instr.findKey, und_run hd, h2]
              refine .pure hr (v' := cond ok (.tuple #[z, .bool false]) z) ?_ ?_
              · simp [execOp, ho, lookup_run (ok := ok) hu hck he2 hfk (.inr ⟨rfl, z1⟩)]
              · cases ok
                · exact flat_refl σ 6 z2
                · exact .tuple (.cons (flat_refl σ 6 z2) (.cons (.bool false) .nil))
            · cases h1
          · cases hop
        · cases hop
      · cases hop
    · cases hop
  · cases hop
theorem ERL.set {σ : Sg} : ∀ {l l' : List MapEntry} (i : Nat) {k k' v v' : Value} {b : Nat}, ERL σ l l' → VR σ k k' → VR σ v v' → ERL σ (l.set i ⟨k, v, b⟩) (l'.set i ⟨k', v', b⟩)
  | _, _, i, _, _, _, _, _, .nil, _, _ => by cases i <;> exact .nil
  | _, _, 0, _, _, _, _, _, .cons _ _ t, h1, h2 => .cons h1 h2 t
  | _, _, i + 1, _, _, _, _, _, .cons hk hv t, h1, h2 => .cons hk hv (ERL.set i t h1 h2)
theorem ERL.snoc {σ : Sg} {k k' v v' : Value} {b : Nat} (h1 : VR σ k k') (h2 : VR σ v v') : ∀ {l l' : List MapEntry}, ERL σ l l' → ERL σ (l ++ [⟨k, v, b⟩]) (l' ++ [⟨k', v', b⟩])
  | _, _, .nil => .cons h1 h2 .nil
  | _, _, .cons hk hv t => .cons hk hv (ERL.snoc h1 h2 t)
theorem ERL.born {σ : Sg} : ∀ {l l' : List MapEntry}, ERL σ l l' → ∀ i, bornAt l i = bornAt l' i
  | _, _, .nil, _ => rfl
  | _, _, .cons _ _ _, 0 => rfl
  | _, _, .cons _ _ t, i + 1 => by simpa [bornAt] using ERL.born t i
theorem setObj_run {P : Program} [Orc P] [OrcOk P] {w : World} {r : Nat} {o o' : Obj} (hg : w.heap[r]? = some o) (ho : ∀ c e f, o ≠ .cells c e f) : (setObj r o').run P w = .ok () { w with heap := w.heap.setIfInBounds r o' } := by
  cases o <;> simp [setObj, Sem.run, hg] <;> exact absurd rfl (ho _ _ _)
theorem obj_put (hr : HR P σ h w) {b : Nat} {e : Ent} (hb : σ b = some e) {x y : Obj} (hg : h.get b = some (.obj x)) (o' : Obj) (hok : okObj P σ e (.obj y) o') :
    Ext P σ h w σ (h.put b (.obj y)) { w with heap := w.heap.setIfInBounds e.blk o' } := by
  obtain ⟨o, ho, _⟩ := obj_ok hr hb hg
  have hlt := (Array.getElem?_eq_some_iff.1 ho).1
  refine put_ext hr hb (by rw [hg]; intro hh; cases hh) _ _ (by simp) ⟨rfl, rfl, rfl⟩ (fun k hk => ?_) (.inr ⟨o', ?_, hok⟩)
  · show (w.heap.setIfInBounds e.blk o')[k]? = _
    rw [Array.getElem?_setIfInBounds_ne (Ne.symm hk)]
  · show (w.heap.setIfInBounds e.blk o')[e.blk]? = _
    simp [hlt]
theorem sameBits_plain {key : TypeId} {k : Value} (hp : plainKey P key k = true) (n : Nat) : Instr.sameBits n k k = true := by
  unfold plainKey at hp
  split at hp
  · simp [Instr.sameBits]
  · simp [Instr.sameBits, ba_beq]
  · simp [Instr.sameBits]
  · cases hp
include hr hρ in
theorem opUpdate_ok {o : Oper} {t : TypeId} {m k x : Operand} {r : AR} (ho : o.op = .mapUpdate t m k x) (hop : opUpdate P h ρ t m k x = some r) : ARel P σ h w ((execOp ρ' o).run P w) r := by
  unfold opUpdate at hop
  split at hop
  · rename_i b kv vv hm hk hv
    have hmv := hρ _ _ hm
    have hkv := hρ _ _ hk
    have hvv := hρ _ _ hv
    generalize hm' : ρ' m = mm at hmv
    cases hmv with
    | map hb =>
      rename_i e
      split at hop
      · rename_i key elem hu
        split at hop
        · rename_i es clock hg hpk
          obtain ⟨d, hd⟩ := plain_flat hpk
          have hkk := plain_refl hpk hkv
          have hck : (Instr.checkKey false 10000 key (ρ' k)).run P w = .ok () w := by rw [hkk]; exact checkKey_run (w := w) hpk false 9999
          obtain ⟨es', h1, h2, h3⟩ := map_ok (P := P) hr hb hg
          have hset : ∀ o', (setObj e.blk o').run P w = .ok () { w with heap := w.heap.setIfInBounds e.blk o' } := fun o' => setObj_run h1 (fun _ _ _ hh => by cases hh)
          split at hop
          · rename_i i v0 hf
            cases hop
            rcases findK_ok hpk hd hkv h2 hf with ⟨hn, _⟩ | ⟨j', v', v'', key', q1, q2, q3, _, q5, q6⟩
            · cases hn
            · cases q1
              have hfk : (Instr.findKey key (ρ' k) es'.toList).run P w = .ok (some (i, v'')) w := by simp [Instr.findKey, und_run hd, q2]
              have q5' : (es'[i]?).map (·.key) = some (ρ' k) := by rw [← q6]; simpa using q5
              have hst : (Instr.keyThatStays (ρ' k) (ρ' k)).run P w = .ok (ρ' k) w := by
                unfold Instr.keyThatStays; rw [if_pos (by rw [hkk]; exact sameBits_plain hpk _)]; rfl
              have hmod : (es'.modify i fun e => { e with key := ρ' k, val := ρ' x }).toList = es'.toList.set i ⟨ρ' k, ρ' x, bornAt es.toList i⟩ := by
                rw [h2.born i]
                apply List.ext_getElem?
                intro n
                rw [Array.getElem?_toList, Array.getElem?_modify, List.getElem?_set]
                by_cases hin : i = n
                · subst hin
                  cases hei : es'[i]? with
                  | none => rw [hei] at q5'; cases q5'
                  | some en =>
                    have hlt : i < es'.toList.length := by simpa using (Array.getElem?_eq_some_iff.1 hei).1
                    have hb' : bornAt es'.toList i = en.born := by unfold bornAt; rw [Array.getElem?_toList, hei]
                    rw [if_pos rfl, if_pos rfl, if_pos hlt, hb']; rfl
                · rw [if_neg hin, if_neg hin, Array.getElem?_toList]
              refine ⟨σ, undef, _, .inr ⟨?_, rfl⟩, .tuple .nil, obj_put hr hb hg (.map (es'.modify i fun e => { e with key := ρ' k, val := ρ' x }) clock) ⟨_, rfl, by rw [hmod]; exact h2.set i hkv hvv⟩⟩
              simp [execOp, ho, hm', Instr.mapUpdate, und_run hu, h3, hck, hfk, q5', hst, hset]
          · rename_i hf
            cases hop
            rcases findK_ok hpk hd hkv h2 hf with ⟨_, q2⟩ | ⟨j', v', v'', key', q1, _⟩
            · have hfk : (Instr.findKey key (ρ' k) es'.toList).run P w = .ok none w := by simp [Instr.findKey, und_run hd, q2]
              refine ⟨σ, undef, _, .inr ⟨?_, rfl⟩, .tuple .nil, obj_put hr hb hg (.map (es'.push ⟨ρ' k, ρ' x, clock⟩) (clock + 1)) ⟨_, rfl, by rw [Array.toList_push]; exact h2.snoc hkv hvv⟩⟩
              simp [execOp, ho, hm', Instr.mapUpdate, und_run hu, h3, hck, hfk, hset]
            · cases q1
          · cases hop
        · cases hop
      · cases hop
  · cases hop
include hr hρ in
theorem opRange_ok {o : Oper} {t : TypeId} {x : Operand} {r : AR} (ho : o.op = .range t x) (hop : opRange P h ρ t x = some r) : ARel P σ h w ((execOp ρ' o).run P w) r := by
  unfold opRange at hop
  split at hop
  · rename_i b hm
    have hmv := hρ _ _ hm
    generalize hm' : ρ' x = mm at hmv
    cases hmv with
    | map hb =>
      rename_i e
      split at hop
      · rename_i key elem hu
        split at hop
        · rename_i es clock hg
          cases hop
          obtain ⟨es', h1, h2, h3⟩ := map_ok (P := P) hr hb hg
          have hlt := (hr.live b e hb).1
          refine ⟨_, .pointer (some ⟨w.heap.size, 0, none⟩), _, .inl ?_, ?_, push_ext hr _ (.mapIter (some e.blk) clock #[] clock) 0 0 ⟨e, ?_, rfl⟩⟩
          · simp [execOp, ho, hm', Instr.range, und_run hu, h3]
          · have : (fun b => if b = h.nx then some (⟨w.heap.size, 0, 0⟩ : Ent) else σ b) h.nx = some ⟨w.heap.size, 0, 0⟩ := by simp
            exact .ptr (e := ⟨w.heap.size, 0, 0⟩) this
          · simp only; rw [if_neg (by omega)]; exact hb
        · cases hop
      · cases hop
  · cases hop
end ops
end Go.Proofs.Ytaloembfekdkoaa.Ev
namespace Go.Proofs.Ytaloembfekdkoaa.Ev
set_option linter.unusedVariables false
set_option linter.unusedSimpArgs false
set_option linter.unusedSectionVars false
set_option linter.unusedSectionVars false
variable [Val]
theorem grow_le {need : Nat} : ∀ (r c : Nat), c ≤ 4 * need + 4096 → Builtin.growBy need r c ≤ 4 * need + 4096 := by
  intro r
  induction r with
  | zero => intro c h; exact h
  | succ r ih =>
    intro c h
    simp only [Builtin.growBy]
    split
    · exact h
    · exact ih _ (by omega)
theorem next_le {need c : Nat} (h : c < need) : Builtin.nextslicecap need c ≤ 4 * need + 4096 := by
  unfold Builtin.nextslicecap
  split
  · omega
  · split
    · omega
    · exact grow_le 4 c (by omega)
section
variable {P : Program} [Orc P] [OrcOk P] {σ : Sg} {h : AH} {w : World}
theorem src_ok (hr : HR P σ h w) {size : Nat} {x x' : Value} (hx : VR σ x x') {n : Nat} {new : List Value} (hs : srcCells h size x = some (n, new)) :
    ∃ new', RL σ new new' ∧ (Builtin.lenOf x').run P w = .ok n w ∧ new.length = n * size ∧ ∀ d, (Builtin.firstCells size n x').run P { w with drawn := d } = .ok ⟨new'⟩ { w with drawn := d } := by
  unfold srcCells at hs
  split at hs
  · rename_i l c
    obtain ⟨h1, h2⟩ := cond_some hs
    have h1 : l = 0 := Nat.eq_of_beq_eq_true h1
    cases h2
    cases hx
    subst h1
    exact ⟨[], .nil, by simp [Builtin.lenOf], by simp, fun d => by simp [Builtin.firstCells]⟩
  · rename_i a l c
    split at hs
    · rename_i row hrow
      cases hs
      obtain ⟨b, q, e, c', rfl, hb, rfl, _⟩ := sl_inv hx
      obtain ⟨l', h1, h2, h3⟩ := row_ok hr hb hrow
      refine ⟨l', h1, by simp [Builtin.lenOf], h2, fun d => ?_⟩
      simp only [Builtin.firstCells]
      exact load_row (P := P) (by rw [h1.length, h2]; rfl) h3
    · cases hs
  · rename_i s
    obtain ⟨h1, h2⟩ := cond_some hs
    have h1 : size = 1 := Nat.eq_of_beq_eq_true h1
    subst h1
    cases h2
    cases hx
    have e1 : s.data.toList.length = s.size := by rw [Array.length_toList]; rfl
    refine ⟨_, ofBytes_ok σ _, by simp [Builtin.lenOf, e1], by simp [ofBytes_length], fun d => ?_⟩
    have hex : s.extract 0 s.data.toList.length = s := by
      rw [extract_eq]
      have : (s.data.toList.take s.data.toList.length).drop 0 = s.data.toList := by rw [List.drop_zero, List.take_length]
      rw [this]
    have : s.data.map (fun b => Value.int .u8 b.toNat) = ⟨ofBytes s.data.toList⟩ := by
      apply Array.ext'; simp [ofBytes]
    simp only [Builtin.firstCells, hex, this, Sem.run_pure]
  · cases hs
theorem adopt_ext (hr : HR P σ h w) {b : Nat} {e : Ent} (hb : σ b = some e) (hd : h.get b ≠ some .dead) (a : AObj) (w1 : World) (n sz : Nat)
    (hsz : w1.heap.size = w.heap.size) (hs : Same w w1) (hoth : ∀ k, k ≠ e.blk → w1.heap[k]? = w.heap[k]?) (o1 : Obj) (ho1 : w1.heap[e.blk]? = some o1)
    (hok : okObj P (fun c => if c = h.nx then some ⟨e.blk, n, sz⟩ else σ c) ⟨e.blk, n, sz⟩ a o1) :
    Ext P σ h w (fun c => if c = h.nx then some ⟨e.blk, n, sz⟩ else σ c) ((h.put b .dead).push a) w1 := by
  have old : ∀ b e, σ b = some e → b < h.nx := fun b e hb => (hr.live b e hb).1
  have sub : σ.sub (fun c => if c = h.nx then some ⟨e.blk, n, sz⟩ else σ c) := fun c f hc => by
    have := old c f hc; simp only; rw [if_neg (by omega)]; exact hc
  have hbn : b < h.nx := old b e hb
  have hget : ∀ c, ((h.put b .dead).push a).get c = if c = h.nx then some a else if c = b then some .dead else h.get c := fun c => by
    rw [AH.get_push, AH.nx_put, AH.get_put]
  have lay : Lay (fun c => if c = h.nx then some ⟨e.blk, n, sz⟩ else σ c) w1 := fun g o hg => by
    obtain ⟨h1, h2⟩ := hr.lay g o hg
    refine ⟨by rw [hoth g fun hh => h2 b e hb hh.symm]; exact h1, fun c f hc => ?_⟩
    by_cases hcn : c = h.nx
    · simp only [hcn, if_true] at hc; cases hc; exact h2 b e hb
    · simp only [hcn, if_false] at hc; exact h2 c f hc
  refine ⟨old, sub, ?_, ⟨?_, ?_, lay⟩, by omega, ?_, by rw [AH.nx_push, AH.nx_put]; omega, ?_, ?_, hs⟩
  · intro c f hc
    by_cases hcn : c = h.nx
    · simp only [hcn, if_true] at hc; cases hc
      exact .inr ⟨by omega, .inr ⟨b, e, hb, rfl, hd⟩⟩
    · simp only [hcn, if_false] at hc; exact .inl hc
  · intro c f hc
    rw [AH.nx_push, AH.nx_put, hget]
    by_cases hcn : c = h.nx
    · simp only [hcn, if_true] at hc; cases hc
      exact ⟨by omega, a, if_pos hcn, .inr ⟨o1, ho1, hok⟩⟩
    · simp only [hcn, if_false] at hc
      have := old c f hc
      refine ⟨by omega, ?_⟩
      rw [if_neg hcn]
      by_cases hcb : c = b
      · exact ⟨.dead, if_pos hcb, .inl rfl⟩
      · obtain ⟨h1, a', h2, h3⟩ := hr.live c f hc
        refine ⟨a', by rw [if_neg hcb]; exact h2, ?_⟩
        rcases h3 with h3 | ⟨o', ho', hok'⟩
        · exact .inl h3
        · by_cases had : a' = .dead
          · exact .inl had
          · refine .inr ⟨o', ?_, hok'.mono sub⟩
            rw [hoth _ ?_]; exact ho'
            intro hh
            exact hcb (hr.inj c b f e hc hb hh (by rw [h2]; intro hq; cases hq; exact had rfl) hd)
  · intro c d f g hc hd' hfg
    rw [hget, hget]
    intro h1 h2
    have aux : ∀ c f, σ c = some f → c ≠ h.nx → f.blk = e.blk → (if c = h.nx then some a else if c = b then some .dead else h.get c) ≠ some .dead → False := by
      intro c f hc hcn hf hl
      rw [if_neg hcn] at hl
      by_cases hcb : c = b
      · rw [if_pos hcb] at hl; exact hl rfl
      · rw [if_neg hcb] at hl
        exact hcb (hr.inj c b f e hc hb hf hl hd)
    by_cases hcn : c = h.nx
    · by_cases hdn : d = h.nx
      · omega
      · simp only [hcn, if_true] at hc; cases hc
        simp only [hdn, if_false] at hd'
        exact (aux d g hd' hdn hfg.symm h2).elim
    · simp only [hcn, if_false] at hc
      by_cases hdn : d = h.nx
      · simp only [hdn, if_true] at hd'; cases hd'
        exact (aux c f hc hcn hfg h1).elim
      · simp only [hdn, if_false] at hd'
        rw [if_neg hcn] at h1; rw [if_neg hdn] at h2
        by_cases hcb : c = b
        · rw [if_pos hcb] at h1; exact (h1 rfl).elim
        · by_cases hdb : d = b
          · rw [if_pos hdb] at h2; exact (h2 rfl).elim
          · rw [if_neg hcb] at h1; rw [if_neg hdb] at h2
            exact hr.inj c d f g hc hd' hfg h1 h2
  · intro k hk hl
    exact hoth k fun hh => hd (hl b e hb hh.symm)
  · intro c hc hdc
    rw [hget, if_neg (by omega)]
    by_cases hcb : c = b
    · rw [if_pos hcb]
    · rw [if_neg hcb]; exact hdc
  · intro c hc hw
    rw [AH.wm_push, AH.wm_put, Bool.or_eq_false_iff] at hw
    refine ⟨hw.1, ?_⟩
    rw [hget, if_neg (by omega), if_neg (by simpa using hw.2)]
end
theorem xs_cases {P : Program} [Orc P] [OrcOk P] {ts : Array TypeId} (hxs : xsOk P (ts.toList.drop 1) = true) : ts[1]? = none ∨ ∃ t1 d, ts[1]? = some t1 ∧ P.underlying t1 = some d ∧ ∀ k, d ≠ .int k := by
  have e1 : ts[1]? = (ts.toList.drop 1)[0]? := by simp
  rw [e1]
  cases hd : ts.toList.drop 1 with
  | nil => exact .inl rfl
  | cons t1 tl =>
    rw [hd] at hxs
    simp only [xsOk] at hxs
    cases hu1 : P.underlying t1 with
    | none => rw [hu1] at hxs; cases hxs
    | some d =>
      rw [hu1] at hxs
      exact .inr ⟨t1, d, rfl, hu1, fun k hk => by subst hk; cases hxs⟩
section
variable {P : Program} [Orc P] [OrcOk P] {σ : Sg} {h : AH} {w : World}
theorem push_same {σ1 : Sg} {h1 : AH} {w1 : World} {c c' : T Value} {n n' : Nat} {el : TypeId} {p : Bool} (x : Ext P σ h w σ1 (h1.push (.cells c n el p)) w1) (hnx : h.nx ≤ h1.nx) (hn : n' = n) (hg : ∀ i, i < n → c'.get i = c.get i) :
    Ext P σ h w σ1 (h1.push (.cells c' n' el p)) w1 := by
  subst hn
  have hd : ∀ b, ((h1.push (.cells c' n' el p)).get b = some .dead) ↔ ((h1.push (.cells c n' el p)).get b = some .dead) := by
    intro b
    rw [AH.get_push, AH.get_push]
    by_cases hb : b = h1.nx
    · rw [if_pos hb, if_pos hb]; constructor <;> intro hh <;> cases hh
    · rw [if_neg hb, if_neg hb]
  have ho : ∀ b, b < h.nx → (h1.push (.cells c' n' el p)).get b = (h1.push (.cells c n' el p)).get b := by
    intro b hb
    rw [AH.get_push, AH.get_push, if_neg (by omega), if_neg (by omega)]
  have hnn : (h1.push (.cells c' n' el p)).nx = (h1.push (.cells c n' el p)).nx := by rw [AH.nx_push, AH.nx_push]
  refine ⟨x.old, x.sub, x.new, ⟨?_, ?_, x.hr.lay⟩, x.size, x.frame, by rw [hnn]; exact x.nx, ?_, ?_, x.same⟩
  · intro b e hb
    obtain ⟨q1, a, q2, q3⟩ := x.hr.live b e hb
    rw [hnn]
    refine ⟨q1, ?_⟩
    rw [AH.get_push] at q2 ⊢
    by_cases hbb : b = h1.nx
    · rw [if_pos hbb] at q2 ⊢
      cases q2
      refine ⟨_, rfl, ?_⟩
      rcases q3 with q3 | ⟨o, q3, q4⟩
      · cases q3
      · refine .inr ⟨o, q3, ?_⟩
        obtain ⟨arr, fz, k1, k2, k3, k4, k5, k6, k7⟩ := q4
        refine ⟨arr, fz, k1, k2, k3, k4, k5, k6, fun i hi => ?_⟩
        rw [hg i hi]
        exact k7 i hi
    · rw [if_neg hbb] at q2 ⊢
      exact ⟨a, q2, q3⟩
  · intro b d e f hb hd' hef h2 h3
    exact x.hr.inj b d e f hb hd' hef (fun hh => h2 ((hd b).2 hh)) (fun hh => h3 ((hd d).2 hh))
  · intro b hb hh
    exact (hd b).2 (x.dead b hb hh)
  · intro b hb hh
    rw [AH.wm_push] at hh
    obtain ⟨q1, q2⟩ := x.wr b hb (by rw [AH.wm_push]; exact hh)
    exact ⟨q1, by rw [ho b hb]; exact q2⟩
theorem append_grows (hr : HR P σ h w) {h2 : AH} (hr2 : HR P σ h2 w) {ts : Array TypeId} {t0 elem : TypeId} (ty : TypeId) {i : TypeInfo} {z : List Value} {x x' : Value} {base' : Option Addr} {sLen n c' : Nat} {old old' new : List Value}
    (h0 : ts[0]? = some t0) (hu : P.underlying t0 = some (.slice elem)) (hi : P.info? elem = some i) (hz : zeroL P elem = some z) (hxs : xsOk P (ts.toList.drop 1) = true) (hzs : z.length = i.size)
    (hx : VR σ x x') (hsrc : srcCells h i.size x = some (n, new)) (hneed : sLen + n ≤ 1099511627776) (hbytes : (4 * (sLen + n) + 4096) * i.bytes ≤ 281474976710656)
    (hold : RL σ old old') (holdl : old.length = sLen * i.size) (hload : ∀ d, (Builtin.firstCells i.size sLen (.slice base' sLen c')).run P { w with drawn := d } = .ok ⟨old'⟩ { w with drawn := d }) (hlt : c' < sLen + n) :
    ∃ σ1 cap w1, (Builtin.append_ ts ty #[.slice base' sLen c', x']).run P w = .ok (.slice (some ⟨w.heap.size, 0, none⟩) (sLen + n) cap) w1 ∧
      VR σ1 (.slice (some ⟨h2.nx, 0, none⟩) (sLen + n) (big + i.size)) (.slice (some ⟨w.heap.size, 0, none⟩) (sLen + n) cap) ∧ Ext P σ h2 w σ1 (h2.newRow elem (old ++ new) true) w1 := by
  obtain ⟨new', n1, n2, n3, n4⟩ := src_ok hr hx hsrc
  obtain ⟨zv, hzv, rfl⟩ := zeroL_run hz
  have hs : sizeL P elem = some i.size := by simp [sizeL, hi]
  have hzc : zv.cells.size = i.size := by simpa using hzs
  generalize hcap : (Question.appendCap (sLen + n) c' elem).cut (w.tape w.drawn (Question.appendCap (sLen + n) c' elem)) = cap
  have hle : sLen + n ≤ cap := by rw [← hcap]; simp only [Question.cut]; omega
  have hrl : (Builtin.zeroCells zv.cells (cap - (sLen + n))).toList.length = (cap - (sLen + n)) * i.size := by simp [Builtin.zeroCells, hzc]
  have htot : (old ++ new).length + (Builtin.zeroCells zv.cells (cap - (sLen + n))).toList.length = cap * i.size := by
    rw [List.length_append, hrl, holdl, n3, ← Nat.add_mul, ← Nat.add_mul]; congr 1; omega
  obtain ⟨σ1, q1, q2⟩ := newRow_ok hr2 (hold.append n1) elem i.size true (Builtin.zeroCells zv.cells (cap - (sLen + n))).toList (0, 0) (fun hh => by cases hh) (fun _ => hs) (fun j _ => by simp)
  rw [htot] at q1
  refine ⟨σ1, cap, _, ?_, .slO q1 rfl hle (by simp), q2.drawn (w.drawn + 1)⟩
  have hzr : ∀ w, (zeroValue elem).run P w = .ok zv w := fun w => (zero_run hzv).1
  have hb1 : ¬ ((sLen + n : Nat) : Int) > IntKind.i64.max := by
    have : IntKind.i64.max = 9223372036854775807 := by decide
    rw [this]; omega
  have hb2 : ¬ (Builtin.nextslicecap (sLen + n) c' * i.bytes > 281474976710656) := by
    have := Nat.mul_le_mul_right i.bytes (next_le hlt)
    omega
  have hforced : (Question.appendCap (sLen + n) c' elem).forced = false := rfl
  have hn4 := n4 (w.drawn + 1)
  have hl4 := hload (w.drawn + 1)
  have hnle : ¬ sLen + n ≤ c' := by omega
  have harr : (⟨old'⟩ : Array Value) ++ ⟨new'⟩ ++ Builtin.zeroCells zv.cells (cap - (sLen + n)) = ⟨old' ++ new' ++ (Builtin.zeroCells zv.cells (cap - (sLen + n))).toList⟩ := by
    apply Array.ext'; simp
  rcases xs_cases hxs with h1 | ⟨t1, d, h1, hd, hdi⟩
  · simp only [Builtin.append_, h0, h1, List.getElem?_toArray, List.getElem?_cons_zero, List.getElem?_cons_succ, Sem.run_bind, Result.andThen, und_run hu, size_run hs, Sem.run_pure, n2, Bool.false_eq_true, if_false, if_neg hnle, info_run hi, false_or, hb1, false_and, if_neg hb2, run_choose, hforced, hcap, run_askRoom, Bool.not_false, if_true, hzr, newRow, run_newObj]
    rw [hl4]; simp only; rw [hn4]; simp only; rw [harr]
  · cases d <;> first | exact absurd rfl (hdi _) | (
      simp only [Builtin.append_, h0, h1, List.getElem?_toArray, List.getElem?_cons_zero, List.getElem?_cons_succ, Sem.run_bind, Result.andThen, und_run hu, size_run hs, Sem.run_pure, n2, Bool.false_eq_true, if_false, if_neg hnle, info_run hi, false_or, hb1, false_and, if_neg hb2, run_choose, hforced, hcap, run_askRoom, Bool.not_false, if_true, hzr, newRow, run_newObj, und_run hd]
      rw [hl4]; simp only; rw [hn4]; simp only; rw [harr])
theorem append_room {ts : Array TypeId} {t0 elem : TypeId} (ty : TypeId) {i : TypeInfo} {x' : Value} {base' : Option Addr} {sLen n c' : Nat} {new' : List Value} {w1 : World}
    (h0 : ts[0]? = some t0) (hu : P.underlying t0 = some (.slice elem)) (hi : P.info? elem = some i) (hxs : xsOk P (ts.toList.drop 1) = true)
    (n2 : (Builtin.lenOf x').run P w = .ok n w) (n4 : (Builtin.firstCells i.size n x').run P w = .ok ⟨new'⟩ w) (hle : sLen + n ≤ c')
    (hst : match base' with | some a => (storeCells (a.add (sLen * i.size)) new').run P w = .ok () w1 | none => w1 = w) :
    (Builtin.append_ ts ty #[.slice base' sLen c', x']).run P w = .ok (.slice base' (sLen + n) c') w1 := by
  have hs : sizeL P elem = some i.size := by simp [sizeL, hi]
  rcases xs_cases hxs with h1 | ⟨t1, d, h1, hd, hdi⟩
  · cases base' with
    | none => subst hst; simp only [Builtin.append_, h0, h1, List.getElem?_toArray, List.getElem?_cons_zero, List.getElem?_cons_succ, Sem.run_bind, Result.andThen, und_run hu, size_run hs, Sem.run_pure, n2, Bool.false_eq_true, if_false, if_pos hle, Bool.not_false, if_true, n4]
    | some a => simp only [Builtin.append_, h0, h1, List.getElem?_toArray, List.getElem?_cons_zero, List.getElem?_cons_succ, Sem.run_bind, Result.andThen, und_run hu, size_run hs, Sem.run_pure, n2, Bool.false_eq_true, if_false, if_pos hle, Bool.not_false, if_true, n4, hst]
  · cases base' with
    | none => subst hst; cases d <;> first | exact absurd rfl (hdi _) | simp only [Builtin.append_, h0, h1, List.getElem?_toArray, List.getElem?_cons_zero, List.getElem?_cons_succ, Sem.run_bind, Result.andThen, und_run hu, size_run hs, Sem.run_pure, n2, Bool.false_eq_true, if_false, if_pos hle, Bool.not_false, if_true, n4, und_run hd]
    | some a => cases d <;> first | exact absurd rfl (hdi _) | simp only [Builtin.append_, h0, h1, List.getElem?_toArray, List.getElem?_cons_zero, List.getElem?_cons_succ, Sem.run_bind, Result.andThen, und_run hu, size_run hs, Sem.run_pure, n2, Bool.false_eq_true, if_false, if_pos hle, Bool.not_false, if_true, n4, und_run hd, hst]
theorem opAppend_ok (hr : HR P σ h w) {ts : Array TypeId} (ty : TypeId) {s s' x x' : Value} (hs : VR σ s s') (hx : VR σ x x') {r : AR} (hop : opAppend P h ts.toList s x = some r) :
    ∃ v h1, r = .val v h1 ∧ ∃ σ1 v' w1, (Builtin.append_ ts ty #[s', x']).run P w = .ok v' w1 ∧ VR σ1 v v' ∧ Ext P σ h w σ1 h1 w1 := by
  unfold opAppend at hop
  split at hop
  · cases hop
  · rename_i t0 tl hts
    have h0 : ts[0]? = some t0 := by rw [← Array.getElem?_toList, hts]; rfl
    have hdrop : ts.toList.drop 1 = tl := by rw [hts]; rfl
    split at hop
    · rename_i elem hu
      split at hop
      · rename_i base sLen sCap
        split at hop
        · rename_i d0 st0 size bytes b0 b1 b2 b3 b4 b5 z hi hz hxs
          generalize hii : (⟨d0, st0, size, bytes, b0, b1, b2, b3, b4, b5⟩ : TypeInfo) = i at hi
          have hsize : size = i.size := by rw [← hii]
          have hbytes0 : bytes = i.bytes := by rw [← hii]
          subst hsize; subst hbytes0
          clear hii
          rw [← hdrop] at hxs
          split at hop
          · rename_i n new hsrc
            replace hop := cond_some hop; obtain ⟨hc, hop⟩ := hop
            rw [Bool.and_eq_true, Bool.and_eq_true] at hc
            have hzs : z.length = i.size := Nat.eq_of_beq_eq_true hc.1.1
            have hneed : sLen + n ≤ 1099511627776 := Nat.le_of_ble_eq_true hc.1.2
            have hbytes : (4 * (sLen + n) + 4096) * i.bytes ≤ 281474976710656 := Nat.le_of_ble_eq_true hc.2
            have hsl : sizeL P elem = some i.size := by simp [sizeL, hi]
            obtain ⟨new', n1, n2, n3, n4⟩ := src_ok hr hx hsrc
            have n4' : (Builtin.firstCells i.size n x').run P w = .ok ⟨new'⟩ w := n4 w.drawn
            cases hbig : Nat.ble big sCap with
            | true =>
              rw [cond_t hbig] at hop
              replace hop := cond_some hop; obtain ⟨hcb, hop⟩ := hop
              have hcb : sCap = big + i.size := Nat.eq_of_beq_eq_true hcb
              unfold appOpen at hop
              split at hop
              · rename_i b
                obtain ⟨b', q, e, c', hbb, hb, rfl, hcc⟩ := sl_inv hs
                cases hbb
                split at hop
                · rename_i c k el hg
                  replace hop := cond_some hop; obtain ⟨hc2, hop⟩ := hop
                  rw [Bool.and_eq_true, Bool.and_eq_true, Bool.and_eq_true] at hc2
                  have hel : el = elem := Nat.eq_of_beq_eq_true hc2.1.1.1
                  have hk : sLen * i.size ≤ k := Nat.le_of_ble_eq_true hc2.1.1.2
                  subst hel
                  · simp only [Option.some.injEq] at hop
                    obtain ⟨arr, fz, hw, hf, hn, _, hna, _, hcs⟩ := cells_ok hr hb hg
                    obtain ⟨old, hold⟩ := T.row_of c (Nat.mul sLen i.size) 0 (fun j hj => by
                      have hj' : j < sLen * i.size := hj
                      obtain ⟨v, _, a1, _⟩ := hcs j (by omega)
                      exact ⟨v, by rw [Nat.zero_add]; exact a1⟩)
                    obtain ⟨ol1, ol2⟩ := T.row_spec c _ _ _ hold
                    have ol1' : old.length = sLen * i.size := ol1
                    have hlay : ∀ j, j < (old ++ new).length → (T.lay new (Nat.mul sLen i.size) c).get j = (T.lay (old ++ new) 0 .nil).get j := by
                      intro j hj
                      rw [List.length_append, ol1'] at hj
                      have hm : Nat.mul sLen i.size = sLen * i.size := rfl
                      rw [T.get_lay, T.get_lay, hm]
                      rw [if_pos (show 0 ≤ j ∧ j < 0 + (old ++ new).length by rw [List.length_append, ol1']; omega), Nat.sub_zero]
                      by_cases hj2 : j < sLen * i.size
                      · rw [if_neg (by omega), List.getElem?_append_left (by omega)]
                        have := ol2 j hj2
                        rw [Nat.zero_add] at this
                        exact this
                      · rw [if_pos (by omega), List.getElem?_append_right (by omega), ol1']
                    have hlen2 : Nat.add (Nat.mul sLen i.size) new.length = (old ++ new).length := by rw [List.length_append, ol1']; rfl
                    have hdd : h.get b ≠ some .dead := by rw [hg]; intro hh; cases hh
                    rcases hcc with ⟨hcc, _⟩ | ⟨hcc, hcl, hcn⟩
                    · rw [hcb] at hcc; omega
                    · have hsz : e.sz = i.size := by omega
                      rw [hsz] at hcn
                      have hold' : ∃ old', RL σ old old' ∧ old.length = sLen * i.size ∧ ∀ j v, old'[j]? = some v → w.cell? ⟨e.blk, 0 + j, none⟩ = some v := by
                        cases hk0 : sLen * i.size with
                        | zero =>
                          have hk0' : sLen.mul i.size = 0 := hk0
                          rw [hk0'] at ol1
                          have : old = [] := List.length_eq_zero_iff.1 ol1
                          subst this
                          exact ⟨[], .nil, rfl, fun j v hj => by simp at hj⟩
                        | succ m =>
                          refine row_ok hr hb (k := m + 1) ?_
                          have hk0' : sLen.mul i.size = m + 1 := hk0
                          simp only [AH.row, hg]
                          rw [cond_t (Nat.ble_eq_true_of_le (by show 0 + (m + 1) ≤ k; omega))]
                          rw [hk0'] at hold; exact hold
                      obtain ⟨old', o1, o2, o3⟩ := hold'
                      by_cases hfit : sLen + n ≤ c'
                      · -- it grows where it lies
                        have hnl : new'.length = n * i.size := by rw [n1.length, n3]
                        have hone : new'.all oneC = true := by
                          have aux : ∀ {a a' : List Value}, RL σ a a' → a.all oneC = true → a'.all oneC = true := by
                            intro a
                            induction a with
                            | nil => intro a' r _; cases r; rfl
                            | cons x a ih =>
                              intro a' r hh
                              cases r with
                              | cons hx t =>
                                simp only [List.all_cons, Bool.and_eq_true] at hh ⊢
                                exact ⟨by have := hh.1; cases hx <;> simp_all [oneC], ih t hh.2⟩
                          exact aux n1 hc2.1.2
                        have hcm : (sLen + n) * i.size ≤ c' * i.size := Nat.mul_le_mul_right _ hfit
                        have hadd : sLen * i.size + n * i.size = (sLen + n) * i.size := (Nat.add_mul _ _ _).symm
                        obtain ⟨arr1, w1, k1, k2, k3, k4, k5, k6, k7⟩ := store_row (P := P) new' (0 + sLen * i.size) 0 arr w hw hf hone (by rw [hnl]; omega)
                        have hlenN : (old ++ new).length = (sLen + n) * i.size := by rw [List.length_append, o2, n3, hadd]
                        have hext := adopt_ext hr hb hdd (.cells (T.lay (old ++ new) 0 .nil) (old ++ new).length el true) w1 e.n i.size k5 k6 k7 _ k2
                          ⟨arr1, fz, rfl, by rw [k3]; exact hf, by rw [k3]; exact hn, (fun hh => by cases hh), by rw [k3, hlenN]; omega, fun _ => hsl, by
                            intro j hj
                            rw [hlenN] at hj
                            rw [T.get_lay, if_pos (by rw [hlenN]; omega), Nat.sub_zero, k4 j]
                            by_cases hj2 : j < sLen * i.size
                            · rw [if_neg (by omega), List.getElem?_append_left (by omega)]
                              obtain ⟨v, v', a1, a2, a3⟩ := hcs j (by omega)
                              refine ⟨v, v', ?_, a2, a3.mono (fun c f hc => ?_)⟩
                              · have := ol2 j hj2
                                rw [Nat.zero_add] at this
                                rw [← this]; exact a1
                              · have := (hr.live c f hc).1
                                rw [if_neg (by omega)]; exact hc
                            · rw [if_pos (by rw [hnl]; omega), List.getElem?_append_right (by omega), o2]
                              have hlt2 : j - sLen * i.size < new.length := by rw [n3]; omega
                              obtain ⟨u', hu1, hu2⟩ := n1.get (j - sLen * i.size) _ (List.getElem?_eq_getElem hlt2)
                              refine ⟨_, u', List.getElem?_eq_getElem hlt2, ?_, hu2.mono (fun c f hc => ?_)⟩
                              · rw [← hu1]; congr 1; omega
                              · have := (hr.live c f hc).1
                                rw [if_neg (by omega)]; exact hc⟩
                        refine ⟨_, _, hop.symm, _, _, w1, append_room ty h0 hu hi hxs n2 n4' hfit (by show (storeCells (Addr.add _ _) new').run P w = _; rw [addr_add]; exact k1), ?_, push_same hext (by rw [AH.nx_put]; exact Nat.le_refl _) hlen2 hlay⟩
                        have hnx : (h.put b .dead).nx = h.nx := AH.nx_put _ _ _
                        rw [hnx]
                        have : (fun c => if c = h.nx then some (⟨e.blk, e.n, i.size⟩ : Ent) else σ c) h.nx = some ⟨e.blk, e.n, i.size⟩ := by simp
                        exact .slO (e := ⟨e.blk, e.n, i.size⟩) this rfl hfit (by simpa using hcn)
                      · have hdead : Ext P σ h w σ (h.put b .dead) w := put_ext hr hb hdd .dead w rfl (.refl w) (fun _ _ => rfl) (.inl rfl)
                        obtain ⟨σ1, cap, w1, g1, g2, g3⟩ := append_grows hr hdead.hr (ty := ty) (base' := some ⟨e.blk, 0, none⟩) (c' := c') h0 hu hi hz hxs hzs hx hsrc hneed hbytes o1 o2
                          (fun d => by simp only [Builtin.firstCells]; exact load_row (P := P) (by rw [o1.length, o2]) o3) (by omega)
                        exact ⟨_, _, hop.symm, σ1, _, w1, g1, g2, push_same (hdead.trans g3) (by rw [AH.nx_put]; exact Nat.le_refl _) hlen2 hlay⟩
                · cases hop
              · cases hop
            | false =>
              rw [cond_f hbig] at hop
              have hlt : sCap < big := by
                rcases Nat.lt_or_ge sCap big with h1 | h1
                · exact h1
                · rw [Nat.ble_eq_true_of_le h1] at hbig; cases hbig
              have hs' : ∃ base', s' = .slice base' sLen sCap ∧ ((base = none ∧ base' = none) ∨ ∃ b q e, base = some ⟨b, q, none⟩ ∧ σ b = some e ∧ base' = some ⟨e.blk, q, none⟩) := by
                cases base with
                | none => cases hs; exact ⟨none, rfl, .inl ⟨rfl, rfl⟩⟩
                | some a =>
                  obtain ⟨b, q, e, c', rfl, hb, rfl, hcc⟩ := sl_inv hs
                  rcases hcc with ⟨_, rfl⟩ | ⟨hcc, _⟩
                  · exact ⟨_, rfl, .inr ⟨b, q, e, rfl, hb, rfl⟩⟩
                  · omega
              obtain ⟨base', rfl, hbase⟩ := hs'
              cases hfit : Nat.ble (Nat.add sLen n) sCap with
              | true =>
                rw [cond_t hfit] at hop
                have hfit : sLen + n ≤ sCap := Nat.le_of_ble_eq_true hfit
                unfold appRoom at hop
                rcases hbase with ⟨rfl, rfl⟩ | ⟨b, q, e, rfl, hb, rfl⟩
                · simp only at hop
                  split at hop
                  · cases hop
                    exact ⟨_, _, rfl, σ, _, w, append_room ty h0 hu hi hxs n2 n4' hfit rfl, .slN _ _, .refl hr⟩
                  · cases hop
                · simp only at hop
                  split at hop
                  · rename_i h1 hput
                    cases hop
                    rw [addr_add] at hput
                    obtain ⟨w1, k1, k2⟩ := putRow_ok hr hb n1 hput
                    exact ⟨_, _, rfl, σ, _, w1, append_room ty h0 hu hi hxs n2 n4' hfit (by show (storeCells (Addr.add _ _) new').run P w = _; rw [addr_add]; exact k1), .sl hb hlt, k2⟩
                  · cases hop
              | false =>
                rw [cond_f hfit] at hop
                have hfit : sCap < sLen + n := by
                  rcases Nat.lt_or_ge sCap (sLen + n) with h1 | h1
                  · exact h1
                  · exact absurd (show Nat.ble (Nat.add sLen n) sCap = true from Nat.ble_eq_true_of_le h1) (by rw [hfit]; simp)
                unfold appNew at hop
                split at hop
                · rename_i old hold
                  replace hop := cond_some hop; obtain ⟨hsz, hop⟩ := hop
                  simp only [Option.some.injEq] at hop
                  have hold' : ∃ old', RL σ old old' ∧ old.length = sLen * i.size ∧ ∀ d, (Builtin.firstCells i.size sLen (.slice base' sLen sCap)).run P { w with drawn := d } = .ok ⟨old'⟩ { w with drawn := d } := by
                    rcases hbase with ⟨rfl, rfl⟩ | ⟨b, q, e, rfl, hb, rfl⟩
                    · simp only at hold
                      obtain ⟨h1, h2⟩ := cond_some hold
                      have h1 : sLen = 0 := Nat.eq_of_beq_eq_true h1
                      cases h2
                      subst h1
                      exact ⟨[], .nil, by simp, fun d => by simp [Builtin.firstCells]⟩
                    · simp only at hold
                      obtain ⟨l', k1, k2, k3⟩ := row_ok hr hb hold
                      exact ⟨l', k1, k2, fun d => by simp only [Builtin.firstCells]; exact load_row (P := P) (by rw [k1.length, k2]; rfl) k3⟩
                  obtain ⟨old', o1, o2, o3⟩ := hold'
                  obtain ⟨σ1, cap, w1, g1, g2, g3⟩ := append_grows hr hr (ty := ty) (base' := base') (c' := sCap) h0 hu hi hz hxs hzs hx hsrc hneed hbytes o1 o2 o3 hfit
                  exact ⟨_, _, hop.symm, σ1, _, w1, g1, g2, g3⟩
                · cases hop
          · cases hop
        · cases hop
      · cases hop
    · cases hop
theorem opAppendZ_ok (hr : HR P σ h w) {ts : Array TypeId} (ty : TypeId) {s s' x x' : Value} (hs : VR σ s s') (hx : VR σ x x') {r : AR} (hop : opAppendZ P h ts.toList s x = some r) :
    ∃ v h1, r = .val v h1 ∧ ∃ σ1 v' w1, (Builtin.append_ ts ty #[s', x']).run P w = .ok v' w1 ∧ VR σ1 v v' ∧ Ext P σ h w σ1 h1 w1 := by
  unfold opAppendZ at hop
  split at hop
  · rename_i t t1 tl hts
    have h0 : ts[0]? = some t := by rw [← Array.getElem?_toList, hts]; rfl
    have h1 : ts[1]? = some t1 := by rw [← Array.getElem?_toList, hts]; rfl
    split at hop
    · rename_i elem kk hu hu1
      split at hop
      · rename_i k n
        split at hop
        · rename_i i z hi hz
          obtain ⟨hc, hop⟩ := cond_some hop
          cases hop
          simp only [Bool.and_eq_true] at hc
          obtain ⟨⟨⟨⟨c1, c2⟩, c3⟩, c4⟩, c5⟩ := hc
          have c1 : z.length = i.size := Nat.eq_of_beq_eq_true c1
          have c2 : i.size ≠ 0 := fun hh => by rw [hh] at c2; cases c2
          have c3 : n ≠ 0 := fun hh => by rw [hh] at c3; cases c3
          have c4 : n ≤ 1048576 := Nat.le_of_ble_eq_true c4
          have c5 : (4 * n + 4096) * i.bytes ≤ 281474976710656 := Nat.le_of_ble_eq_true c5
          cases hs
          cases hx
          obtain ⟨zv, hzv, rfl⟩ := zeroL_run hz
          have hsl : sizeL P elem = some i.size := by simp [sizeL, hi]
          have hzc : zv.cells.size = i.size := by simpa using c1
          generalize hcap : (Question.appendCap (0 + n) 0 elem).cut (w.tape w.drawn (Question.appendCap (0 + n) 0 elem)) = cap
          have hle : n ≤ cap := by rw [← hcap]; simp only [Question.cut]; omega
          have hnew : (Builtin.zeroCells zv.cells n).toList = repeatL zv.cells.toList n := range_repeat zv.cells n
          have hrl : (Builtin.zeroCells zv.cells (cap - n)).toList.length = (cap - n) * i.size := by simp [Builtin.zeroCells, hzc]
          have hflat : RL σ zv.cells.toList zv.cells.toList := cells_flat (zero_run (P := P) (w := w) hzv).2 σ
          have htot : (repeatL zv.cells.toList n).length + (Builtin.zeroCells zv.cells (cap - n)).toList.length = cap * i.size := by
            rw [hrl, (repeatL_spec _ n).1, Array.length_toList, hzc, ← Nat.add_mul]; congr 1; omega
          obtain ⟨σ1, q1, q2⟩ := newRow_ok hr (repeat_ok hflat n) elem i.size true (Builtin.zeroCells zv.cells (cap - n)).toList (0, 0) (fun hh => by cases hh) (fun _ => hsl) (fun j _ => by simp)
          rw [htot] at q1
          refine ⟨_, _, rfl, σ1, .slice (some ⟨w.heap.size, 0, none⟩) n cap, _, ?_, .slO q1 rfl hle (by simp), q2.drawn (w.drawn + 1)⟩
          have hzr : ∀ w, (zeroValue elem).run P w = .ok zv w := fun w => (zero_run hzv).1
          have hw : IntKind.i64.wrap (Int.ofNat n) = (n : Int) := IntWalk.i64_in _ (by constructor <;> (simp only [Int.ofNat_eq_natCast]; omega))
          have hb0 : ¬ ((n : Int) < 0) := by omega
          have hb3 : ¬ ((n : Int) * (i.bytes : Int) > 2 ^ 48) := by
            have : n * i.bytes ≤ 281474976710656 := Nat.le_trans (Nat.mul_le_mul_right _ (by omega)) c5
            rw [← Int.natCast_mul]; omega
          have hb1 : ¬ ((0 + n : Nat) : Int) > IntKind.i64.max := by
            have : IntKind.i64.max = 9223372036854775807 := by decide
            rw [this]; omega
          have hb2 : ¬ (Builtin.nextslicecap (0 + n) 0 * i.bytes > 281474976710656) := by
            have := Nat.mul_le_mul_right i.bytes (next_le (need := 0 + n) (c := 0) (by omega))
            rw [Nat.zero_add] at this ⊢
            omega
          have hforced : (Question.appendCap (0 + n) 0 elem).forced = false := rfl
          have hnle : ¬ 0 + n ≤ 0 := by omega
          have hns : ¬ n * i.size = 0 := by
            intro hh
            rcases Nat.mul_eq_zero.1 hh with h | h <;> omega
          have harr : (⟨[]⟩ : Array Value) ++ Builtin.zeroCells zv.cells n ++ Builtin.zeroCells zv.cells (cap - (0 + n)) = ⟨repeatL zv.cells.toList n ++ (Builtin.zeroCells zv.cells (cap - n)).toList⟩ := by
            apply Array.ext'; simp [hnew]
          simp only [Builtin.append_, h0, h1, List.getElem?_toArray, List.getElem?_cons_zero, List.getElem?_cons_succ, Sem.run_bind, Result.andThen, und_run hu, und_run hu1, size_run hsl, Sem.run_pure, if_true, asInt, asIntOf, hw, if_neg hb0, info_run hi, if_neg hb3, if_neg hnle, Int.toNat_natCast, hb1, false_and, if_false, if_neg hb2, run_choose, hforced, hcap, run_askRoom, Bool.not_true, Bool.false_eq_true, Builtin.firstCells, if_neg hns, hzr, newRow, run_newObj]
          rw [show (#[] : Array Value) = ⟨[]⟩ from rfl, harr, Nat.zero_add]
        · cases hop
      · cases hop
    · cases hop
  · cases hop
end
end Go.Proofs.Ytaloembfekdkoaa.Ev
namespace Go.Proofs.Ytaloembfekdkoaa.Ev
set_option linter.unusedVariables false
set_option linter.unusedSimpArgs false
set_option linter.unusedSectionVars false
set_option linter.unusedSectionVars false
variable [Val]
section
variable {P : Program} [Orc P] [OrcOk P] {σ : Sg} {h : AH} {w : World}
theorem opLen_ok (hr : HR P σ h w) {ts : Array TypeId} (ty : TypeId) {x x' : Value} (hx : VR σ x x') {r : AR} (hop : opLen P h ts.toList x = some r) :
    ∃ v h1, r = .val v h1 ∧ ∃ σ1 v' w1, (Builtin.len_ ts ty #[x']).run P w = .ok v' w1 ∧ VR σ1 v v' ∧ Ext P σ h w σ1 h1 w1 := by
  unfold opLen at hop
  split at hop
  · cases hop
  · rename_i t0 tl hts
    have h0 : ts[0]? = some t0 := by rw [← Array.getElem?_toList, hts]; rfl
    split at hop
    · rename_i hu
      split at hop
      · rename_i s
        cases hop; cases hx
        have e1 : s.data.toList.length = s.size := by rw [Array.length_toList]; rfl
        exact ⟨_, _, rfl, σ, goInt s.size, w, by simp [Builtin.len_, h0, und_run hu], by rw [e1]; exact .int _ _, .refl hr⟩
      · cases hop
    · rename_i el hu
      split at hop
      · rename_i a n c
        cases hop
        have hx' : ∃ a' c', x' = .slice a' n c' := by
          cases a with
          | none => cases hx; exact ⟨_, _, rfl⟩
          | some a => obtain ⟨b, q, e, c', _, _, rfl, _⟩ := sl_inv hx; exact ⟨_, _, rfl⟩
        obtain ⟨a', c', rfl⟩ := hx'
        exact ⟨_, _, rfl, σ, goInt n, w, by simp [Builtin.len_, h0, und_run hu], .int _ _, .refl hr⟩
      · cases hop
    · rename_i n el hu
      cases hop
      exact ⟨_, _, rfl, σ, goInt n, w, by simp [Builtin.len_, h0, und_run hu], .int _ _, .refl hr⟩
    · rename_i k el hu
      split at hop
      · rename_i mr
        split at hop
        · rename_i es hes
          cases hop
          unfold entriesL at hes
          split at hes
          · cases hes; cases hx
            exact ⟨_, _, rfl, σ, goInt 0, w, by simp [Builtin.len_, h0, und_run hu], .int _ _, .refl hr⟩
          · split at hes
            · rename_i es0 clock hg
              cases hes
              cases hx with
              | map hb =>
                obtain ⟨es', h1, h2, h3⟩ := map_ok (P := P) hr hb hg
                have hl : es'.size = es0.toList.length := by rw [← Array.length_toList, h2.length]
                exact ⟨_, _, rfl, σ, goInt es'.size, w, by simp [Builtin.len_, h0, und_run hu, h3], by rw [hl]; exact .int _ _, .refl hr⟩
            · cases hes
        · cases hop
      · cases hop
    · cases hop
theorem opCopy_ok (hr : HR P σ h w) {ts : Array TypeId} (ty : TypeId) {d d' s s' : Value} (hd : VR σ d d') (hs : VR σ s s') {r : AR} (hop : opCopy P h ts.toList d s = some r) :
    ∃ v h1, r = .val v h1 ∧ ∃ σ1 v' w1, (Builtin.copy_ ts ty #[d', s']).run P w = .ok v' w1 ∧ VR σ1 v v' ∧ Ext P σ h w σ1 h1 w1 := by
  unfold opCopy at hop
  split at hop
  · cases hop
  · rename_i t0 tl hts
    have h0 : ts[0]? = some t0 := by rw [← Array.getElem?_toList, hts]; rfl
    split at hop
    · rename_i elem hu
      split at hop
      · rename_i base dLen dc
        split at hop
        · rename_i size hsz
          split at hop
          · rename_i n l hsrc
            have hsrc' : ∃ l', RL σ l l' ∧ ∃ m, (Builtin.lenOf s').run P w = .ok m w ∧ Nat.min m dLen = n ∧ (Builtin.firstCells size n s').run P w = .ok ⟨l'⟩ w := by
              split at hsrc
              · rename_i sb sl sc
                cases sb with
                | none =>
                  simp only at hsrc
                  obtain ⟨h1, h2⟩ := cond_some hsrc
                  cases h2
                  cases hs
                  exact ⟨[], .nil, sl, by simp [Builtin.lenOf], rfl, by simp [Builtin.firstCells]⟩
                | some a =>
                  simp only at hsrc
                  split at hsrc
                  · rename_i row hrow
                    cases hsrc
                    obtain ⟨b, q, e, c', rfl, hb, rfl, _⟩ := sl_inv hs
                    obtain ⟨l', k1, k2, k3⟩ := row_ok hr hb hrow
                    exact ⟨l', k1, sl, by simp [Builtin.lenOf], rfl, by simp only [Builtin.firstCells]; exact load_row (P := P) (by rw [k1.length, k2]; rfl) k3⟩
                  · cases hsrc
              · rename_i str
                cases hsrc; cases hs
                have e1 : str.data.toList.length = str.size := by rw [Array.length_toList]; rfl
                refine ⟨_, ofBytes_ok σ _, str.size, by simp [Builtin.lenOf], by rw [e1], ?_⟩
                have : (str.extract 0 (Nat.min str.data.toList.length dLen)).data.map (fun b => Value.int .u8 b.toNat) = ⟨ofBytes (str.data.toList.take (Nat.min str.data.toList.length dLen))⟩ := by
                  rw [extract_eq, List.drop_zero]
                  apply Array.ext'; simp only [Array.toList_map, ofBytes]
                simp only [Builtin.firstCells, this, Sem.run_pure]
              · cases hsrc
            obtain ⟨l', s1, m, s2, s3, s4⟩ := hsrc'
            have s3' : m.min dLen = n := s3
            cases base with
            | none =>
              cases hd
              simp only at hop
              split at hop
              · cases hop
                exact ⟨_, _, rfl, σ, goInt n, w, by simp [Builtin.copy_, h0, und_run hu, s2, s3', size_run hsz, s4], .int _ _, .refl hr⟩
              · cases hop
            | some a =>
              obtain ⟨b, q, e, c', rfl, hb, rfl, _⟩ := sl_inv hd
              simp only at hop
              split at hop
              · rename_i h1 hput
                cases hop
                obtain ⟨w1, k1, k2⟩ := putRow_ok hr hb s1 hput
                exact ⟨_, _, rfl, σ, goInt n, w1, by simp [Builtin.copy_, h0, und_run hu, s2, s3', size_run hsz, s4, k1], .int _ _, k2⟩
              · cases hop
          · cases hop
        · cases hop
      · cases hop
    · cases hop
theorem opBuiltin_ok (hr : HR P σ h w) {b : Builtin} {ts : Array TypeId} (ty : TypeId) (cs : Array Bool) {args : List Value} {args' : Array Value} (ha : RL σ args args'.toList) {r : AR} (hop : opBuiltin P h b ts.toList args = some r) :
    ARel P σ h w ((builtin b ts ty cs args').run P w) r := by
  have two : ∀ {x y : Value}, args = [x, y] → ∃ x' y', args' = #[x', y'] ∧ VR σ x x' ∧ VR σ y y' := by
    intro x y hxy
    subst hxy
    obtain ⟨l⟩ := args'
    cases ha with
    | cons h1 t => cases t with
      | cons h2 t => cases t; exact ⟨_, _, rfl, h1, h2⟩
  have one : ∀ {x : Value}, args = [x] → ∃ x', args' = #[x'] ∧ VR σ x x' := by
    intro x hxy
    subst hxy
    obtain ⟨l⟩ := args'
    cases ha with
    | cons h1 t => cases t; exact ⟨_, rfl, h1⟩
  unfold opBuiltin at hop
  split at hop
  · split at hop
    · obtain ⟨x', y', rfl, h1, h2⟩ := two rfl
      unfold orElseA at hop
      split at hop
      · rename_i r0 hr0
        cases hop
        obtain ⟨v, h1', rfl, σ1, v', w1, k1, k2, k3⟩ := opAppend_ok hr ty h1 h2 hr0
        exact ⟨σ1, v', w1, .inl (by simp [builtin, k1]), k2, k3⟩
      · obtain ⟨v, h1', rfl, σ1, v', w1, k1, k2, k3⟩ := opAppendZ_ok hr ty h1 h2 hop
        exact ⟨σ1, v', w1, .inl (by simp [builtin, k1]), k2, k3⟩
    · cases hop
  · split at hop
    · obtain ⟨x', rfl, h1⟩ := one rfl
      obtain ⟨v, h1', rfl, σ1, v', w1, k1, k2, k3⟩ := opLen_ok hr ty h1 hop
      exact ⟨σ1, v', w1, .inl (by simp [builtin, k1]), k2, k3⟩
    · cases hop
  · split at hop
    · obtain ⟨x', y', rfl, h1, h2⟩ := two rfl
      obtain ⟨v, h1', rfl, σ1, v', w1, k1, k2, k3⟩ := opCopy_ok hr ty h1 h2 hop
      exact ⟨σ1, v', w1, .inl (by simp [builtin, k1]), k2, k3⟩
    · cases hop
  · split at hop
    · obtain ⟨x', y', rfl, h1, h2⟩ := two rfl
      unfold aval at hop
      split at hop
      · rename_i v hv
        cases hop
        unfold min2 at hv
        split at hv
        · cases hv; cases h1; cases h2
          exact ⟨σ, _, w, .inl (by simp [builtin, Builtin.min_, Builtin.min2]), .int _ _, .refl hr⟩
        · cases hv
      · cases hop
    · cases hop
  · split at hop
    · obtain ⟨x', y', rfl, h1, h2⟩ := two rfl
      unfold aval at hop
      split at hop
      · rename_i v hv
        cases hop
        unfold max2 at hv
        split at hv
        · cases hv; cases h1; cases h2
          exact ⟨σ, _, w, .inl (by simp [builtin, Builtin.max_, Builtin.max2]), .int _ _, .refl hr⟩
        · cases hv
      · cases hop
    · cases hop
  · split at hop
    · rename_i x
      obtain ⟨x', rfl, h1⟩ := one rfl
      unfold opCap at hop
      split at hop
      · cases hop
      · rename_i t0 tl hts
        have h0 : ts[0]? = some t0 := by rw [← Array.getElem?_toList, hts]; rfl
        split at hop
        · rename_i el hu
          split at hop
          · rename_i a n c
            cases hbig : Nat.ble big c with
            | true => rw [hbig] at hop; cases hop
            | false =>
              rw [hbig] at hop
              cases hop
              have hx' : ∃ a', x' = .slice a' n c := by
                cases a with
                | none => cases h1; exact ⟨_, rfl⟩
                | some a =>
                  obtain ⟨b, q, e, c', _, _, rfl, hcc⟩ := sl_inv h1
                  rcases hcc with ⟨_, rfl⟩ | ⟨hcc, _⟩
                  · exact ⟨_, rfl⟩
                  · rw [Nat.ble_eq_true_of_le (by omega)] at hbig; cases hbig
              obtain ⟨a', rfl⟩ := hx'
              exact ⟨σ, goInt c, w, .inl (by simp [builtin, Builtin.cap_, h0, und_run hu]), .int _ _, .refl hr⟩
          · cases hop
        · cases hop
    · cases hop
  · cases hop
    exact ⟨rfl, by simp [builtin]⟩
  · cases hop
end
end Go.Proofs.Ytaloembfekdkoaa.Ev
namespace Go.Proofs.Ytaloembfekdkoaa.Ev
set_option linter.unusedVariables false
set_option linter.unusedSimpArgs false
set_option linter.unusedSectionVars false
set_option linter.unusedSectionVars false
variable [Val]
theorem setAll_ok {σ : Sg} : ∀ (ps : List Tmp) {args args' : List Value} {tm tm' : List Value}, RL σ args args' → HL σ tm tm' → args.length = ps.length →
    HL σ (setAll (ps.zip args) tm) (setAll (ps.zip args') tm') := by
  intro ps
  induction ps with
  | nil => intro args args' tm tm' ha ht hl; exact ht
  | cons p ps ih =>
    intro args args' tm tm' ha ht hl
    cases ha with
    | nil => simp at hl
    | cons h1 t =>
      refine ih t ?_ (by simpa using hl)
      clear ih hl t
      induction ht generalizing p with
      | nil => exact .nil
      | hole v t ih2 => cases p with
        | zero => exact .cons h1 t
        | succ p => exact .hole v (ih2 p)
      | cons hv t ih2 => cases p with
        | zero => exact .cons h1 t
        | succ p => exact .cons hv (ih2 p)
theorem setAll_arr : ∀ (l : List (Tmp × Value)) (tm : Array Value), (l.foldl (fun tm (p : Tmp × Value) => tm.setIfInBounds p.1 p.2) tm).toList = setAll l tm.toList := by
  intro l
  induction l with
  | nil => intro tm; rfl
  | cons p l ih =>
    intro tm
    obtain ⟨t, a⟩ := p
    simp only [List.foldl_cons, setAll]
    rw [ih, Array.toList_setIfInBounds]
section
variable {P : Program} [Orc P] [OrcOk P] {σ : Sg} {h : AH} {w : World}
theorem plainFn_run {f : FuncId} (hp : plainFn P f = true) (args : Array Value) : (callFunc f args).run P w = .ok (.enter f args) w := by
  unfold plainFn at hp
  split at hp
  · rename_i fn hf
    rw [Bool.and_eq_true, Bool.not_eq_true'] at hp
    have hb : ¬ fn.body = none := by
      intro hbb; rw [hbb] at hp; cases hp.1
    have hn : ¬ fn.name = "runtime.NumGoroutine" := by simpa using hp.2
    simp [callFunc, hf, hn, hb]
  · cases hp
theorem callF_ok (hr : HR P σ h w) {f : FuncId} {args : List Value} {args' : Array Value} (ha : RL σ args args'.toList) {r : AR} (hop : callF P h f args = some r) : ARel P σ h w ((callFunc f args').run P w) r := by
  unfold callF at hop
  cases hp : plainFn P f with
  | true =>
    rw [hp] at hop
    simp only [cond_true] at hop
    split at hop
    · rename_i v hv
      cases hop
      exact ⟨rfl, hv, args', plainFn_run hp args', ha⟩
    · cases hop
      exact ⟨rfl, args', plainFn_run hp args', ha⟩
  | false =>
    rw [hp] at hop
    replace hop := cond_some hop; obtain ⟨hf, hop⟩ := hop
    split at hop
    · rename_i v hs
      replace hop := cond_some hop; obtain ⟨hfv, hop⟩ := hop
      cases hop
      have : args'.toList = args := ha.eq_of_flat hf
      have e : args' = ⟨args⟩ := by apply Array.ext'; exact this
      rw [e]
      exact .pure hr (sc_run hs) (flat_refl σ 6 hfv)
    · cases hop
theorem methodL_run {t : TypeId} {name : String} {f : FuncId} {v' : Value} (n : Nat) :
    (methodL P t name = some (f, none) → (method (n + 1) t v' name).run P w = .ok (f, v') w) ∧
    (∀ e a u, methodL P t name = some (f, some e) → v' = .pointer (some a) → (loadVar e a).run P w = .ok u w → (method (n + 1) t v' name).run P w = .ok (f, u) w) := by
  unfold methodL
  cases hi : P.info? t with
  | none => exact ⟨fun h => (by cases h), fun e a u h => (by cases h)⟩
  | some i =>
    simp only
    cases hm : i.methods.toList.find? (fun m => m.name == name) with
    | none => exact ⟨fun h => (by cases h), fun e a u h => (by cases h)⟩
    | some m =>
      have hm' : i.methods.find? (fun m => m.name == name) = some m := by rw [← Array.find?_toList]; exact hm
      obtain ⟨mn, sig, path, func⟩ := m
      obtain ⟨path⟩ := path
      cases path with
      | cons p ps => exact ⟨fun h => (by cases h), fun e a u h => (by cases h)⟩
      | nil =>
        cases func with
        | none => exact ⟨fun h => (by cases h), fun e a u h => (by cases h)⟩
        | some fp =>
          obtain ⟨g, ptr⟩ := fp
          simp only
          cases hu : P.underlying t with
          | none => exact ⟨fun h => (by cases h), fun e a u h => (by cases h)⟩
          | some d =>
            have hur := und_run (w := w) hu
            refine ⟨fun h => ?_, fun e a u h hv hl => ?_⟩
            · cases d <;> cases ptr <;> first
                | (cases h; done)
                | (cases h; simp [method, info_run hi, hm', follow, receiverAt, hur, Place.get])
            · subst hv
              have hw : ∀ (ts : Array TypeId) ty (x y : ByteArray), (Builtin.ssaWrapNilChk_ ts ty #[.pointer (some a), .string x, .string y]).run P w = .ok (.pointer (some a)) w := fun _ _ _ _ => rfl
              cases d <;> cases ptr <;> first
                | (cases h; done)
                | (cases h; simp [method, info_run hi, hm', follow, receiverAt, hur, Place.get, strVal, hw, asAddr, hl])
theorem callM_ok (hr : HR P σ h w) {name : String} {args : List Value} {args' : Array Value} (ha : RL σ args args'.toList) {r : AR} (hop : callM P h name args = some r) (cap : Array Value) :
    ARel P σ h w ((invoke (.fn (.method name) cap) args').run P w) r := by
  unfold callM at hop
  split at hop
  · rename_i t v rest
    obtain ⟨al⟩ := args'
    cases ha with
    | cons hv ht =>
      cases hv with
      | iface _ hv =>
        rename_i rest' v'
        have hget : (Array.mk (Value.iface t v' :: rest'))[0]? = some (.iface t v') := rfl
        have hext : (Array.mk (Value.iface t v' :: rest')).extract 1 (Array.mk (Value.iface t v' :: rest')).size = ⟨rest'⟩ := by
          apply Array.ext'; simp
        split at hop
        · rename_i f hm
          replace hop := cond_some hop; obtain ⟨hp, hop⟩ := hop
          cases hop
          have h1 := (methodL_run (P := P) (w := w) (v' := v') (f := f) (P.types.size + 99)).1 hm
          refine ⟨rfl, ⟨v' :: rest'⟩, ?_, .cons hv ht⟩
          have e : #[v'] ++ (⟨rest'⟩ : Array Value) = ⟨v' :: rest'⟩ := by apply Array.ext'; simp
          simp only [invoke, hget, hext, callMethod, Sem.run_bind, run_program, Result.andThen]
          rw [show P.types.size + Made.depth = P.types.size + 99 + 1 from rfl, h1]
          simp only [e]
          exact plainFn_run hp _
        · rename_i f e hm
          split at hop
          · rename_i a
            obtain ⟨b, q, en, rfl, hb, rfl⟩ := ptr_inv hv
            split at hop
            · rename_i u hl
              replace hop := cond_some hop; obtain ⟨hp, hop⟩ := hop
              cases hop
              obtain ⟨u', l1, l2⟩ := ld_ok hr hb hl
              have h1 := (methodL_run (P := P) (w := w) (v' := .pointer (some ⟨en.blk, q, none⟩)) (f := f) (P.types.size + 99)).2 e _ u' hm rfl l1
              refine ⟨rfl, ⟨u' :: rest'⟩, ?_, .cons l2 ht⟩
              have e2 : #[u'] ++ (⟨rest'⟩ : Array Value) = ⟨u' :: rest'⟩ := by apply Array.ext'; simp
              simp only [invoke, hget, hext, callMethod, Sem.run_bind, run_program, Result.andThen]
              rw [show P.types.size + Made.depth = P.types.size + 99 + 1 from rfl, h1]
              simp only [e2]
              exact plainFn_run hp _
            · cases hop
          · cases hop
        · cases hop
  · cases hop
theorem loop_ok (hr : HR P σ h w) {b : Nat} {e : Ent} (hb : σ b = some e) {r : Loop} (hg : h.get b = some (.obj (.loop r))) :
    ∃ (f : Ent) (tm : Array Value), σ r.defers = some f ∧ w.heap[e.blk]? = some (.loop { r with tmps := tm, defers := f.blk }) ∧ HL σ r.tmps.toList tm.toList ∧ (getObj e.blk).run P w = .ok (.loop { r with tmps := tm, defers := f.blk }) w := by
  obtain ⟨o, ho, hok⟩ := obj_ok hr hb hg
  obtain ⟨f, tm, h1, rfl, h2⟩ := hok
  exact ⟨f, tm, h1, ho, h2, by simp [getObj, Sem.run, ho]⟩
theorem callY_ok (hr : HR P σ h w) {l : Nat} {e : Ent} (hl : σ l = some e) {args : List Value} {args' : Array Value} (ha : RL σ args args'.toList) {r : AR} (hop : callY h l args = some r) :
    ARel P σ h w ((Instr.yield e.blk args').run P w) r := by
  unfold callY at hop
  split at hop
  · rename_i lp hg
    replace hop := cond_some hop; obtain ⟨hlen, hop⟩ := hop
    have hlen : args.length = lp.params.toList.length := Nat.eq_of_beq_eq_true hlen
    cases hop
    obtain ⟨f, tm, h1, h2, h3, h4⟩ := loop_ok hr hl hg
    have hsz : args'.size = lp.params.size := by rw [← Array.length_toList, ha.length, hlen, Array.length_toList]
    refine ⟨rfl, e, (lp.params.zip args').foldl (fun tmps (p : Tmp × Value) => tmps.setIfInBounds p.1 p.2) tm, hl, ?_, ?_⟩
    · simp [Instr.yield, Instr.getLoop, h4, hsz]
    · rw [← Array.foldl_toList, setAll_arr, Array.toList_zip]
      exact setAll_ok _ ha h3 hlen
  · cases hop
theorem invokeL_ok (hr : HR P σ h w) {t t' : Target} (ht : TR σ t t') {args : List Value} {args' : Array Value} (ha : RL σ args args'.toList) {r : AR} (hop : invokeL P h t args = some r) :
    ARel P σ h w ((invoke t' args').run P w) r := by
  unfold invokeL at hop
  split at hop
  · rename_i fn cap
    cases ht with
    | fn hf hc =>
      rename_i f' c'
      split at hop
      · rename_i f
        cases hf with
        | same _ =>
          have : (args' ++ c').toList = args'.toList ++ c'.toList := by simp
          exact callF_ok hr (args' := args' ++ c') (by rw [this]; exact ha.append hc) hop
      · rename_i l
        cases hf with
        | same hh => exact absurd rfl (hh _)
        | yield hl => exact callY_ok hr hl ha hop
      · rename_i name
        cases hf with
        | same _ => exact callM_ok hr ha hop c'
      · cases hop
  · rename_i b ts ty cs
    cases ht with
    | builtin _ _ _ _ cs' => exact opBuiltin_ok hr ty cs' ha hop
  · cases hop
theorem resolveL_ok {ρ : Ev} {ρ' : Operand → Value} (hρ : ∀ x v, ρ x = some v → VR σ v (ρ' x)) {c : Call} {ty : TypeId} {d : Deferred} (hop : resolveL ρ c ty = some d) :
    ∃ d', (resolve ρ' c ty).run P w = .ok d' w ∧ DR σ d d' := by
  unfold resolveL at hop
  split at hop
  · cases hop
  · rename_i args hargs
    have ha := mapE_ok hρ hargs
    have ha' : RL σ args (c.args.map ρ').toList := by simpa using ha
    split at hop
    · rename_i b hc
      cases hop
      exact ⟨_, by simp only [resolve, hc]; rfl, .builtin _ _ _ _ _, ha'⟩
    · rename_i f hc
      split at hop
      · rename_i fn first captured hf
        cases hop
        have hv := hρ _ _ hf
        generalize hx : ρ' f = x at hv
        cases hv with
        | func hfn h1 h2 =>
          refine ⟨_, by simp only [resolve, hc, hx, Deferred.ofValue]; rfl, .fn hfn h2, ?_⟩
          simp only [Array.toList_append]
          exact h1.append ha'
      · cases hop
    · rename_i recv name hc
      split at hop
      · rename_i rv hrv
        cases hop
        refine ⟨_, by simp only [resolve, hc]; rfl, .fn (f := .method name) (f' := .method name) (.same (by intro l hh; cases hh)) .nil, ?_⟩
        simp only [Array.toList_append]
        exact .cons (hρ _ _ hrv) ha'
      · cases hop
variable {ρ : Ev} {ρ' : Operand → Value} (hr : HR P σ h w) (hρ : ∀ x v, ρ x = some v → VR σ v (ρ' x))
include hr hρ in
theorem opCall_ok {o : Oper} {c : Call} {r : AR} (ho : o.op = .call c) (hop : opCall P h ρ c o.type = some r) : ARel P σ h w ((execOp ρ' o).run P w) r := by
  unfold opCall at hop
  split at hop
  · rename_i d hd
    obtain ⟨d', h1, h2, h3⟩ := resolveL_ok (P := P) (w := w) hρ hd
    have := invokeL_ok hr h2 h3 hop
    have e : (execOp ρ' o).run P w = (invoke d'.target d'.args).run P w := by simp [execOp, ho, h1]
    rw [e]; exact this
  · cases hop
include hρ in
theorem opDefer_ok {o : Oper} {c : Call} {r : AR} (ho : o.op = .defer c) (hop : opDefer h ρ c o.type = some r) : ARel P σ h w ((execOp ρ' o).run P w) r := by
  unfold opDefer at hop
  split at hop
  · rename_i d hd
    cases hop
    obtain ⟨d', h1, h2⟩ := resolveL_ok (P := P) (w := w) hρ hd
    exact ⟨rfl, d', by simp [execOp, ho, h1], h2⟩
  · cases hop
include hρ in
theorem opPanic_ok {o : Oper} {x : Operand} {r : AR} (ho : o.op = .panic x) (hop : opPanic h ρ x = some r) : ARel P σ h w ((execOp ρ' o).run P w) r := by
  unfold opPanic at hop
  split at hop
  · rename_i t v hv
    cases hop
    have hx := hρ _ _ hv
    generalize hx' : ρ' x = xx at hx
    cases hx with
    | iface _ hv => exact ⟨rfl, _, by simp [execOp, ho, hx', Instr.panic], .iface t hv⟩
  · cases hop
theorem ERL.find {σ : Sg} (stamp : Nat) : ∀ {l l' : List MapEntry}, ERL σ l l' → ∀ e, l.find? (fun e => Nat.beq e.born stamp) = some e →
    ∃ e', l'.find? (fun e => e.born == stamp) = some e' ∧ VR σ e.key e'.key ∧ VR σ e.val e'.val
  | _, _, .nil, e, h => by cases h
  | _, _, .cons (b := b) hk hv t, e, h => by
    simp only [List.find?_cons] at h ⊢
    cases hb : Nat.beq b stamp with
    | true =>
      rw [hb] at h
      cases h
      have : (b == stamp) = true := by simpa using Nat.eq_of_beq_eq_true hb
      exact ⟨⟨_, _, b⟩, by simp only [this], hk, hv⟩
    | false =>
      rw [hb] at h
      have : (b == stamp) = false := by simpa using Nat.ne_of_beq_eq_false hb
      simp only [this]
      exact ERL.find stamp t e h
theorem iter_ok (hr : HR P σ h w) {b : Nat} {e : Ent} (hb : σ b = some e) {m since last : Nat} {seen : Array Nat} (hg : h.get b = some (.obj (.mapIter (some m) since seen last))) :
    ∃ f, σ m = some f ∧ w.heap[e.blk]? = some (.mapIter (some f.blk) since seen last) ∧ (getObj e.blk).run P w = .ok (.mapIter (some f.blk) since seen last) w := by
  obtain ⟨o, ho, hok⟩ := obj_ok hr hb hg
  obtain ⟨f, h1, rfl⟩ := hok
  exact ⟨f, h1, ho, by simp [getObj, Sem.run, ho]⟩
include hr hρ in
theorem opEntry_ok {o : Oper} {x : Operand} {r : AR} (ho : o.op = .entry x) (hop : opEntry h ρ x = some r) : ARel P σ h w ((execOp ρ' o).run P w) r := by
  unfold opEntry at hop
  split at hop
  · rename_i b s hx
    obtain ⟨b', q, e, hbb, hb, hx'⟩ := ptr_inv (hρ _ _ hx)
    cases hbb
    split at hop
    · rename_i m since seen stepped hg
      split at hop
      · rename_i stamp es clock hst hgm
        replace hop := cond_some hop; obtain ⟨hck, hop⟩ := hop
        have hck : clock = stepped := Nat.eq_of_beq_eq_true hck
        split at hop
        · rename_i en hf
          cases hop
          obtain ⟨f, h1, h2, h3⟩ := iter_ok hr hb hg
          obtain ⟨es', h4, h5, h6⟩ := map_ok (P := P) hr h1 hgm
          obtain ⟨en', h7, h8, h9⟩ := ERL.find stamp h5 en hf
          have h7' : es'.find? (fun e => e.born == stamp) = some en' := by rw [← Array.find?_toList]; exact h7
          have hst' : seen.back? = some stamp := by rw [← Array.getLast?_toList]; exact hst
          refine .pure hr (v' := .tuple #[en'.key, en'.val]) ?_ (.tuple (.cons h8 (.cons h9 .nil)))
          simp [execOp, ho, hx', Instr.entry, h3, hst', h6, hck, h7']
        · cases hop
      · cases hop
    · cases hop
  · cases hop
end
end Go.Proofs.Ytaloembfekdkoaa.Ev
namespace Go.Proofs.Ytaloembfekdkoaa.Ev
set_option linter.unusedVariables false
set_option linter.unusedSimpArgs false
set_option linter.unusedSectionVars false
set_option linter.unusedSectionVars false
variable [Val]
theorem ERL.filter {σ : Sg} (p : Nat → Bool) : ∀ {l l' : List MapEntry}, ERL σ l l' → ERL σ (l.filter fun e => p e.born) (l'.filter fun e => p e.born)
  | _, _, .nil => .nil
  | _, _, .cons (b := b) hk hv t => by
    simp only [List.filter_cons]
    cases p b
    · exact ERL.filter p t
    · exact .cons hk hv (ERL.filter p t)
theorem ERL.all {σ : Sg} (p : Nat → Bool) : ∀ {l l' : List MapEntry}, ERL σ l l' → (l'.all fun e => p e.born) = l.all fun e => p e.born
  | _, _, .nil => rfl
  | _, _, .cons hk hv t => by simp only [List.all_cons, ERL.all p t]
theorem ERL.get {σ : Sg} : ∀ {l l' : List MapEntry}, ERL σ l l' → ∀ (i : Nat) (e' : MapEntry), l'[i]? = some e' → ∃ e : MapEntry, l[i]? = some e ∧ VR σ e.key e'.key ∧ VR σ e.val e'.val ∧ e.born = e'.born
  | _, _, .nil, i, e', h => by simp at h
  | _, _, .cons hk hv t, 0, e', h => by simp at h; subst h; exact ⟨_, rfl, hk, hv, rfl⟩
  | _, _, .cons hk hv t, i + 1, e', h => by simpa using ERL.get t i e' (by simpa using h)
section
variable {P : Program} [Orc P] [OrcOk P] {σ : Sg} {h : AH} {w : World}
theorem evNext_ok (hr : HR P σ h w) {it it' : Value} (hv : VR σ it it') (ty : TypeId) {l : List (Value × AH)} (hn : evNext h it = some l) :
    ∃ p ∈ l, ∃ v' w1, (Instr.next it' false ty).run P w = .ok v' w1 ∧ VR σ p.1 v' ∧ Ext P σ h w σ p.2 w1 := by
  unfold evNext at hn
  split at hn
  · rename_i r s
    obtain ⟨b, q, e, hbb, hb, rfl⟩ := ptr_inv hv
    cases hbb
    split at hn
    · rename_i m since seen last hg
      split at hn
      · rename_i es clock hgm
        replace hn := cond_some hn; obtain ⟨hc, hn⟩ := hn
        rw [Bool.and_eq_true, Bool.and_eq_true] at hc
        have hc1 : clock = since := Nat.eq_of_beq_eq_true hc.1.1
        have hc2 : last = since := Nat.eq_of_beq_eq_true hc.1.2
        subst hc1; subst hc2
        obtain ⟨f, h1, h2, h3⟩ := iter_ok hr hb hg
        obtain ⟨es', h4, h5, h6⟩ := map_ok (P := P) hr h1 hgm
        have hall : ∀ e ∈ es'.toList, e.born < last := by
          have e1 := h5.all (fun b => Nat.ble (Nat.succ b) last)
          rw [hc.2] at e1
          intro e he
          exact blt_true (List.all_eq_true.1 e1 e he)
        have hset : ∀ o', (setObj e.blk o').run P w = .ok () { w with heap := w.heap.setIfInBounds e.blk o' } := fun o' => setObj_run h2 (fun _ _ _ hh => by cases hh)
        have hhead : (!seen.isEmpty && !es'.isEmpty && es'.all (fun e => decide (e.born ≥ last))) = false := by
          cases hes : es'.isEmpty with
          | true => simp
          | false =>
            have hne : es'.toList ≠ [] := by
              intro hh
              have : es' = #[] := Array.toList_eq_nil_iff.1 hh
              rw [this] at hes; cases hes
            obtain ⟨x, hx⟩ := List.exists_mem_of_ne_nil _ hne
            have hx' : x ∈ es' := Array.mem_toList_iff.1 hx
            have : es'.all (fun e => decide (e.born ≥ last)) = false := by
              rw [Bool.eq_false_iff]
              intro hh
              rw [Array.all_eq_true_iff_forall_mem] at hh
              have h1 := hh x hx'
              have h2 := hall x hx
              simp at h1; omega
            simp [this]
        have hleft : (es'.filter fun e => !seen.contains e.born).toList = es'.toList.filter fun e => !seen.toList.contains e.born := by
          simp
        have hold : ((es'.filter fun e => !seen.contains e.born).filter fun e => decide (e.born < last)) = es'.filter fun e => !seen.contains e.born := by
          rw [Array.filter_eq_self]
          intro x hx
          have : x ∈ es' := by simp at hx; exact hx.1
          simpa using hall x (Array.mem_toList_iff.2 this)
        have hnew : ((es'.filter fun e => !seen.contains e.born).filter fun e => decide (e.born ≥ last)) = #[] := by
          rw [Array.filter_eq_empty_iff]
          intro x hx
          have : x ∈ es' := by simp at hx; exact hx.1
          have := hall x (Array.mem_toList_iff.2 this)
          simp; omega
        have hfil := h5.filter (fun b => !seen.toList.contains b)
        rw [← hleft] at hfil
        generalize hL : (es'.filter fun e => !seen.contains e.born) = L at hold hnew hfil
        by_cases hLe : L = #[]
        · subst hLe
          have hnil : (es.toList.filter fun e => !seen.toList.contains e.born) = [] := by
            have := hfil.length; simp only [Array.toList_empty, List.length_nil] at this
            exact List.length_eq_zero_iff.1 this.symm
          rw [hnil] at hn
          cases hn
          refine ⟨_, List.mem_singleton.2 rfl, .tuple #[.bool false], w, ?_, .tuple (.cons (.bool false) .nil), .refl hr⟩
          have hf1 : (Question.mapNext 1).forced = true := rfl
          have hcs : ((if (#[] : Array MapEntry).isEmpty = true then #[none] else #[]) ++ ((#[] : Array MapEntry) ++ #[]).map some : Array (Option MapEntry)) = #[none] := by simp
          simp only [Instr.next, Sem.run_bind, h3, Result.andThen, h6, hL, hhead, hold, hnew, hcs, run_choose, Bool.false_eq_true, if_false]
          rfl
        · have hLs : 0 < L.size := Array.size_pos_iff.2 hLe
          have hemp : L.isEmpty = false := by simpa using hLe
          have hchoose : ∃ k d, k < L.size ∧ (choose (.mapNext L.size)).run P w = .ok k { w with drawn := d } := by
            by_cases h1 : L.size ≤ 1
            · exact ⟨0, w.drawn, hLs, by rw [run_choose, if_pos (by simp [Question.forced, h1])]⟩
            · exact ⟨_, w.drawn + 1, Nat.mod_lt _ hLs, by rw [run_choose, if_neg (by simp [Question.forced, h1])]; rfl⟩
          obtain ⟨k, d, hk, hch⟩ := hchoose
          obtain ⟨en, q1, q2, q3, q4⟩ := hfil.get k L[k] (by simp)
          have hne : (es.toList.filter fun e => !seen.toList.contains e.born) ≠ [] := by
            intro hh; rw [hh] at q1; simp at q1
          have hl : l = (es.toList.filter fun e => !seen.toList.contains e.born).map fun e => (.tuple #[.bool true, e.key, e.val], h.put r (.obj (.mapIter (some m) last ⟨seen.toList ++ [e.born]⟩ last))) := by
            split at hn
            · rename_i hh; exact absurd hh hne
            · cases hn; rfl
          subst hl
          have hmem : en ∈ (es.toList.filter fun e => !seen.toList.contains e.born) := List.mem_of_getElem? q1
          refine ⟨_, List.mem_map.2 ⟨en, hmem, rfl⟩, .tuple #[.bool true, L[k].key, L[k].val], _, ?_, .tuple (.cons (.bool true) (.cons q2 (.cons q3 .nil))),
            (obj_put hr hb hg (y := .mapIter (some m) last ⟨seen.toList ++ [en.born]⟩ last) (.mapIter (some f.blk) last (seen.push en.born) last) ⟨f, h1, by congr 1; apply Array.ext'; simp⟩).drawn d⟩
          have hcand : ((if L.isEmpty = true then #[none] else #[]) ++ (L ++ #[]).map some)[k]? = some (some L[k]) := by
            rw [hemp]; simp [hk]
          have hcs : ((if L.isEmpty = true then #[none] else #[]) ++ (L ++ #[]).map some : Array (Option MapEntry)).size = L.size := by
            rw [hemp]; simp
          have hset2 : ∀ o', (setObj e.blk o').run P { w with drawn := d } = .ok () { w with drawn := d, heap := w.heap.setIfInBounds e.blk o' } := fun o' => setObj_run (w := { w with drawn := d }) h2 (fun _ _ _ hh => by cases hh)
          simp only [Instr.next, Sem.run_bind, h3, Result.andThen, h6, hL, hhead, hold, hnew, hcs, hch, hcand, hset2, Sem.run_pure, Bool.false_eq_true, if_false, q4]
      · cases hn
    · cases hn
  · cases hn
end
section
variable {P : Program} [Orc P] [OrcOk P] {σ : Sg} {h : AH} {w : World} {ρ : Ev} {ρ' : Operand → Value}
theorem opInsert_ok (hr : HR P σ h w) (hρ : ∀ x v, ρ x = some v → VR σ v (ρ' x)) {o : Oper} {t : TypeId} {m k x : Operand} {r : AR} (ho : o.op = .insert t m k x) (hop : opUpdate P h ρ t m k x = some r) : ARel P σ h w ((execOp ρ' o).run P w) r := by
  have h1 := opUpdate_ok hr hρ (o := { o with op := .mapUpdate t m k x }) rfl hop
  have h2 : execOp ρ' o = execOp ρ' { o with op := .mapUpdate t m k x } := by simp only [execOp, ho]
  rw [h2]
  exact h1
theorem aop_ok (hr : HR P σ h w) (hglob : ∀ g, ρ' (.global g) = .pointer (some ⟨g, 0, none⟩)) (hρ : ∀ x v, ρ x = some v → VR σ v (ρ' x)) {o : Oper} {r : AR} (hop : (aopC P o.type o.op).f h ρ = some r) : ARel P σ h w ((execOp ρ' o).run P w) r := by
  unfold aopC at hop
  cases hor : Orc.op P o.op with
  | some f =>
    rw [hor] at hop
    obtain ⟨v, h1, rfl, σ1, v', w1, k1, k2, k3⟩ := OrcOk.op hor hop hr hglob hρ
    exact ⟨σ1, v', w1, k1, k2, k3⟩
  | none =>
  rw [hor] at hop
  simp only at hop
  cases ho : o.op <;> rw [ho] at hop <;> simp only [aopS] at hop
  case move x => have e : (execOp ρ' o).run P w = .ok (.value (ρ' x)) w := by simp [execOp, ho]
                 rw [e]; exact opMove_ok hr hρ hop
  case assign x => have e : (execOp ρ' o).run P w = .ok (.value (ρ' x)) w := by simp [execOp, ho]
                   rw [e]; exact opMove_ok hr hρ hop
  case pick => exact opPick_ok hr hρ ho hop
  case alloc => exact opAlloc_ok hr ho hop
  case box => exact opBox_ok hr hρ ho hop
  case build => exact opBuild_ok hr hρ ho hop
  case buildSlice => exact opBuildSlice_ok hr hρ ho hop
  case load => exact opLoad_ok hr hρ ho hop
  case store => exact opStore_ok hr hρ ho hop
  case nilCheck => exact opNilCheck_ok hr hρ ho hop
  case binOp => exact opBin_ok hr hρ ho hop
  case unOp => exact opUn_ok hr hρ ho hop
  case convert => exact opConvert_ok hr hρ ho hop
  case makeInterface => exact opIface_ok hr hρ ho hop
  case makeFunc => exact opFunc_ok hr hρ ho hop
  case makeMap => exact opMakeMap_ok hr ho hop
  case makeSlice => exact opMakeSlice_ok hr hρ ho hop
  case slice => exact opSl_ok hr hρ ho hop
  case fieldAddr => exact opFieldAddr_ok hr hρ ho hop
  case field => exact opField_ok hr hρ ho hop
  case indexAddr => exact opIndexAddr_ok hr hρ ho hop
  case index => exact opIndex_ok hr hρ ho hop
  case lookup => exact opLookup_ok hr hρ ho hop
  case mapUpdate => exact opUpdate_ok hr hρ ho hop
  case insert => exact opInsert_ok hr hρ ho hop
  case range => exact opRange_ok hr hρ ho hop
  case entry => exact opEntry_ok hr hρ ho hop
  case typeAssert => exact opAssert_ok hr hρ ho hop
  case extract => exact opExtract_ok hr hρ ho hop
  case call => exact opCall_ok hr hρ ho hop
  case defer => exact opDefer_ok hρ ho hop
  case panic => exact opPanic_ok hρ ho hop
  all_goals cases hop
end
end Go.Proofs.Ytaloembfekdkoaa.Ev
