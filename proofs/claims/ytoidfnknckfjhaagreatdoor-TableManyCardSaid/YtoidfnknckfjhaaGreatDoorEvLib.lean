/-
  The evaluator: laid variables, and what strings.Builder needs. No condition.
-/
import Derived.Lib.Builder
import Derived.Lib.UnsafeStr
import Derived.Test.YtoidfnknckfjhaaGreatDoorEvSym
namespace Go.Proofs.YtoidfnknckfjhaaGreatDoor.Ev
set_option linter.unusedVariables false
set_option linter.unusedSimpArgs false
set_option linter.unusedSectionVars false
set_option linter.unusedSectionVars false
open Go.RowKit
variable [Val]

/-- A part of what is laid, loaded. -/
noncomputable def ldG (P : Program) (t : TypeId) (g : Nat) : Option Value :=
  match Val.laid g with
  | some (.cells cs el (0, 0)) => cond (cs.toList.all (flat 6)) (match ld P ⟨T.set .nil 0 (.cells (T.lay cs.toList 0 .nil) cs.toList.length el false), 1, 0⟩ t ⟨0, 0, none⟩ with
    | some v => cond (flat 6 v) (some v) none
    | none => none) none
  | _ => none

def isUnsafe (P : Program) (t : TypeId) : Bool :=
  match P.underlying t with
  | some .unsafePointer => true
  | _ => false
def isPtr (P : Program) (t : TypeId) : Bool :=
  match P.underlying t with
  | some (.pointer _) => true
  | _ => false

/-- *T as unsafe.Pointer. -/
noncomputable def toUnsafe (P : Program) (src dst : TypeId) (x : Operand) (h : AH) (ρ : Ev) : Option AR :=
  match ρ x, P.underlying src, P.underlying dst with
  | some (.pointer (some ⟨b, o, none⟩)), some (.pointer t), some .unsafePointer => match sizeL P t, h.get b with
    | some (Nat.succ _), some (.cells _ n _ false) => cond (Nat.ble (Nat.succ o) n) (some (.val (.pointer (some ⟨b, o, none⟩)) h)) none
    | _, _ => none
  | _, _, _ => none
/-- unsafe.Pointer as *U. -/
noncomputable def ofUnsafe (P : Program) (src dst : TypeId) (x : Operand) (h : AH) (ρ : Ev) : Option AR :=
  match ρ x, P.underlying src, P.underlying dst with
  | some (.pointer (some ⟨b, o, none⟩)), some .unsafePointer, some (.pointer u) => match sizeL P u, h.get b with
    | some _, some (.cells _ n e false) => cond (liesAt P P.depth e (n / P.cellsOf e) o u 1) (some (.val (.pointer (some ⟨b, o, none⟩)) h)) none
    | _, _ => none
  | _, _, _ => none
/-- Pointers, compared. -/
def ptrEq (P : Program) (t : TypeId) (q : Bool) (x y : Operand) (h : AH) (ρ : Ev) : Option AR :=
  match ρ x, ρ y, P.underlying t with
  | some (.pointer (some ⟨b, o, none⟩)), some (.pointer (some ⟨c, p, none⟩)), some (.pointer e) => match P.info? e with
    | some _ => cond (Nat.beq b c && Nat.beq o p) (some (.val (.bool q) h)) none
    | none => none
  | _, _, _ => none
/-- unsafe.SliceData -/
def sliceData (x : Operand) (h : AH) (ρ : Ev) : Option AR :=
  match ρ x with
  | some (.slice none _ _) => some (.val (.pointer none) h)
  | some (.slice (some a) (Nat.succ _) (Nat.succ _)) => some (.val (.pointer (some a)) h)
  | _ => none
/-- unsafe.String -/
noncomputable def unsafeStr (P : Program) (t : TypeId) (x n : Operand) (h : AH) (ρ : Ev) : Option AR :=
  match ρ x, ρ n, P.underlying t with
  | some (.pointer none), some (.int .i64 (.ofNat 0)), some (.pointer _) => some (.val (.string ⟨#[]⟩) h)
  | some (.pointer (some ⟨b, 0, none⟩)), some (.int .i64 (.ofNat (Nat.succ k))), some (.pointer e) => match h.get b with
    | some (.cells c m el _) => cond (Nat.beq e el && Nat.beq (P.cellsOf e) 1 && Nat.ble (Nat.succ k) m && Nat.ble k 1099511627776) (match c.row (Nat.succ k) 0 with
      | some l => match bytesL l with
        | some s => cond (rowEq l (ofBytes s)) (some (.val (.string ⟨⟨s⟩⟩) (h.put b .dead))) none
        | none => none
      | none => none) none
    | _ => none
  | _, _, _ => none
/-- One that hands its argument back. -/
def sameArg (f : FuncId) (g x : Operand) (h : AH) (ρ : Ev) : Option AR :=
  match ρ g, ρ x with
  | some (.func (.func f') ⟨[]⟩ ⟨[]⟩), some v => cond (Nat.beq f' f) (some (.val v h)) none
  | _, _ => none

/-- What strings.Builder needs, and variables that are laid. same: the number of the function that hands its argument back. -/
noncomputable def libOps (P : Program) (same : FuncId) (o : Op) : Option Fun :=
  match o with
  | .load t (.global g) => some ⟨fun h _ => aval (ldG P t g) h⟩
  | .convert src dst x => cond (isUnsafe P dst && isPtr P src) (some ⟨toUnsafe P src dst x⟩) (cond (isUnsafe P src && isPtr P dst) (some ⟨ofUnsafe P src dst x⟩) none)
  | .binOp .eql t (.tmp x) (.tmp y) _ => cond (isPtr P t) (some ⟨ptrEq P t true (.tmp x) (.tmp y)⟩) none
  | .binOp .neq t (.tmp x) (.tmp y) _ => cond (isPtr P t) (some ⟨ptrEq P t false (.tmp x) (.tmp y)⟩) none
  | .call ⟨.builtin .unsafeSliceData, ⟨[x]⟩, _⟩ => some ⟨sliceData x⟩
  | .call ⟨.builtin .unsafeString, ⟨[x, n]⟩, ⟨[pt, _]⟩⟩ => some ⟨unsafeStr P pt x n⟩
  | .call ⟨.value (.func f), ⟨[x]⟩, _⟩ => cond (Nat.beq f same) (some ⟨sameArg same (.func f) x⟩) none
  | _ => none

section
variable {P : Program}

theorem ldG_run {t : TypeId} {g : Nat} {v : Value} {w : World} (hw : ∀ o, Val.laid g = some o → w.heap[g]? = some o) (h : ldG P t g = some v) : (loadVar t ⟨g, 0, none⟩).run P w = .ok v w ∧ flat 6 v = true := by
  unfold ldG at h
  split at h
  · rename_i cs el hl
    obtain ⟨hall, h⟩ := cond_some h
    split at h
    · rename_i u hu
      obtain ⟨hf, h⟩ := cond_some h
      cases h
      refine ⟨?_, hf⟩
      have hg := hw _ hl
      letI : Val := noVal
      letI : Orc P := noOrc P
      haveI : OrcOk P := noOk P
      have hr : HR P (fun b => if b = 0 then some ⟨g, cs.toList.length, 0⟩ else none) ⟨T.set .nil 0 (.cells (T.lay cs.toList 0 .nil) cs.toList.length el false), 1, 0⟩ w := by
        have hb0 : ∀ {b : Nat} {e : Ent}, (if b = 0 then some (⟨g, cs.toList.length, 0⟩ : Ent) else none) = some e → b = 0 ∧ e = ⟨g, cs.toList.length, 0⟩ := by
          intro b e h
          by_cases hb : b = 0
          · rw [if_pos hb] at h; exact ⟨hb, (Option.some.inj h).symm⟩
          · rw [if_neg hb] at h; cases h
        refine ⟨fun b e hb => ?_, fun b c e f hb hc _ _ _ => by rw [(hb0 hb).1, (hb0 hc).1], fun g o hg => by cases hg⟩
        obtain ⟨rfl, rfl⟩ := hb0 hb
        refine ⟨Nat.lt_succ_self 0, .cells (T.lay cs.toList 0 .nil) cs.toList.length el false, ?_, .inr ⟨_, hg, ?_⟩⟩
        · show T.get _ 0 = _; rw [T.get_set, if_pos rfl]
        refine ⟨cs, (0, 0), rfl, fun j _ => by omega, by simp, fun _ => by simp, by simp, (fun hh => by cases hh), fun j hj => ?_⟩
        have hj' : j < cs.size := by simpa using hj
        refine ⟨cs[j], cs[j], ?_, by simp [hj'], flat_refl _ 6 (List.all_eq_true.1 hall _ (by simp))⟩
        rw [T.get_lay, if_pos (by simpa using hj')]
        simp [hj']
      obtain ⟨v', k1, k2⟩ := ld_ok hr (by simp : (fun b => if b = 0 then some (⟨g, cs.toList.length, 0⟩ : Ent) else none) 0 = some ⟨g, cs.toList.length, 0⟩) hu
      rw [flat_eq 6 hf k2] at k1
      exact k1
    · cases h
  · cases h

theorem eql_ptr_same {tp te : TypeId} {j : TypeInfo} (a : Addr) (hp : P.underlying tp = some (.pointer te)) (hte : P.info? te = some j) (w : World) :
    (binOp .eql tp (.pointer (some a)) (.pointer (some a))).run P w = .ok (.bool true) w := by
  have h : ∀ d : Nat, (Op.equalIn (d + 1) tp (.pointer (some a)) (.pointer (some a))).run P w = .ok true w := fun d => by
    simp [Op.equalIn, run_underlying hp, sizeOf, typeInfo, hte, run_sameAddr_same]
  simp only [binOp]
  simp [Op.equal, Op.maxDepth, h 9999]

theorem isPtr_spec {t : TypeId} (h : isPtr P t = true) : ∃ e, P.underlying t = some (.pointer e) := by
  unfold isPtr at h
  split at h
  · rename_i e he; exact ⟨e, he⟩
  · cases h

section ops
variable {σ : Sg} {h : AH} {w : World} {ρ : Ev} {ρ' : Operand → Value} (hr : HR P σ h w) (hρ : ∀ x v, ρ x = some v → VR σ v (ρ' x))

/-- What is shown of an operation. -/
def OpOk (P : Program) (σ : Sg) (h : AH) (w : World) (ρ' : Operand → Value) (o : Oper) (r : AR) : Prop :=
  ∃ v h1, r = .val v h1 ∧ ∃ σ1 v' w1, ((execOp ρ' o).run P w = .ok (.value v') w1 ∨ ((execOp ρ' o).run P w = .ok .skip w1 ∧ v' = undef)) ∧ VR σ1 v v' ∧ Ext P σ h w σ1 h1 w1
theorem OpOk.same {o : Oper} {v v' : Value} (hr : HR P σ h w) (he : (execOp ρ' o).run P w = .ok (.value v') w) (hv : VR σ v v') : OpOk P σ h w ρ' o (.val v h) := ⟨v, h, rfl, σ, v', w, .inl he, hv, .refl hr⟩

theorem live_cells (hr : HR P σ h w) {b : Nat} {e : Ent} (hb : σ b = some e) {c : T Value} {n el : Nat} {p : Bool} (hg : h.get b = some (.cells c n el p)) :
    ∃ (arr : Array Value) (fz : Nat × Nat), w.heap[e.blk]? = some (.cells arr el fz) ∧ (p = false → n = arr.size) ∧ n ≤ arr.size ∧ ∀ i, i < n → ∃ v v', c.get i = some v ∧ arr[i]? = some v' ∧ VR σ v v' := by
  obtain ⟨_, a, h1, h2⟩ := hr.live b e hb
  rw [hg] at h1
  cases h1
  rcases h2 with h2 | ⟨o, h2, h3⟩
  · cases h2
  · obtain ⟨arr, fz, rfl, k2, k3, k4, k5, k6, k7⟩ := h3
    exact ⟨arr, fz, h2, k4, k5, k7⟩

include hr hρ in
theorem toUnsafe_ok {o : Oper} {src dst : TypeId} {x : Operand} {r : AR} (ho : o.op = .convert src dst x) (hop : toUnsafe P src dst x h ρ = some r) : OpOk P σ h w ρ' o r := by
  unfold toUnsafe at hop
  split at hop
  · rename_i b oo t hx hs hd
    split at hop
    · rename_i k c n el hz hg
      obtain ⟨hle, hop⟩ := cond_some hop
      cases hop
      obtain ⟨b2, q, e, hbq, hb, hxv⟩ := ptr_inv (hρ _ _ hx)
      cases hbq
      obtain ⟨arr, fz, q1, q2, q3, _⟩ := live_cells hr hb hg
      unfold sizeL at hz
      cases hi : P.info? t with
      | none => rw [hi] at hz; cases hz
      | some j =>
        rw [hi] at hz
        have hj : j.size ≠ 0 := by have : j.size = k + 1 := by simpa using hz
                                   omega
        have hlt : oo < arr.size := Nat.lt_of_lt_of_le (Nat.le_of_ble_eq_true hle) q3
        have hsh : w.shape? e.blk = some (el, arr.size) := by simp [World.shape?, q1]
        refine .same hr ?_ (.ptr hb)
        have := Lib.run_to_unsafe (P := P) w (src := src) (dst := dst) (t := t) (j := j) ⟨e.blk, oo, none⟩ hs hd hi hj hsh hlt
        simp only [execOp, ho, hxv, Sem.run_bind, this, Result.andThen]
        rfl
    · cases hop
  · cases hop

include hr hρ in
theorem ofUnsafe_ok {o : Oper} {src dst : TypeId} {x : Operand} {r : AR} (ho : o.op = .convert src dst x) (hop : ofUnsafe P src dst x h ρ = some r) : OpOk P σ h w ρ' o r := by
  unfold ofUnsafe at hop
  split at hop
  · rename_i b oo u hx hs hd
    split at hop
    · rename_i k c n el hz hg
      obtain ⟨hle, hop⟩ := cond_some hop
      cases hop
      obtain ⟨b2, q, e, hbq, hb, hxv⟩ := ptr_inv (hρ _ _ hx)
      cases hbq
      obtain ⟨arr, fz, q1, q2, q3, _⟩ := live_cells hr hb hg
      have hn := q2 rfl
      subst hn
      unfold sizeL at hz
      cases hi : P.info? u with
      | none => rw [hi] at hz; cases hz
      | some j =>
        have hsh : w.shape? e.blk = some (el, arr.size) := by simp [World.shape?, q1]
        refine .same hr ?_ (.ptr hb)
        have := Lib.run_from_unsafe (P := P) w (src := src) (dst := dst) (u := u) (j := j) ⟨e.blk, oo, none⟩ hs hd hi hsh hle
        simp only [execOp, ho, hxv, Sem.run_bind, this, Result.andThen]
        rfl
    · cases hop
  · cases hop

include hr hρ in
theorem ptrEq_ok {o : Oper} {op : BinOp} {t t2 : TypeId} {q : Bool} {x y : Operand} {r : AR} (ho : o.op = .binOp op t x y t2) (hq : (op = .eql ∧ q = true) ∨ (op = .neq ∧ q = false)) (hop : ptrEq P t q x y h ρ = some r) : OpOk P σ h w ρ' o r := by
  unfold ptrEq at hop
  split at hop
  · rename_i b oo c p te hx hy hp
    split at hop
    · rename_i j hj
      obtain ⟨hle, hop⟩ := cond_some hop
      cases hop
      rw [Bool.and_eq_true] at hle
      have e1 : b = c := Nat.eq_of_beq_eq_true hle.1
      have e2 : oo = p := Nat.eq_of_beq_eq_true hle.2
      subst e1 e2
      obtain ⟨b2, q2, e, hbq, hb, hxv⟩ := ptr_inv (hρ _ _ hx)
      cases hbq
      obtain ⟨b3, q3, e', hbq, hb', hyv⟩ := ptr_inv (hρ _ _ hy)
      cases hbq
      rw [hb] at hb'
      cases hb'
      refine .same hr ?_ (.bool q)
      rcases hq with ⟨rfl, rfl⟩ | ⟨rfl, rfl⟩
      · have := eql_ptr_same (P := P) ⟨e.blk, oo, none⟩ hp hj w
        have hg : (eqGuard .eql t x y (.pointer (some ⟨e.blk, oo, none⟩)) (.pointer (some ⟨e.blk, oo, none⟩))).run P w = .ok () w := by simp [eqGuard]
        simp only [execOp, ho, hxv, hyv, Sem.run_bind, hg, this, Result.andThen]
        rfl
      · have := Lib.run_neq_ptr_same (P := P) w ⟨e.blk, oo, none⟩ hp hj
        have hg : (eqGuard .neq t x y (.pointer (some ⟨e.blk, oo, none⟩)) (.pointer (some ⟨e.blk, oo, none⟩))).run P w = .ok () w := by simp [eqGuard]
        simp only [execOp, ho, hxv, hyv, Sem.run_bind, hg, this, Result.andThen]
        rfl
    · cases hop
  · cases hop

include hr hρ in
theorem sliceData_ok {o : Oper} {x : Operand} {ts : Array TypeId} {r : AR} (ho : o.op = .call ⟨.builtin .unsafeSliceData, ⟨[x]⟩, ts⟩) (hop : sliceData x h ρ = some r) : OpOk P σ h w ρ' o r := by
  unfold sliceData at hop
  split at hop
  · rename_i n c hx
    cases hop
    have hv := hρ _ _ hx
    generalize hx' : ρ' x = xx at hv
    cases hv
    refine .same hr ?_ .ptrN
    simp [execOp, ho, resolve, invoke, builtin, hx', Lib.run_unsafeSliceData_nil]
  · rename_i a n c hx
    cases hop
    obtain ⟨b, q, e, c', rfl, hb, hxv, hcc⟩ := sl_inv (hρ _ _ hx)
    refine .same hr ?_ (.ptr hb)
    have hc : c' ≠ 0 := by
      rcases hcc with ⟨_, rfl⟩ | ⟨_, h2, _⟩
      · omega
      · omega
    have := fun ty => Lib.run_unsafeSliceData_row (P := P) w ts ty ⟨e.blk, q, none⟩ (n + 1) c' hc
    simp [execOp, ho, resolve, invoke, builtin, hxv, this]
  · cases hop

include hr hρ in
theorem unsafeStr_ok {o : Oper} {x n : Operand} {pt it : TypeId} {r : AR} (ho : o.op = .call ⟨.builtin .unsafeString, ⟨[x, n]⟩, ⟨[pt, it]⟩⟩) (hop : unsafeStr P pt x n h ρ = some r) : OpOk P σ h w ρ' o r := by
  unfold unsafeStr at hop
  split at hop
  · rename_i e hx hn hp
    cases hop
    have hv := hρ _ _ hx
    have hv2 := hρ _ _ hn
    generalize hx' : ρ' x = xx at hv
    generalize hn' : ρ' n = nn at hv2
    cases hv; cases hv2
    refine .same hr ?_ (.string _)
    have := fun ty => Lib.run_unsafeString_none (P := P) w pt it ty none
    simp only [execOp, ho, resolve, invoke, builtin, List.map_toArray, List.map_cons, List.map_nil, hx', hn', Sem.run_bind, Sem.run_pure, Result.andThen]
    rw [show (Int.ofNat 0) = (0 : Int) from rfl, this]
    rfl
  · rename_i b k e hx hn hp
    split at hop
    · rename_i c m el opn hg
      obtain ⟨hle, hop⟩ := cond_some hop
      split at hop
      · rename_i l hrow
        split at hop
        · rename_i bl hbl
          obtain ⟨hre, hop⟩ := cond_some hop
          cases hop
          have hlb : l = ofBytes bl := rowEq_eq hre
          simp only [Bool.and_eq_true] at hle
          obtain ⟨⟨⟨c1, c2⟩, c3⟩, c4⟩ := hle
          have c1 : e = el := Nat.eq_of_beq_eq_true c1
          have c2 : P.cellsOf e = 1 := Nat.eq_of_beq_eq_true c2
          have c3 : k + 1 ≤ m := Nat.le_of_ble_eq_true c3
          have c4 : k ≤ 1099511627776 := Nat.le_of_ble_eq_true c4
          subst c1
          obtain ⟨b2, q2, en, hbq, hb, hxv⟩ := ptr_inv (hρ _ _ hx)
          cases hbq
          have hv2 := hρ _ _ hn
          generalize hn' : ρ' n = nn at hv2
          cases hv2
          obtain ⟨arr, fz, q1, q2, q3, q4⟩ := live_cells hr hb hg
          obtain ⟨r1, r2⟩ := T.row_spec c (k + 1) 0 l hrow
          have hlen : bl.length = k + 1 ∧ ∀ (j : Nat) (x : UInt8), bl[j]? = some x → l[j]? = some (Value.int .u8 x.toNat) := by
            refine ⟨?_, fun j x hj => ?_⟩
            · rw [← r1, hlb]; simp [ofBytes]
            · rw [hlb, ofBytes, List.getElem?_map, hj]; rfl
          have hcell : ∀ j y, bl[j]? = some y → w.cell? ((⟨en.blk, 0, none⟩ : Addr).add j) = some (.int .u8 y.toNat) := by
            intro j y hj
            have h1 := hlen.2 j y hj
            have hjl : j < k + 1 := by
              rcases Nat.lt_or_ge j (k + 1) with h' | h'
              · exact h'
              · rw [List.getElem?_eq_none (by omega)] at hj; cases hj
            obtain ⟨u, u', s1, s2, s3⟩ := q4 j (by omega)
            have h2 := r2 j hjl
            rw [Nat.zero_add, s1, h1] at h2
            cases h2
            cases s3
            rw [addr_add, Nat.zero_add]
            simp [World.cell?, q1, s2]
          have hsh : w.shape? en.blk = some (e, arr.size) := by simp [World.shape?, q1]
          have hrun := fun ty => Lib.run_unsafeString_row (P := P) w pt it ty e hp c2 en.blk arr.size hsh bl (by intro hh; rw [hh] at hlen; simp at hlen) (by omega) (by omega) hcell
          have hd : h.get b ≠ some .dead := by rw [hg]; intro hh; cases hh
          refine ⟨_, _, rfl, σ, .string ⟨⟨bl⟩⟩, w.freeze ⟨en.blk, 0, none⟩ bl.length, .inl ?_, .string _, ?_⟩
          · have hi : (Int.ofNat (Nat.succ k)) = (bl.length : Int) := by rw [hlen.1]; rfl
            simp only [execOp, ho, resolve, invoke, builtin, List.map_toArray, List.map_cons, List.map_nil, hxv, hn', Sem.run_bind, Sem.run_pure, Result.andThen]
            rw [hi, hrun]
          · refine put_ext hr hb hd .dead _ ?_ ?_ ?_ (.inl rfl)
            · unfold World.freeze; split <;> simp
            · unfold World.freeze; split <;> exact ⟨rfl, rfl, rfl⟩
            · intro kk hkk
              unfold World.freeze
              split
              · rfl
              · show (w.heap.modify en.blk _)[kk]? = _
                rw [Array.getElem?_modify, if_neg (Ne.symm hkk)]
        · cases hop
      · cases hop
    · cases hop
  · cases hop

include hr hρ in
theorem sameArg_ok {same : FuncId} (hsame : ∀ x w, (callFunc same #[x]).run P w = .ok (.value x) w) {o : Oper} {g x : Operand} {ts : Array TypeId} {r : AR} (ho : o.op = .call ⟨.value g, ⟨[x]⟩, ts⟩) (hop : sameArg same g x h ρ = some r) : OpOk P σ h w ρ' o r := by
  unfold sameArg at hop
  split at hop
  · rename_i f' v hg hx
    obtain ⟨hf, hop⟩ := cond_some hop
    cases hop
    have hf : f' = same := Nat.eq_of_beq_eq_true hf
    subst hf
    have hv := hρ _ _ hg
    generalize hg' : ρ' g = gg at hv
    cases hv with
    | func hfn ha hc =>
      rename_i f2 a2 c2
      cases hfn
      obtain ⟨a2⟩ := a2
      obtain ⟨c2⟩ := c2
      cases ha
      cases hc
      refine .same hr ?_ (hρ _ _ hx)
      simp [execOp, ho, resolve, hg', Deferred.ofValue, invoke, hsame]
  · cases hop
end ops
end

/-- Operations of the library's, variables that are laid, and calls that are known. -/
noncomputable abbrev libOrc (P : Program) (same : FuncId) (ca : FuncId → List Value → Option Value) : Orc P := ⟨fun _ _ _ _ => none, fun f args _ => ca f args, libOps P same⟩
/-- What was laid lies there. -/
def LaidIn (w : World) : Prop := ∀ g o, Val.laid g = some o → w.heap[g]? = some o
/-- What is told of a call is so. -/
def CallsOk (P : Program) (ca : FuncId → List Value → Option Value) : Prop :=
  ∀ f args v, ca f args = some v → args.all (flat 6) = true ∧ flat 6 v = true ∧ ∀ w, LaidIn w → Calls P f ⟨args⟩ w fun e w' => e = .returned v ∧ Below w.heap.size w w'

theorem libOk (P : Program) (same : FuncId) (ca : FuncId → List Value → Option Value) (hsame : ∀ x w, (callFunc same #[x]).run P w = .ok (.value x) w) (hca : CallsOk P ca) : @OrcOk _ P (libOrc P same ca) := by
  refine @OrcOk.mk _ P (libOrc P same ca) (fun h => by cases h) ?_ ?_ ?_ ?_ ?_ rfl
  · intro f args h v hv σ w args' hr ha
    obtain ⟨h1, h2, h3⟩ := hca f args v hv
    have he : args' = ⟨args⟩ := by apply Array.ext'; exact ha.eq_of_flat h1
    rw [he]
    exact (h3 w fun g o hg => (hr.lay g o hg).1).mono fun e w' ⟨q1, q2⟩ => ⟨_, q1, flat_refl σ 6 h2, q2⟩
  · intro o f h ρ r hor hf σ w ρ' hr hglob hρ
    change libOps P same o.op = some f at hor
    show OpOk P σ h w ρ' o r
    unfold libOps at hor
    split at hor
    · rename_i t g hop
      cases hor
      simp only at hf
      unfold aval at hf
      split at hf
      · rename_i v hv
        cases hf
        obtain ⟨h1, h2⟩ := ldG_run (w := w) (fun o ho => (hr.lay g o ho).1) hv
        refine .same hr ?_ (flat_refl σ 6 h2)
        simp [execOp, hop, hglob, Instr.loadAt, Instr.sureAddr, h1]
      · cases hf
    · rename_i src dst x hop
      cases hc : (isUnsafe P dst && isPtr P src) with
      | true => rw [hc] at hor; cases hor; exact toUnsafe_ok hr hρ hop hf
      | false =>
        rw [hc] at hor
        simp only [cond_false] at hor
        obtain ⟨_, hor⟩ := cond_some hor
        cases hor
        exact ofUnsafe_ok hr hρ hop hf
    · rename_i t x y t2 hop
      obtain ⟨_, hor⟩ := cond_some hor
      cases hor
      exact ptrEq_ok hr hρ hop (.inl ⟨rfl, rfl⟩) hf
    · rename_i t x y t2 hop
      obtain ⟨_, hor⟩ := cond_some hor
      cases hor
      exact ptrEq_ok hr hρ hop (.inr ⟨rfl, rfl⟩) hf
    · rename_i x ts hop
      cases hor
      exact sliceData_ok hr hρ hop hf
    · rename_i x n pt it hop
      cases hor
      exact unsafeStr_ok hr hρ hop hf
    · rename_i f' x ts hop
      obtain ⟨hfs, hor⟩ := cond_some hor
      cases hor
      exact sameArg_ok hr hρ hsame hop hf
    · cases hor
  · intro o f hor h ρ ρ' hc
    change libOps P same o = some f at hor
    unfold libOps at hor
    split at hor
    · cases hor; rfl
    · rename_i src dst x
      have h1 := hc x (by simp [Op.operands])
      cases hcc : (isUnsafe P dst && isPtr P src) with
      | true => rw [hcc] at hor; cases hor; simp only [toUnsafe, h1]
      | false =>
        rw [hcc] at hor
        simp only [cond_false] at hor
        obtain ⟨_, hor⟩ := cond_some hor
        cases hor
        simp only [ofUnsafe, h1]
    · rename_i t x y t2
      have h1 := hc (.tmp x) (by simp [Op.operands])
      have h2 := hc (.tmp y) (by simp [Op.operands])
      obtain ⟨_, hor⟩ := cond_some hor
      cases hor
      simp only [ptrEq, h1, h2]
    · rename_i t x y t2
      have h1 := hc (.tmp x) (by simp [Op.operands])
      have h2 := hc (.tmp y) (by simp [Op.operands])
      obtain ⟨_, hor⟩ := cond_some hor
      cases hor
      simp only [ptrEq, h1, h2]
    · rename_i x ts
      have h1 := hc x (by simp [Op.operands, Call.operands])
      cases hor
      simp only [sliceData, h1]
    · rename_i x n pt it
      have h1 := hc x (by simp [Op.operands, Call.operands])
      have h2 := hc n (by simp [Op.operands, Call.operands])
      cases hor
      simp only [unsafeStr, h1, h2]
    · rename_i f' x ts
      have h1 := hc x (by simp [Op.operands, Call.operands])
      have h2 := hc (.func f') (by simp [Op.operands, Call.operands])
      obtain ⟨_, hor⟩ := cond_some hor
      cases hor
      simp only [sameArg, h1, h2]
    · cases hor
  · intro o f hor h ρ r hf
    change libOps P same o = some f at hor
    have av : ∀ {x : Option Value}, aval x h = some r → ∃ v h1, r = .val v h1 := by
      intro x hx
      unfold aval at hx
      split at hx
      · cases hx; exact ⟨_, _, rfl⟩
      · cases hx
    unfold libOps at hor
    split at hor
    · cases hor; exact av hf
    · rename_i src dst x
      cases hcc : (isUnsafe P dst && isPtr P src) with
      | true =>
        rw [hcc] at hor; cases hor
        simp only [toUnsafe] at hf
        split at hf
        · split at hf
          · obtain ⟨_, hf⟩ := cond_some hf; cases hf; exact ⟨_, _, rfl⟩
          · cases hf
        · cases hf
      | false =>
        rw [hcc] at hor
        simp only [cond_false] at hor
        obtain ⟨_, hor⟩ := cond_some hor
        cases hor
        simp only [ofUnsafe] at hf
        split at hf
        · split at hf
          · obtain ⟨_, hf⟩ := cond_some hf; cases hf; exact ⟨_, _, rfl⟩
          · cases hf
        · cases hf
    · obtain ⟨_, hor⟩ := cond_some hor
      cases hor
      simp only [ptrEq] at hf
      split at hf
      · split at hf
        · obtain ⟨_, hf⟩ := cond_some hf; cases hf; exact ⟨_, _, rfl⟩
        · cases hf
      · cases hf
    · obtain ⟨_, hor⟩ := cond_some hor
      cases hor
      simp only [ptrEq] at hf
      split at hf
      · split at hf
        · obtain ⟨_, hf⟩ := cond_some hf; cases hf; exact ⟨_, _, rfl⟩
        · cases hf
      · cases hf
    · cases hor
      simp only [sliceData] at hf
      split at hf
      · cases hf; exact ⟨_, _, rfl⟩
      · cases hf; exact ⟨_, _, rfl⟩
      · cases hf
    · cases hor
      simp only [unsafeStr] at hf
      split at hf
      · cases hf; exact ⟨_, _, rfl⟩
      · split at hf
        · obtain ⟨_, hf⟩ := cond_some hf
          split at hf
          · split at hf
            · obtain ⟨_, hf⟩ := cond_some hf; cases hf; exact ⟨_, _, rfl⟩
            · cases hf
          · cases hf
        · cases hf
      · cases hf
    · obtain ⟨_, hor⟩ := cond_some hor
      cases hor
      simp only [sameArg] at hf
      split at hf
      · obtain ⟨_, hf⟩ := cond_some hf; cases hf; exact ⟨_, _, rfl⟩
      · cases hf
    · cases hor
  · intro t a f hor
    change libOps P same (.load t a) = some f at hor
    unfold libOps at hor
    split at hor <;> first
      | (rename_i g hop; cases hop; exact ⟨_, rfl⟩)
      | (rename_i hop; cases hop)
      | cases hor

/-- A closed call, with all this. -/
theorem lib_calls {P : Program} {same : FuncId} {ca : FuncId → List Value → Option Value} (hsame : ∀ x w, (callFunc same #[x]).run P w = .ok (.value x) w) (hca : CallsOk P ca) (hmix : P.follows .mixedOrders = true) {f : FuncId} {args : Array Value} {fuel : Nat} (hargs : args.toList.all (flat 6) = true)
    (hev : allTrue (@start P (libOrc P same ca) f args fuel) = true) (w : World) (hl : LaidIn w) : Calls P f args w fun e w' => e = .returned (.bool true) ∧ Below w.heap.size w w' :=
  @ev_calls _ P (libOrc P same ca) (libOk P same ca hsame hca) hmix f args fuel (.bool true) hargs rfl (allTrue_some hev) w hl
end Go.Proofs.YtoidfnknckfjhaaGreatDoor.Ev
