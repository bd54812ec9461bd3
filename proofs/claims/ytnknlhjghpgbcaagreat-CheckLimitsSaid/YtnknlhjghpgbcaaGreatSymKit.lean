/-
  Tables of answers: rows on comparisons of numbers. No condition.
-/
import Derived.Test.YtnknlhjghpgbcaaGreatEvSym
import Derived.Test.YtnknlhjghpgbcaaGreatFrame
namespace Go.Proofs.YtnknlhjghpgbcaaGreat
open Go.RowKit Ev
set_option linter.unusedVariables false

/-- Numbers that are not known: their list. -/
abbrev numbers (l : List Int) : Val := ⟨fun _ => .i64, fun i => l.getD i 0⟩
def sy (i : Nat) : Value := .chan (some (Nat.succ i))
def i64 (n : Int) : Value := .int .i64 n
def rt (i : Nat) : Value := .agg #[sy i, sy (Nat.succ i)]
def rc (a b : Int) : Value := .agg #[i64 a, i64 b]
def okV (v : Value) : Value := .tuple #[v, .bool true]

theorem not_le_dec (a b : Int) : (!decide (b ≤ a)) = decide (a < b) := by
  by_cases h : a < b
  · rw [decide_eq_true h, decide_eq_false (by omega)]; rfl
  · rw [decide_eq_false h, decide_eq_true (by omega)]; rfl

section
variable {V : Val} {a b : Value} {m m' : Int}
theorem bin_lss (ha : pureV 3 a = true) (hb : pureV 3 b = true) (h1 : den 3 a = .int .i64 m) (h2 : den 3 b = .int .i64 m') (r : Bool) (h : decide (m < m') = r) : BinOk (.lss, a, b, .bool r) :=
  ⟨ha, hb, rfl, .i64, m, m', h1, h2, by show some (Value.bool (!leI m' m)) = some (Value.bool r); rw [leI_eq, not_le_dec, h]⟩
theorem bin_gtr (ha : pureV 3 a = true) (hb : pureV 3 b = true) (h1 : den 3 a = .int .i64 m) (h2 : den 3 b = .int .i64 m') (r : Bool) (h : decide (m' < m) = r) : BinOk (.gtr, a, b, .bool r) :=
  ⟨ha, hb, rfl, .i64, m, m', h1, h2, by show some (Value.bool (!leI m m')) = some (Value.bool r); rw [leI_eq, not_le_dec, h]⟩
theorem bin_leq (ha : pureV 3 a = true) (hb : pureV 3 b = true) (h1 : den 3 a = .int .i64 m) (h2 : den 3 b = .int .i64 m') (r : Bool) (h : decide (m ≤ m') = r) : BinOk (.leq, a, b, .bool r) :=
  ⟨ha, hb, rfl, .i64, m, m', h1, h2, by show some (Value.bool (leI m m')) = some (Value.bool r); rw [leI_eq, ← h]⟩
theorem bin_geq (ha : pureV 3 a = true) (hb : pureV 3 b = true) (h1 : den 3 a = .int .i64 m) (h2 : den 3 b = .int .i64 m') (r : Bool) (h : decide (m' ≤ m) = r) : BinOk (.geq, a, b, .bool r) :=
  ⟨ha, hb, rfl, .i64, m, m', h1, h2, by show some (Value.bool (leI m' m)) = some (Value.bool r); rw [leI_eq, ← h]⟩
theorem bin_eql (ha : pureV 3 a = true) (hb : pureV 3 b = true) (h1 : den 3 a = .int .i64 m) (h2 : den 3 b = .int .i64 m') (r : Bool) (h : decide (m = m') = r) : BinOk (.eql, a, b, .bool r) :=
  ⟨ha, hb, rfl, .i64, m, m', h1, h2, by show some (Value.bool (eqI m m')) = some (Value.bool r); rw [eqI_eq, ← h]⟩
theorem bin_neq (ha : pureV 3 a = true) (hb : pureV 3 b = true) (h1 : den 3 a = .int .i64 m) (h2 : den 3 b = .int .i64 m') (r : Bool) (h : (!decide (m = m')) = r) : BinOk (.neq, a, b, .bool r) :=
  ⟨ha, hb, rfl, .i64, m, m', h1, h2, by show some (Value.bool (!eqI m m')) = some (Value.bool r); rw [eqI_eq, ← h]⟩
end

/-- A call of numbers that are not known, with its tables. -/
theorem tab_calls {P : Program} (hmix : P.follows .mixedOrders = true) (T : Tab) (V : Val) {f : FuncId} {args : List Value} {fuel : Nat} (hp : args.all (pureV 3) = true) (hb : ∀ e ∈ T.bins, @BinOk V e) (hc : ∀ e ∈ T.calls, @CallOk V P e)
    (hev : allTrue (@Ev.start P (T.orc P) f ⟨args⟩ fuel) = true) (w : World) : Calls P f ⟨args.map (@den V 3)⟩ w fun e w' => e = .returned (.bool true) ∧ Below w.heap.size w w' :=
  @ev_callsR V P (T.orc P) (@Tab.ok V P T hb hc) hmix f args _ fuel _ (@dens_vr V _ 3 _ hp) rfl (allTrue_some hev) w
end Go.Proofs.YtnknlhjghpgbcaaGreat
