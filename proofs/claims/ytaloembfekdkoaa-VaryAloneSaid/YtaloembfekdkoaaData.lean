/- A font's data: what it is to lie in memory; opening what came in. Printed by gen_data.py. -/
import Derived.Test.YtaloembfekdkoaaGBase
import Derived.ProofKit
import Derived.OpenShut
import Derived.Lib.SmallJoins
namespace Go.Proofs.Ytaloembfekdkoaa
open Go.RowKit
set_option linter.unusedVariables false
def I64 (x : Int) : Prop := -9223372036854775808 ≤ x ∧ x ≤ 9223372036854775807
def Rows {α : Type} (k : Nat) (R : Nat → World → List Value → α → Prop) (B : Nat) (w : World) (v : Value) (l : List α) : Prop :=
  ∃ oa cap, v = .slice oa l.length cap ∧ l.length ≤ maxLen ∧ ∀ i (h : i < l.length), ∃ a : Addr, oa = some a ∧ B ≤ a.block ∧ ∃ cs, cs.length = k ∧ (∀ j, j < k → w.cell? ((a.add (i * k)).add j) = cs[j]?) ∧ R B w cs l[i]
def Above (B : Nat) (w w' : World) : Prop := ∀ k, B ≤ k → k < w.heap.size → w'.heap[k]? = w.heap[k]?
theorem Mod.above {w w' : World} (m : Mod [] w w') (B : Nat) : Above B w w' := fun k _ hk => m.block k hk (by simp)
theorem Above.set {B : Nat} (w : World) {p : Addr} (hp : p.block < B) (v : Value) : Above B w (w.setCell p v) := fun k hk _ => Below.heap_setCell w p v k (fun he => by omega)
theorem Above.then {B : Nat} {a b c : World} (h : Above B a b) (hs : a.heap.size ≤ b.heap.size) (k : Above B b c) : Above B a c := fun x hx hlt => (k x hx (Nat.lt_of_lt_of_le hlt hs)).trans (h x hx hlt)
def Stay {α : Type} (R : Nat → World → List Value → α → Prop) : Prop := ∀ B w w' cs x, R B w cs x → Above B w w' → R B w' cs x
def Lower {α : Type} (R : Nat → World → List Value → α → Prop) : Prop := ∀ B B' w cs x, R B w cs x → B' ≤ B → R B' w cs x
theorem cell_lt {w : World} {a : Addr} {v : Value} (h : w.cell? a = some v) : a.block < w.heap.size := by
  rcases Nat.lt_or_ge a.block w.heap.size with h' | h'
  · exact h'
  · exfalso
    have : w.cell? a = none := by unfold World.cell?; rw [show w.heap[a.block]? = none by simp; exact h']
    rw [this] at h; cases h
theorem cell_above {B : Nat} {w w' : World} {a : Addr} {v : Value} (m : Above B w w') (hB : B ≤ a.block) (h : w.cell? a = some v) : w'.cell? a = some v := by
  have e := m a.block hB (cell_lt h)
  have : w'.cell? a = w.cell? a := World.cell?_of_block e
  rw [this, h]
theorem cell_stays {w w' : World} {a : Addr} {v : Value} (m : Mod [] w w') (h : w.cell? a = some v) : w'.cell? a = some v := cell_above (m.above 0) (Nat.zero_le _) h
theorem add_block (a : Addr) (n : Nat) : (a.add n).block = a.block := by unfold Addr.add; split <;> rfl
theorem Rows.above {α : Type} {k B : Nat} {R : Nat → World → List Value → α → Prop} (hR : Stay R) {w w' : World} {v : Value} {l : List α} (h : Rows k R B w v l) (m : Above B w w') : Rows k R B w' v l := by
  obtain ⟨oa, cap, hv, hl, h⟩ := h
  refine ⟨oa, cap, hv, hl, fun i hi => ?_⟩
  obtain ⟨a, ha, hB, cs, hk, hc, hr⟩ := h i hi
  refine ⟨a, ha, hB, cs, hk, fun j hj => ?_, hR _ _ _ _ _ hr m⟩
  have h2 := hc j hj
  rw [List.getElem?_eq_getElem (by omega)] at h2 ⊢
  exact cell_above m (by rw [add_block, add_block]; exact hB) h2
theorem Rows.mod {α : Type} {k B : Nat} {R : Nat → World → List Value → α → Prop} (hR : Stay R) {w w' : World} {v : Value} {l : List α} (h : Rows k R B w v l) (m : Mod [] w w') : Rows k R B w' v l := h.above hR (m.above B)
theorem Rows.lower {α : Type} {k B B' : Nat} {R : Nat → World → List Value → α → Prop} (hR : Lower R) {w : World} {v : Value} {l : List α} (h : Rows k R B w v l) (hB : B' ≤ B) : Rows k R B' w v l := by
  obtain ⟨oa, cap, hv, hl, h⟩ := h
  refine ⟨oa, cap, hv, hl, fun i hi => ?_⟩
  obtain ⟨a, ha, hb, cs, hk, hc, hr⟩ := h i hi
  exact ⟨a, ha, Nat.le_trans hB hb, cs, hk, hc, hR _ _ _ _ _ hr hB⟩
theorem Rows.nil {α : Type} {k B : Nat} {R : Nat → World → List Value → α → Prop} (w : World) : Rows k R B w (.slice Option.none 0 0) [] := ⟨Option.none, 0, rfl, by show (0 : Nat) ≤ maxLen; decide, fun i hi => absurd hi (Nat.not_lt_zero i)⟩
theorem Rows.at {α : Type} {k B : Nat} {R : Nat → World → List Value → α → Prop} {w : World} {oa : Option Addr} {n cap : Nat} {l : List α} (h : Rows k R B w (.slice oa n cap) l) (i : Nat) (hl : i < l.length) :
    ∃ a : Addr, oa = some a ∧ B ≤ a.block ∧ ∃ cs, cs.length = k ∧ (0 < k → w.cell? (a.add (i * k)) = cs[0]?) ∧ (∀ j, 0 < j → j < k → w.cell? ⟨(a.add (i * k)).block, (a.add (i * k)).off + j, Option.none⟩ = cs[j]?) ∧ R B w cs l[i] := by
  obtain ⟨oa', cap', hv, _, h⟩ := h
  cases hv
  obtain ⟨a, ha, hB, cs, hk, hc, hr⟩ := h i hl
  refine ⟨a, ha, hB, cs, hk, fun h0 => ?_, fun j h0 hj => ?_, hr⟩
  · have := hc 0 h0; simpa [Addr.add] using this
  · have := hc j hj
    rw [show ((a.add (i * k)).add j) = ⟨(a.add (i * k)).block, (a.add (i * k)).off + j, Option.none⟩ by simp [Addr.add, Nat.ne_of_gt h0]] at this
    exact this
theorem Rows.form {α : Type} {k B : Nat} {R : Nat → World → List Value → α → Prop} {w : World} {v : Value} {l : List α} (h : Rows k R B w v l) : ∃ oa cap, v = .slice oa l.length cap ∧ l.length ≤ maxLen := by
  obtain ⟨oa, cap, hv, hl, _⟩ := h
  exact ⟨oa, cap, hv, hl⟩
def RInt (B : Nat) (w : World) (cs : List Value) (x : Int) : Prop := cs = [.int .i64 x] ∧ I64 x
theorem RInt.stay : Stay RInt := fun _ _ _ _ _ h _ => h
theorem RInt.lower : Lower RInt := fun _ _ _ _ _ h _ => h
def RSet (B : Nat) (w : World) (cs : List Value) (l : List Int) : Prop := ∃ v, cs = [v] ∧ Rows 1 RInt B w v l
theorem RSet.stay : Stay RSet := fun _ _ _ _ _ ⟨v, h, hr⟩ m => ⟨v, h, hr.above RInt.stay m⟩
theorem RSet.lower : Lower RSet := fun _ _ _ _ _ ⟨v, h, hr⟩ m => ⟨v, h, hr.lower RInt.lower m⟩
structure DPoint where
  x : Int
  y : Int
  on : Bool
def RPoint (B : Nat) (w : World) (cs : List Value) (d : DPoint) : Prop := cs = [.int .i64 d.x, .int .i64 d.y, .bool d.on] ∧ I64 d.x ∧ I64 d.y
theorem RPoint.stay : Stay RPoint := fun _ _ _ _ d ⟨hc, h0, h1⟩ m => ⟨hc, h0, h1⟩
theorem RPoint.lower : Lower RPoint := fun _ _ _ _ d ⟨hc, h0, h1⟩ m => ⟨hc, h0, h1⟩
structure DPart where
  glyph : Int
  x : Int
  y : Int
def RPart (B : Nat) (w : World) (cs : List Value) (d : DPart) : Prop := cs = [.int .i64 d.glyph, .int .i64 d.x, .int .i64 d.y] ∧ I64 d.glyph ∧ I64 d.x ∧ I64 d.y
theorem RPart.stay : Stay RPart := fun _ _ _ _ d ⟨hc, h0, h1, h2⟩ m => ⟨hc, h0, h1, h2⟩
theorem RPart.lower : Lower RPart := fun _ _ _ _ d ⟨hc, h0, h1, h2⟩ m => ⟨hc, h0, h1, h2⟩
structure DAnchor where
  kind : Int
  cls : Int
  x : Int
  y : Int
def RAnchor (B : Nat) (w : World) (cs : List Value) (d : DAnchor) : Prop := cs = [.int .i64 d.kind, .int .i64 d.cls, .int .i64 d.x, .int .i64 d.y] ∧ I64 d.kind ∧ I64 d.cls ∧ I64 d.x ∧ I64 d.y
theorem RAnchor.stay : Stay RAnchor := fun _ _ _ _ d ⟨hc, h0, h1, h2, h3⟩ m => ⟨hc, h0, h1, h2, h3⟩
theorem RAnchor.lower : Lower RAnchor := fun _ _ _ _ d ⟨hc, h0, h1, h2, h3⟩ m => ⟨hc, h0, h1, h2, h3⟩
structure DDelta where
  region : Int
  point : Int
  x : Int
  y : Int
def RDelta (B : Nat) (w : World) (cs : List Value) (d : DDelta) : Prop := cs = [.int .i64 d.region, .int .i64 d.point, .int .i64 d.x, .int .i64 d.y] ∧ I64 d.region ∧ I64 d.point ∧ I64 d.x ∧ I64 d.y
theorem RDelta.stay : Stay RDelta := fun _ _ _ _ d ⟨hc, h0, h1, h2, h3⟩ m => ⟨hc, h0, h1, h2, h3⟩
theorem RDelta.lower : Lower RDelta := fun _ _ _ _ d ⟨hc, h0, h1, h2, h3⟩ m => ⟨hc, h0, h1, h2, h3⟩
structure DIns where
  op : Int
  a : Int
def RIns (B : Nat) (w : World) (cs : List Value) (d : DIns) : Prop := cs = [.int .i64 d.op, .int .i64 d.a] ∧ I64 d.op ∧ I64 d.a
theorem RIns.stay : Stay RIns := fun _ _ _ _ d ⟨hc, h0, h1⟩ m => ⟨hc, h0, h1⟩
theorem RIns.lower : Lower RIns := fun _ _ _ _ d ⟨hc, h0, h1⟩ m => ⟨hc, h0, h1⟩
def RCode (B : Nat) (w : World) (cs : List Value) (l : List DIns) : Prop := ∃ v, cs = [v] ∧ Rows 2 RIns B w v l
theorem RCode.stay : Stay RCode := fun _ _ _ _ _ ⟨v, h, hr⟩ m => ⟨v, h, hr.above RIns.stay m⟩
theorem RCode.lower : Lower RCode := fun _ _ _ _ _ ⟨v, h, hr⟩ m => ⟨v, h, hr.lower RIns.lower m⟩
structure DChar where
  rune : Int
  glyph : Int
def RChar (B : Nat) (w : World) (cs : List Value) (d : DChar) : Prop := cs = [.int .i64 d.rune, .int .i64 d.glyph] ∧ I64 d.rune ∧ I64 d.glyph
theorem RChar.stay : Stay RChar := fun _ _ _ _ d ⟨hc, h0, h1⟩ m => ⟨hc, h0, h1⟩
theorem RChar.lower : Lower RChar := fun _ _ _ _ d ⟨hc, h0, h1⟩ m => ⟨hc, h0, h1⟩
structure DCall where
  pos : Int
  lookup : Int
def RCall (B : Nat) (w : World) (cs : List Value) (d : DCall) : Prop := cs = [.int .i64 d.pos, .int .i64 d.lookup] ∧ I64 d.pos ∧ I64 d.lookup
theorem RCall.stay : Stay RCall := fun _ _ _ _ d ⟨hc, h0, h1⟩ m => ⟨hc, h0, h1⟩
theorem RCall.lower : Lower RCall := fun _ _ _ _ d ⟨hc, h0, h1⟩ m => ⟨hc, h0, h1⟩
structure DTent where
  start : Int
  peak : Int
  stop : Int
def RTent (B : Nat) (w : World) (cs : List Value) (d : DTent) : Prop := cs = [.int .i64 d.start, .int .i64 d.peak, .int .i64 d.stop] ∧ I64 d.start ∧ I64 d.peak ∧ I64 d.stop
theorem RTent.stay : Stay RTent := fun _ _ _ _ d ⟨hc, h0, h1, h2⟩ m => ⟨hc, h0, h1, h2⟩
theorem RTent.lower : Lower RTent := fun _ _ _ _ d ⟨hc, h0, h1, h2⟩ m => ⟨hc, h0, h1, h2⟩
structure DAxis where
  name : ByteArray
  min : Int
  dflt : Int
  max : Int
def RAxis (B : Nat) (w : World) (cs : List Value) (d : DAxis) : Prop := cs = [.string d.name, .int .i64 d.min, .int .i64 d.dflt, .int .i64 d.max] ∧ d.name.size ≤ maxLen ∧ I64 d.min ∧ I64 d.dflt ∧ I64 d.max
theorem RAxis.stay : Stay RAxis := fun _ _ _ _ d ⟨hc, h0, h1, h2, h3⟩ m => ⟨hc, h0, h1, h2, h3⟩
theorem RAxis.lower : Lower RAxis := fun _ _ _ _ d ⟨hc, h0, h1, h2, h3⟩ m => ⟨hc, h0, h1, h2, h3⟩
structure DOutline where
  pts : List (DPoint)
  ends : List (Int)
def ROutline (B : Nat) (w : World) (cs : List Value) (d : DOutline) : Prop := ∃ v0 v1, cs = [v0, v1] ∧ Rows 3 RPoint B w v0 d.pts ∧ Rows 1 RInt B w v1 d.ends
theorem ROutline.stay : Stay ROutline := fun _ _ _ _ d ⟨v0, v1, hc, h0, h1⟩ m => ⟨v0, v1, hc, h0.above RPoint.stay m, h1.above RInt.stay m⟩
theorem ROutline.lower : Lower ROutline := fun _ _ _ _ d ⟨v0, v1, hc, h0, h1⟩ m => ⟨v0, v1, hc, h0.lower RPoint.lower m, h1.lower RInt.lower m⟩
structure DFeature where
  name : ByteArray
  lookups : List (Int)
def RFeature (B : Nat) (w : World) (cs : List Value) (d : DFeature) : Prop := ∃ v1, cs = [.string d.name, v1] ∧ d.name.size ≤ maxLen ∧ Rows 1 RInt B w v1 d.lookups
theorem RFeature.stay : Stay RFeature := fun _ _ _ _ d ⟨v1, hc, h0, h1⟩ m => ⟨v1, hc, h0, h1.above RInt.stay m⟩
theorem RFeature.lower : Lower RFeature := fun _ _ _ _ d ⟨v1, hc, h0, h1⟩ m => ⟨v1, hc, h0, h1.lower RInt.lower m⟩
structure DRule where
  back : List (List Int)
  ins : List (List Int)
  ahead : List (List Int)
  out : List (Int)
  calls : List (DCall)
  x : Int
def RRule (B : Nat) (w : World) (cs : List Value) (d : DRule) : Prop := ∃ v0 v1 v2 v3 v4, cs = [v0, v1, v2, v3, v4, .int .i64 d.x] ∧ Rows 1 RSet B w v0 d.back ∧ Rows 1 RSet B w v1 d.ins ∧ Rows 1 RSet B w v2 d.ahead ∧ Rows 1 RInt B w v3 d.out ∧ Rows 2 RCall B w v4 d.calls ∧ I64 d.x
theorem RRule.stay : Stay RRule := fun _ _ _ _ d ⟨v0, v1, v2, v3, v4, hc, h0, h1, h2, h3, h4, h5⟩ m => ⟨v0, v1, v2, v3, v4, hc, h0.above RSet.stay m, h1.above RSet.stay m, h2.above RSet.stay m, h3.above RInt.stay m, h4.above RCall.stay m, h5⟩
theorem RRule.lower : Lower RRule := fun _ _ _ _ d ⟨v0, v1, v2, v3, v4, hc, h0, h1, h2, h3, h4, h5⟩ m => ⟨v0, v1, v2, v3, v4, hc, h0.lower RSet.lower m, h1.lower RSet.lower m, h2.lower RSet.lower m, h3.lower RInt.lower m, h4.lower RCall.lower m, h5⟩
structure DLookup where
  kind : Int
  ignore : Bool
  rules : List (DRule)
def RLookup (B : Nat) (w : World) (cs : List Value) (d : DLookup) : Prop := ∃ v2, cs = [.int .i64 d.kind, .bool d.ignore, v2] ∧ I64 d.kind ∧ Rows 6 RRule B w v2 d.rules
theorem RLookup.stay : Stay RLookup := fun _ _ _ _ d ⟨v2, hc, h0, h1⟩ m => ⟨v2, hc, h0, h1.above RRule.stay m⟩
theorem RLookup.lower : Lower RLookup := fun _ _ _ _ d ⟨v2, hc, h0, h1⟩ m => ⟨v2, hc, h0, h1.lower RRule.lower m⟩
structure DGlyph where
  name : ByteArray
  adv : Int
  mark : Bool
  pts : List DPoint
  ends : List Int
  parts : List (DPart)
  anchors : List (DAnchor)
  deltas : List (DDelta)
  hint : List (DIns)
def RGlyph (B : Nat) (w : World) (cs : List Value) (d : DGlyph) : Prop := ∃ v3 v4 v5 v6 v7 v8, cs = [.string d.name, .int .i64 d.adv, .bool d.mark, v3, v4, v5, v6, v7, v8] ∧ d.name.size ≤ maxLen ∧ I64 d.adv ∧ Rows 3 RPoint B w v3 d.pts ∧ Rows 1 RInt B w v4 d.ends ∧ Rows 3 RPart B w v5 d.parts ∧ Rows 4 RAnchor B w v6 d.anchors ∧ Rows 4 RDelta B w v7 d.deltas ∧ Rows 2 RIns B w v8 d.hint
theorem RGlyph.stay : Stay RGlyph := fun _ _ _ _ d ⟨v3, v4, v5, v6, v7, v8, hc, h0, h1, h2, h3, h4, h5, h6, h7⟩ m => ⟨v3, v4, v5, v6, v7, v8, hc, h0, h1, h2.above RPoint.stay m, h3.above RInt.stay m, h4.above RPart.stay m, h5.above RAnchor.stay m, h6.above RDelta.stay m, h7.above RIns.stay m⟩
theorem RGlyph.lower : Lower RGlyph := fun _ _ _ _ d ⟨v3, v4, v5, v6, v7, v8, hc, h0, h1, h2, h3, h4, h5, h6, h7⟩ m => ⟨v3, v4, v5, v6, v7, v8, hc, h0, h1, h2.lower RPoint.lower m, h3.lower RInt.lower m, h4.lower RPart.lower m, h5.lower RAnchor.lower m, h6.lower RDelta.lower m, h7.lower RIns.lower m⟩
structure DRegion where
  tents : List (DTent)
def RRegion (B : Nat) (w : World) (cs : List Value) (d : DRegion) : Prop := ∃ v0, cs = [v0] ∧ Rows 3 RTent B w v0 d.tents
theorem RRegion.stay : Stay RRegion := fun _ _ _ _ d ⟨v0, hc, h0⟩ m => ⟨v0, hc, h0.above RTent.stay m⟩
theorem RRegion.lower : Lower RRegion := fun _ _ _ _ d ⟨v0, hc, h0⟩ m => ⟨v0, hc, h0.lower RTent.lower m⟩
structure DFont where
  unit : Int
  glyphs : List (DGlyph)
  chars : List (DChar)
  lookups : List (DLookup)
  features : List (DFeature)
  axes : List (DAxis)
  regions : List (DRegion)
  funcs : List (List DIns)
  cvt : List (Int)
def RFont (B : Nat) (w : World) (cs : List Value) (d : DFont) : Prop := ∃ v1 v2 v3 v4 v5 v6 v7 v8, cs = [.int .i64 d.unit, v1, v2, v3, v4, v5, v6, v7, v8] ∧ I64 d.unit ∧ Rows 9 RGlyph B w v1 d.glyphs ∧ Rows 2 RChar B w v2 d.chars ∧ Rows 3 RLookup B w v3 d.lookups ∧ Rows 2 RFeature B w v4 d.features ∧ Rows 4 RAxis B w v5 d.axes ∧ Rows 1 RRegion B w v6 d.regions ∧ Rows 1 RCode B w v7 d.funcs ∧ Rows 1 RInt B w v8 d.cvt
theorem RFont.stay : Stay RFont := fun _ _ _ _ d ⟨v1, v2, v3, v4, v5, v6, v7, v8, hc, h0, h1, h2, h3, h4, h5, h6, h7, h8⟩ m => ⟨v1, v2, v3, v4, v5, v6, v7, v8, hc, h0, h1.above RGlyph.stay m, h2.above RChar.stay m, h3.above RLookup.stay m, h4.above RFeature.stay m, h5.above RAxis.stay m, h6.above RRegion.stay m, h7.above RCode.stay m, h8.above RInt.stay m⟩
theorem RFont.lower : Lower RFont := fun _ _ _ _ d ⟨v1, v2, v3, v4, v5, v6, v7, v8, hc, h0, h1, h2, h3, h4, h5, h6, h7, h8⟩ m => ⟨v1, v2, v3, v4, v5, v6, v7, v8, hc, h0, h1.lower RGlyph.lower m, h2.lower RChar.lower m, h3.lower RLookup.lower m, h4.lower RFeature.lower m, h5.lower RAxis.lower m, h6.lower RRegion.lower m, h7.lower RCode.lower m, h8.lower RInt.lower m⟩
section
open Go.ChangeShapes Go.WideShapes Go.ChangeAt Go.Joins
variable {H : Type} {enc : TypeId × Value → H} {W : World} {base : Nat} {sp : Nat → Bool} {held : Bool}
theorem rowsOf {α : Type} {t e : TypeId} {k : Nat} {R : Nat → World → List Value → α → Prop} (ht : Try.prog.underlying t = some (.slice e)) (hk : Try.prog.cellsOf e = k)
    (hR : ∀ (fuel : Nat) (cs : List Value) (x : DataW H × List MemPlace), DataW.trod enc Try.prog W 0 sp held fuel e cs = some x → ∃ d, R 0 W cs d)
    {fuel : Nat} {v : Value} {x : DataW H × List MemPlace} (h : DataW.trod enc Try.prog W 0 sp held fuel t [v] = some x) : ∃ l, Rows k R 0 W v l := by
  subst hk
  rcases DataW.trod_slice ht h with ⟨h0, _⟩ | ⟨a, len, cap, el, rest, m, _, hc, _, _, h1, h2, h3, h4, _⟩
  · obtain rfl : v = .slice Option.none 0 0 := by simpa using h0
    exact ⟨[], Rows.nil W⟩
  · obtain rfl : v = .slice (some a) len cap := by simpa using hc
    have each : ∀ i, i < len → ∃ d : α, ∃ cs, cs.length = Try.prog.cellsOf e ∧ (∀ j, j < Try.prog.cellsOf e → W.cell? ((a.add (i * Try.prog.cellsOf e)).add j) = cs[j]?) ∧ R 0 W cs d := fun i hi => by
      have h5 := h4 i hi
      rw [List.getElem?_eq_getElem (by omega)] at h5
      simp only [Option.bind_eq_some_iff] at h5
      obtain ⟨cs, hcs, hy⟩ := h5
      obtain ⟨-, hlen, hcell⟩ := World.cells?_some hcs
      obtain ⟨d, hd⟩ := hR _ _ _ hy
      exact ⟨d, cs, hlen, hcell, hd⟩
    refine ⟨List.ofFn fun i : Fin len => Classical.choose (each i.1 i.2), some a, cap, by rw [List.length_ofFn], by rw [List.length_ofFn]; omega, fun i hi => ?_⟩
    rw [List.length_ofFn] at hi
    rw [List.getElem_ofFn]
    obtain ⟨cs, h6, h7, h8⟩ := Classical.choose_spec (each i hi)
    exact ⟨a, rfl, Nat.zero_le _, cs, h6, h7, h8⟩
theorem int_open {fuel : Nat} {cs : List Value} {x : DataW H × List MemPlace} (h : DataW.trod enc Try.prog W 0 sp held fuel 3 cs = some x) : ∃ d, RInt 0 W cs d := by
  obtain ⟨u, e0, _, w0⟩ := DataW.trod_int Try.underlying3 h
  exact ⟨u, e0, bounds_i64 w0⟩
theorem bool_open {fuel : Nat} {cs : List Value} {x : DataW H × List MemPlace} (h : DataW.trod enc Try.prog W 0 sp held fuel 4 cs = some x) : ∃ b : Bool, cs = [.bool b] := by
  obtain ⟨u, e0, _⟩ := DataW.trod_bool Try.underlying4 h
  exact ⟨u, e0⟩
theorem one_cell {t e : TypeId} {fuel : Nat} {cs : List Value} {x : DataW H × List MemPlace} (ht : Try.prog.underlying t = some (.slice e)) (h : DataW.trod enc Try.prog W 0 sp held fuel t cs = some x) : ∃ v, cs = [v] := by
  rcases DataW.trod_slice ht h with ⟨rfl, _⟩ | ⟨a, len, cap, el, rest, m, _, rfl, _⟩
  · exact ⟨_, rfl⟩
  · exact ⟨_, rfl⟩
theorem cells_int : Try.prog.cellsOf 3 = 1 := by kernel_rfl
theorem cells_string : Try.prog.cellsOf 9 = 1 := by kernel_rfl
theorem cells_bool : Try.prog.cellsOf 4 = 1 := by kernel_rfl
theorem cells_rInt : Try.prog.cellsOf 29 = 1 := by kernel_rfl
theorem cells_rSet : Try.prog.cellsOf 100 = 1 := by kernel_rfl
theorem cells_rCode : Try.prog.cellsOf 28 = 1 := by kernel_rfl
theorem cells_rPoint : Try.prog.cellsOf 36 = 1 := by kernel_rfl
theorem cells_rPart : Try.prog.cellsOf 39 = 1 := by kernel_rfl
theorem cells_rAnchor : Try.prog.cellsOf 40 = 1 := by kernel_rfl
theorem cells_rDelta : Try.prog.cellsOf 41 = 1 := by kernel_rfl
theorem cells_rIns : Try.prog.cellsOf 42 = 1 := by kernel_rfl
theorem cells_rChar : Try.prog.cellsOf 23 = 1 := by kernel_rfl
theorem cells_rCall : Try.prog.cellsOf 101 = 1 := by kernel_rfl
theorem cells_rTent : Try.prog.cellsOf 70 = 1 := by kernel_rfl
theorem cells_rAxis : Try.prog.cellsOf 26 = 1 := by kernel_rfl
theorem cells_rFeature : Try.prog.cellsOf 25 = 1 := by kernel_rfl
theorem cells_rRule : Try.prog.cellsOf 97 = 1 := by kernel_rfl
theorem cells_rLookup : Try.prog.cellsOf 24 = 1 := by kernel_rfl
theorem cells_rGlyph : Try.prog.cellsOf 22 = 1 := by kernel_rfl
theorem cells_rRegion : Try.prog.cellsOf 27 = 1 := by kernel_rfl
theorem cells_tPoint : Try.prog.cellsOf 74 = 3 := by kernel_rfl
theorem cells_tPart : Try.prog.cellsOf 79 = 3 := by kernel_rfl
theorem cells_tAnchor : Try.prog.cellsOf 81 = 4 := by kernel_rfl
theorem cells_tDelta : Try.prog.cellsOf 83 = 4 := by kernel_rfl
theorem cells_tIns : Try.prog.cellsOf 64 = 2 := by kernel_rfl
theorem cells_tChar : Try.prog.cellsOf 59 = 2 := by kernel_rfl
theorem cells_tCall : Try.prog.cellsOf 107 = 2 := by kernel_rfl
theorem cells_tTent : Try.prog.cellsOf 112 = 3 := by kernel_rfl
theorem cells_tAxis : Try.prog.cellsOf 88 = 4 := by kernel_rfl
theorem cells_tOutline : Try.prog.cellsOf 38 = 2 := by kernel_rfl
theorem cells_tFeature : Try.prog.cellsOf 109 = 2 := by kernel_rfl
theorem cells_tRule : Try.prog.cellsOf 103 = 6 := by kernel_rfl
theorem cells_tLookup : Try.prog.cellsOf 99 = 3 := by kernel_rfl
theorem cells_tGlyph : Try.prog.cellsOf 44 = 9 := by kernel_rfl
theorem cells_tRegion : Try.prog.cellsOf 72 = 1 := by kernel_rfl
theorem cells_tFont : Try.prog.cellsOf 31 = 9 := by kernel_rfl
end
end Go.Proofs.Ytaloembfekdkoaa
