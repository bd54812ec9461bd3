/-
  No cell of these rows narrows 'for every input' (looked for: loops, veiled, ifaces, maps, wideKeys, modest, calm, conditions, laid).
  DERIVED. THE GIVEN ROWS OF THIS SEAT. 3 by the template 'for every input the law returns true; each argument reads behind the call as it read before'; 0 by the template 'total and deterministic' (their statements: YtopdbmfanmlbjaaTotals.lean).
  GIVEN WITH THE SEED: the statements are not yours to turn. If you find one false, say at which input.
  Laid BY PROGRAM, IN A SANDBOX (cutbox-rows.mjs): the forced cells as the released guide's own fill.sh prints them over the translation f66db75b4b4ee0e2… (all of the seat's roots in one cut). By AI agents, Wed Nov 11 2026. No macro, syntax, notation, axiom, sorry.
-/
import Derived.Test.YtopdbmfanmlbjaaChecked
import GoSem.Claim
import GoSem.ClaimJoined
import GoSem.ClaimMapViews
import Derived.JoinedTies
import Derived.KernelRfl
namespace Go.Proofs.Ytopdbmfanmlbjaa
/- THE CELL 'sum', in the pinned program and in every row, IS THE sha256 OF THE DUMP (.gsa) THAT YtopdbmfanmlbjaaProg.lean LOADS. Nothing in Lean hashes anything: it is a label: what it is worth is what the hold of that sum in a sandbox is worth. -/
noncomputable def Try.pinned : Pinned := { name := "ytopdbmfanmlbjaa", sum := "f66db75b4b4ee0e2a146e70533a228fc05e4bf047c41603a52213919466c39fd", checked := Try.checked }
namespace Rows
def none {H : Type} : Left H := { results := [], args := [] }

/-- 'fleuronlaw16.VaryNormal': WHATEVER THE INPUT: true; the input reads as it did. -/
def varyNormalSpec : ChangeSpec := { name := "varyNormal", fn := fun _ => fun
  | [d1, d2] => { results := [.lit (.bool true)], args := [d1, d2] }
  | _ => none }
def varyNormalRow : OpenClaim := { program := "ytopdbmfanmlbjaa", sum := "f66db75b4b4ee0e2a146e70533a228fc05e4bf047c41603a52213919466c39fd", func := "fleuron/fleuronlaw16.VaryNormal", spec := "varyNormal", inPlace := ["math/bits.Add64", "math/bits.Sub64"], unfollowed := true, recurses := true, named := ["math/bits.divideError", "math/bits.overflowError"], apart := false }
def VaryNormalSaid : Prop := varyNormalRow.holds Try.pinned (OpenSpec.ofChange varyNormalSpec)

/-- ITS FALSE NEIGHBOUR: 'it returns false'. Refute it at one input. -/
def varyNormalWrong : ChangeSpec := { name := "varyNormal", fn := fun _ => fun
  | [d1, d2] => { results := [.lit (.bool false)], args := [d1, d2] }
  | _ => none }
def VaryNormalWrongFalsely : Prop := varyNormalRow.holds Try.pinned (OpenSpec.ofChange varyNormalWrong)

/-- 'fleuronlaw16.VaryWithin': WHATEVER THE INPUT: true; the input reads as it did. -/
def varyWithinSpec : ChangeSpec := { name := "varyWithin", fn := fun _ => fun
  | [d1, d2, d3] => { results := [.lit (.bool true)], args := [d1, d2, d3] }
  | _ => none }
def varyWithinRow : OpenClaim := { program := "ytopdbmfanmlbjaa", sum := "f66db75b4b4ee0e2a146e70533a228fc05e4bf047c41603a52213919466c39fd", func := "fleuron/fleuronlaw16.VaryWithin", spec := "varyWithin", inPlace := ["math/bits.Add64", "math/bits.Sub64"], unfollowed := true, recurses := true, named := ["math/bits.divideError", "math/bits.overflowError"], apart := false }
def VaryWithinSaid : Prop := varyWithinRow.holds Try.pinned (OpenSpec.ofChange varyWithinSpec)

/-- ITS FALSE NEIGHBOUR: 'it returns false'. Refute it at one input. -/
def varyWithinWrong : ChangeSpec := { name := "varyWithin", fn := fun _ => fun
  | [d1, d2, d3] => { results := [.lit (.bool false)], args := [d1, d2, d3] }
  | _ => none }
def VaryWithinWrongFalsely : Prop := varyWithinRow.holds Try.pinned (OpenSpec.ofChange varyWithinWrong)

/-- 'fleuronlaw16.VaryEven': WHATEVER THE INPUT: true; the input reads as it did. -/
def varyEvenSpec : ChangeSpec := { name := "varyEven", fn := fun _ => fun
  | [d1, d2, d3] => { results := [.lit (.bool true)], args := [d1, d2, d3] }
  | _ => none }
def varyEvenRow : OpenClaim := { program := "ytopdbmfanmlbjaa", sum := "f66db75b4b4ee0e2a146e70533a228fc05e4bf047c41603a52213919466c39fd", func := "fleuron/fleuronlaw16.VaryEven", spec := "varyEven", inPlace := ["math/bits.Add64", "math/bits.Sub64"], unfollowed := true, recurses := true, named := ["math/bits.divideError", "math/bits.overflowError"], apart := false }
def VaryEvenSaid : Prop := varyEvenRow.holds Try.pinned (OpenSpec.ofChange varyEvenSpec)

/-- ITS FALSE NEIGHBOUR: 'it returns false'. Refute it at one input. -/
def varyEvenWrong : ChangeSpec := { name := "varyEven", fn := fun _ => fun
  | [d1, d2, d3] => { results := [.lit (.bool false)], args := [d1, d2, d3] }
  | _ => none }
def VaryEvenWrongFalsely : Prop := varyEvenRow.holds Try.pinned (OpenSpec.ofChange varyEvenWrong)

/- THE SECOND FORM. 'bulk': how many values and letters a reading holds, each counted each time it is reached (what is shared counts as often as it is met; a slice's spare places count too). A statement '..UptoSaid' is the law's where the arguments, and the package variables that the reading takes, are together of bulk at most 1048576: NARROWER than '..Said'. Prove '..Said' where nothing that the law and all that it calls make is longer than what came in: it says more and counts as full. Else prove '..UptoSaid'. A law counts once. -/
mutual
def uptoBulk {H : Type} : DataW H → Nat
  | .lit (.string bytes) => bytes.length + 1
  | .lit _ => 1
  | .nil => 1
  | .ptr d => uptoBulk d + 1
  | .slice elems spare => uptoBulkAll elems + uptoBulkAll spare + 1
  | .agg parts => uptoBulkAll parts + 1
  | .iface _ d => uptoBulk d + 1
  | .map entries => uptoBulkEntries entries + 1
  | .held _ => 1
def uptoBulkAll {H : Type} : List (DataW H) → Nat
  | [] => 0
  | d :: r => uptoBulk d + uptoBulkAll r
def uptoBulkEntries {H : Type} : List (Lit × DataW H) → Nat
  | [] => 0
  | x :: r => uptoBulkEntry x + uptoBulkEntries r
def uptoBulkEntry {H : Type} : Lit × DataW H → Nat
  | (.string bytes, d) => bytes.length + uptoBulk d + 1
  | (_, d) => uptoBulk d + 1
 end
def uptoSmall : (H : Type) → List (DataW H) → Bool := fun _ ds => decide (uptoBulkAll ds ≤ 1048576)
def OpenSpec.upto (s : _root_.Go.ChangeSpec) : _root_.Go.OpenSpec := { _root_.Go.OpenSpec.ofChange s with cond := some uptoSmall }

/-- 'fleuronlaw16.VaryNormal', WHERE WHAT IT READS IS OF BULK AT MOST 1048576: true; the input reads as it did. -/
def varyNormalUptoRow : OpenClaim := { program := "ytopdbmfanmlbjaa", sum := "f66db75b4b4ee0e2a146e70533a228fc05e4bf047c41603a52213919466c39fd", func := "fleuron/fleuronlaw16.VaryNormal", spec := "varyNormal", inPlace := ["math/bits.Add64", "math/bits.Sub64"], unfollowed := true, recurses := true, named := ["math/bits.divideError", "math/bits.overflowError"], apart := false, narrowed := true }
def VaryNormalUptoSaid : Prop := varyNormalUptoRow.holds Try.pinned (OpenSpec.upto varyNormalSpec)

/-- 'fleuronlaw16.VaryWithin', WHERE WHAT IT READS IS OF BULK AT MOST 1048576: true; the input reads as it did. -/
def varyWithinUptoRow : OpenClaim := { program := "ytopdbmfanmlbjaa", sum := "f66db75b4b4ee0e2a146e70533a228fc05e4bf047c41603a52213919466c39fd", func := "fleuron/fleuronlaw16.VaryWithin", spec := "varyWithin", inPlace := ["math/bits.Add64", "math/bits.Sub64"], unfollowed := true, recurses := true, named := ["math/bits.divideError", "math/bits.overflowError"], apart := false, narrowed := true }
def VaryWithinUptoSaid : Prop := varyWithinUptoRow.holds Try.pinned (OpenSpec.upto varyWithinSpec)

/-- 'fleuronlaw16.VaryEven', WHERE WHAT IT READS IS OF BULK AT MOST 1048576: true; the input reads as it did. -/
def varyEvenUptoRow : OpenClaim := { program := "ytopdbmfanmlbjaa", sum := "f66db75b4b4ee0e2a146e70533a228fc05e4bf047c41603a52213919466c39fd", func := "fleuron/fleuronlaw16.VaryEven", spec := "varyEven", inPlace := ["math/bits.Add64", "math/bits.Sub64"], unfollowed := true, recurses := true, named := ["math/bits.divideError", "math/bits.overflowError"], apart := false, narrowed := true }
def VaryEvenUptoSaid : Prop := varyEvenUptoRow.holds Try.pinned (OpenSpec.upto varyEvenSpec)

end Rows
end Go.Proofs.Ytopdbmfanmlbjaa
