/-
  NARROWER THAN 'FOR EVERY INPUT', by the rows' own cells (each row's printed sentence says how): CodecPacks: laid · CodecUnpacks: laid · CodecBack: laid · CodecOnly: laid · CodecFew: laid · CodecLong: laid.
  DERIVED. THE GIVEN ROWS OF THIS SEAT. 6 by the template 'for every input the law returns true; each argument reads behind the call as it read before'; 0 by the template 'total and deterministic' (their statements: YtjgklacbelggdaaGreatDoorTotals.lean).
  GIVEN WITH THE SEED: the statements are not yours to turn. If you find one false, say at which input.
  Laid BY PROGRAM, IN A SANDBOX (cutbox-rows.mjs): the forced cells as the released guide's own fill.sh prints them over the translation 5e50a526638714a2… (all of the seat's roots in one cut). By AI agents, Wed Nov 11 2026. No macro, syntax, notation, axiom, sorry.
-/
import Derived.Test.YtjgklacbelggdaaGreatDoorChecked
import GoSem.PinnedTables
import GoSem.Claim
import GoSem.ClaimJoined
import GoSem.ClaimMapViews
import Derived.JoinedTies
import Derived.KernelRfl
namespace Go.Proofs.YtjgklacbelggdaaGreatDoor
/- THE CELL 'sum', in the pinned program and in every row, IS THE sha256 OF THE DUMP (.gsa) THAT YtjgklacbelggdaaGreatDoorProg.lean LOADS. Nothing in Lean hashes anything: it is a label: what it is worth is what the hold of that sum in a sandbox is worth. -/
noncomputable def Tryz.pinned : Pinned := { name := "ytjgklacbelggdaagreatdoor", sum := "5e50a526638714a2069c29afd92511185ce447e4e6fd43023df16b4b56236dec", checked := Tryz.checked }
namespace Rows
def none {H : Type} : Left H := { results := [], args := [] }

/- WHAT THE LISTED PACKAGE-LEVEL VARIABLES READ AS WHEN THE CALL BEGINS. Each datum BY PROGRAM (the guide's laid-datum.mjs) off the statement by which the dump's own 'gosem.cut.vars' lays the variable. In a bare row this is a premise. The card (YtjgklacbelggdaaGreatDoorCards.lean) ties it to the program's text. -/
def laid_unicode_utf8_acceptRanges {H : Type} : DataW H := .agg [.agg [.lit (.int .u8 128), .lit (.int .u8 191)], .agg [.lit (.int .u8 160), .lit (.int .u8 191)], .agg [.lit (.int .u8 128), .lit (.int .u8 159)], .agg [.lit (.int .u8 144), .lit (.int .u8 191)], .agg [.lit (.int .u8 128), .lit (.int .u8 143)], .agg [.lit (.int .u8 0), .lit (.int .u8 0)], .agg [.lit (.int .u8 0), .lit (.int .u8 0)], .agg [.lit (.int .u8 0), .lit (.int .u8 0)], .agg [.lit (.int .u8 0), .lit (.int .u8 0)], .agg [.lit (.int .u8 0), .lit (.int .u8 0)], .agg [.lit (.int .u8 0), .lit (.int .u8 0)], .agg [.lit (.int .u8 0), .lit (.int .u8 0)], .agg [.lit (.int .u8 0), .lit (.int .u8 0)], .agg [.lit (.int .u8 0), .lit (.int .u8 0)], .agg [.lit (.int .u8 0), .lit (.int .u8 0)], .agg [.lit (.int .u8 0), .lit (.int .u8 0)]]
def laid_fleuron_table_tags {H : Type} : DataW H := .agg [.lit (.string [97, 120, 105, 115]), .lit (.string [99, 104, 97, 114]), .lit (.string [99, 111, 100, 101]), .lit (.string [102, 101, 97, 116]), .lit (.string [103, 108, 121, 102]), .lit (.string [104, 97, 110, 103]), .lit (.string [104, 101, 97, 100]), .lit (.string [108, 111, 111, 107]), .lit (.string [109, 111, 118, 101]), .lit (.string [110, 97, 109, 101])]
/-- One of Go's own tables, pinned by name: the form's constant. -/
def laid_unicode_utf8_first : DataW Unit := Go.Pinned.utf8First

/-- 'fleuronlaw25.CodecPacks': WHATEVER THE INPUT: true; the input reads as it did. -/
def codecPacksSpec : ChangeSpec := { name := "codecPacks", fn := fun _ => fun
  | [d] => { results := [.lit (.bool true)], args := [d] }
  | _ => none }
def codecPacksRow : OpenClaim := { program := "ytjgklacbelggdaagreatdoor", sum := "5e50a526638714a2069c29afd92511185ce447e4e6fd43023df16b4b56236dec", func := "fleuron/fleuronlaw25.CodecPacks", spec := "codecPacks", inPlace := ["internal/abi.NoEscape", "internal/bytealg.MakeNoZero", "internal/bytealg.IndexByteString", "internal/bytealg.IndexString"], unfollowed := true, recurses := true, named := ["fleuron/table.tags", "unicode/utf8.first", "unicode/utf8.acceptRanges", "internal/bytealg.MaxLen"], plainKeys := false, apart := false, laid := [("unicode/utf8.acceptRanges", laid_unicode_utf8_acceptRanges), ("fleuron/table.tags", laid_fleuron_table_tags), ("unicode/utf8.first", laid_unicode_utf8_first)] }
def CodecPacksSaid : Prop := codecPacksRow.holds Tryz.pinned (OpenSpec.ofChange codecPacksSpec)

/-- ITS FALSE NEIGHBOUR: 'it returns false'. Refute it at one input. -/
def codecPacksWrong : ChangeSpec := { name := "codecPacks", fn := fun _ => fun
  | [d] => { results := [.lit (.bool false)], args := [d] }
  | _ => none }
def CodecPacksWrongFalsely : Prop := codecPacksRow.holds Tryz.pinned (OpenSpec.ofChange codecPacksWrong)

/-- 'fleuronlaw25.CodecUnpacks': WHATEVER THE INPUT: true; the input reads as it did. -/
def codecUnpacksSpec : ChangeSpec := { name := "codecUnpacks", fn := fun _ => fun
  | [d1, d2, d3] => { results := [.lit (.bool true)], args := [d1, d2, d3] }
  | _ => none }
def codecUnpacksRow : OpenClaim := { program := "ytjgklacbelggdaagreatdoor", sum := "5e50a526638714a2069c29afd92511185ce447e4e6fd43023df16b4b56236dec", func := "fleuron/fleuronlaw25.CodecUnpacks", spec := "codecUnpacks", inPlace := ["internal/abi.NoEscape", "internal/bytealg.MakeNoZero", "internal/bytealg.IndexByteString", "internal/bytealg.IndexString"], unfollowed := true, recurses := true, named := ["fleuron/table.tags", "unicode/utf8.first", "unicode/utf8.acceptRanges", "internal/bytealg.MaxLen"], plainKeys := false, apart := false, laid := [("unicode/utf8.acceptRanges", laid_unicode_utf8_acceptRanges), ("fleuron/table.tags", laid_fleuron_table_tags), ("unicode/utf8.first", laid_unicode_utf8_first)] }
def CodecUnpacksSaid : Prop := codecUnpacksRow.holds Tryz.pinned (OpenSpec.ofChange codecUnpacksSpec)

/-- ITS FALSE NEIGHBOUR: 'it returns false'. Refute it at one input. -/
def codecUnpacksWrong : ChangeSpec := { name := "codecUnpacks", fn := fun _ => fun
  | [d1, d2, d3] => { results := [.lit (.bool false)], args := [d1, d2, d3] }
  | _ => none }
def CodecUnpacksWrongFalsely : Prop := codecUnpacksRow.holds Tryz.pinned (OpenSpec.ofChange codecUnpacksWrong)

/-- 'fleuronlaw25.CodecBack': WHATEVER THE INPUT: true; the input reads as it did. -/
def codecBackSpec : ChangeSpec := { name := "codecBack", fn := fun _ => fun
  | [d1, d2] => { results := [.lit (.bool true)], args := [d1, d2] }
  | _ => none }
def codecBackRow : OpenClaim := { program := "ytjgklacbelggdaagreatdoor", sum := "5e50a526638714a2069c29afd92511185ce447e4e6fd43023df16b4b56236dec", func := "fleuron/fleuronlaw25.CodecBack", spec := "codecBack", inPlace := ["internal/abi.NoEscape", "internal/bytealg.MakeNoZero", "internal/bytealg.IndexByteString", "internal/bytealg.IndexString"], unfollowed := true, recurses := true, named := ["fleuron/table.tags", "unicode/utf8.first", "unicode/utf8.acceptRanges", "internal/bytealg.MaxLen"], plainKeys := false, apart := false, laid := [("unicode/utf8.acceptRanges", laid_unicode_utf8_acceptRanges), ("fleuron/table.tags", laid_fleuron_table_tags), ("unicode/utf8.first", laid_unicode_utf8_first)] }
def CodecBackSaid : Prop := codecBackRow.holds Tryz.pinned (OpenSpec.ofChange codecBackSpec)

/-- ITS FALSE NEIGHBOUR: 'it returns false'. Refute it at one input. -/
def codecBackWrong : ChangeSpec := { name := "codecBack", fn := fun _ => fun
  | [d1, d2] => { results := [.lit (.bool false)], args := [d1, d2] }
  | _ => none }
def CodecBackWrongFalsely : Prop := codecBackRow.holds Tryz.pinned (OpenSpec.ofChange codecBackWrong)

/-- 'fleuronlaw25.CodecOnly': WHATEVER THE INPUT: true; the input reads as it did. -/
def codecOnlySpec : ChangeSpec := { name := "codecOnly", fn := fun _ => fun
  | [d1, d2, d3] => { results := [.lit (.bool true)], args := [d1, d2, d3] }
  | _ => none }
def codecOnlyRow : OpenClaim := { program := "ytjgklacbelggdaagreatdoor", sum := "5e50a526638714a2069c29afd92511185ce447e4e6fd43023df16b4b56236dec", func := "fleuron/fleuronlaw25.CodecOnly", spec := "codecOnly", inPlace := ["internal/abi.NoEscape", "internal/bytealg.MakeNoZero", "internal/bytealg.IndexByteString", "internal/bytealg.IndexString"], unfollowed := true, recurses := true, named := ["fleuron/table.tags", "unicode/utf8.first", "unicode/utf8.acceptRanges", "internal/bytealg.MaxLen"], plainKeys := false, apart := false, laid := [("unicode/utf8.acceptRanges", laid_unicode_utf8_acceptRanges), ("fleuron/table.tags", laid_fleuron_table_tags), ("unicode/utf8.first", laid_unicode_utf8_first)] }
def CodecOnlySaid : Prop := codecOnlyRow.holds Tryz.pinned (OpenSpec.ofChange codecOnlySpec)

/-- ITS FALSE NEIGHBOUR: 'it returns false'. Refute it at one input. -/
def codecOnlyWrong : ChangeSpec := { name := "codecOnly", fn := fun _ => fun
  | [d1, d2, d3] => { results := [.lit (.bool false)], args := [d1, d2, d3] }
  | _ => none }
def CodecOnlyWrongFalsely : Prop := codecOnlyRow.holds Tryz.pinned (OpenSpec.ofChange codecOnlyWrong)

/-- 'fleuronlaw25.CodecFew': WHATEVER THE INPUT: true; the input reads as it did. -/
def codecFewSpec : ChangeSpec := { name := "codecFew", fn := fun _ => fun
  | [d1, d2, d3] => { results := [.lit (.bool true)], args := [d1, d2, d3] }
  | _ => none }
def codecFewRow : OpenClaim := { program := "ytjgklacbelggdaagreatdoor", sum := "5e50a526638714a2069c29afd92511185ce447e4e6fd43023df16b4b56236dec", func := "fleuron/fleuronlaw25.CodecFew", spec := "codecFew", inPlace := ["internal/abi.NoEscape", "internal/bytealg.MakeNoZero", "internal/bytealg.IndexByteString", "internal/bytealg.IndexString"], unfollowed := true, recurses := true, named := ["fleuron/table.tags", "unicode/utf8.first", "unicode/utf8.acceptRanges", "internal/bytealg.MaxLen"], plainKeys := false, apart := false, laid := [("unicode/utf8.acceptRanges", laid_unicode_utf8_acceptRanges), ("fleuron/table.tags", laid_fleuron_table_tags), ("unicode/utf8.first", laid_unicode_utf8_first)] }
def CodecFewSaid : Prop := codecFewRow.holds Tryz.pinned (OpenSpec.ofChange codecFewSpec)

/-- ITS FALSE NEIGHBOUR: 'it returns false'. Refute it at one input. -/
def codecFewWrong : ChangeSpec := { name := "codecFew", fn := fun _ => fun
  | [d1, d2, d3] => { results := [.lit (.bool false)], args := [d1, d2, d3] }
  | _ => none }
def CodecFewWrongFalsely : Prop := codecFewRow.holds Tryz.pinned (OpenSpec.ofChange codecFewWrong)

/-- 'fleuronlaw25.CodecLong': WHATEVER THE INPUT: true; the input reads as it did. -/
def codecLongSpec : ChangeSpec := { name := "codecLong", fn := fun _ => fun
  | [d1, d2] => { results := [.lit (.bool true)], args := [d1, d2] }
  | _ => none }
def codecLongRow : OpenClaim := { program := "ytjgklacbelggdaagreatdoor", sum := "5e50a526638714a2069c29afd92511185ce447e4e6fd43023df16b4b56236dec", func := "fleuron/fleuronlaw25.CodecLong", spec := "codecLong", inPlace := ["internal/abi.NoEscape", "internal/bytealg.MakeNoZero", "internal/bytealg.IndexByteString", "internal/bytealg.IndexString"], unfollowed := true, recurses := true, named := ["fleuron/table.tags", "unicode/utf8.first", "unicode/utf8.acceptRanges", "internal/bytealg.MaxLen"], plainKeys := false, apart := false, laid := [("unicode/utf8.acceptRanges", laid_unicode_utf8_acceptRanges), ("fleuron/table.tags", laid_fleuron_table_tags), ("unicode/utf8.first", laid_unicode_utf8_first)] }
def CodecLongSaid : Prop := codecLongRow.holds Tryz.pinned (OpenSpec.ofChange codecLongSpec)

/-- ITS FALSE NEIGHBOUR: 'it returns false'. Refute it at one input. -/
def codecLongWrong : ChangeSpec := { name := "codecLong", fn := fun _ => fun
  | [d1, d2] => { results := [.lit (.bool false)], args := [d1, d2] }
  | _ => none }
def CodecLongWrongFalsely : Prop := codecLongRow.holds Tryz.pinned (OpenSpec.ofChange codecLongWrong)

/- THE SECOND FORM. 'bulk': how many values and letters a reading holds, each counted each time it is reached (what is shared counts as often as it is met; a slice's spare places count too). A statement '..UptoSaid' is the law's where the arguments, and the package variables that the reading takes, are together of bulk at most 1048576: NARROWER than '..Said'. Prove '..Said' where nothing that the law and all that it calls make is longer than what came in: it says more and counts as full. Else prove '..UptoSaid'. A law counts once. -/
mutual
def uptoBulk {H : Type} : DataW H → Nat
  | .lit (.string bytes) => bytes.length + 1
  | .lit _ => 1
  | .nil => 1
  | .ptr d => uptoBulk d + 1
  | .slice elems spare => uptoBulkAll elems + uptoBulkAll spare + 1
  | .agg parts => uptoBulkAll parts + 1
  | .iface _ d => uptoBulk d + 1
  | .map entries => uptoBulkEntries entries + 1
  | .held _ => 1
def uptoBulkAll {H : Type} : List (DataW H) → Nat
  | [] => 0
  | d :: r => uptoBulk d + uptoBulkAll r
def uptoBulkEntries {H : Type} : List (Lit × DataW H) → Nat
  | [] => 0
  | x :: r => uptoBulkEntry x + uptoBulkEntries r
def uptoBulkEntry {H : Type} : Lit × DataW H → Nat
  | (.string bytes, d) => bytes.length + uptoBulk d + 1
  | (_, d) => uptoBulk d + 1
 end
def uptoSmall : (H : Type) → List (DataW H) → Bool := fun _ ds => decide (uptoBulkAll ds ≤ 1048576)
def OpenSpec.upto (s : _root_.Go.ChangeSpec) : _root_.Go.OpenSpec := { _root_.Go.OpenSpec.ofChange s with cond := some uptoSmall }

/-- 'fleuronlaw25.CodecPacks', WHERE WHAT IT READS IS OF BULK AT MOST 1048576: true; the input reads as it did. -/
def codecPacksUptoRow : OpenClaim := { program := "ytjgklacbelggdaagreatdoor", sum := "5e50a526638714a2069c29afd92511185ce447e4e6fd43023df16b4b56236dec", func := "fleuron/fleuronlaw25.CodecPacks", spec := "codecPacks", inPlace := ["internal/abi.NoEscape", "internal/bytealg.MakeNoZero", "internal/bytealg.IndexByteString", "internal/bytealg.IndexString"], unfollowed := true, recurses := true, named := ["fleuron/table.tags", "unicode/utf8.first", "unicode/utf8.acceptRanges", "internal/bytealg.MaxLen"], plainKeys := false, apart := false, laid := [("unicode/utf8.acceptRanges", laid_unicode_utf8_acceptRanges), ("fleuron/table.tags", laid_fleuron_table_tags), ("unicode/utf8.first", laid_unicode_utf8_first)], narrowed := true }
def CodecPacksUptoSaid : Prop := codecPacksUptoRow.holds Tryz.pinned (OpenSpec.upto codecPacksSpec)

/-- 'fleuronlaw25.CodecUnpacks', WHERE WHAT IT READS IS OF BULK AT MOST 1048576: true; the input reads as it did. -/
def codecUnpacksUptoRow : OpenClaim := { program := "ytjgklacbelggdaagreatdoor", sum := "5e50a526638714a2069c29afd92511185ce447e4e6fd43023df16b4b56236dec", func := "fleuron/fleuronlaw25.CodecUnpacks", spec := "codecUnpacks", inPlace := ["internal/abi.NoEscape", "internal/bytealg.MakeNoZero", "internal/bytealg.IndexByteString", "internal/bytealg.IndexString"], unfollowed := true, recurses := true, named := ["fleuron/table.tags", "unicode/utf8.first", "unicode/utf8.acceptRanges", "internal/bytealg.MaxLen"], plainKeys := false, apart := false, laid := [("unicode/utf8.acceptRanges", laid_unicode_utf8_acceptRanges), ("fleuron/table.tags", laid_fleuron_table_tags), ("unicode/utf8.first", laid_unicode_utf8_first)], narrowed := true }
def CodecUnpacksUptoSaid : Prop := codecUnpacksUptoRow.holds Tryz.pinned (OpenSpec.upto codecUnpacksSpec)

/-- 'fleuronlaw25.CodecBack', WHERE WHAT IT READS IS OF BULK AT MOST 1048576: true; the input reads as it did. -/
def codecBackUptoRow : OpenClaim := { program := "ytjgklacbelggdaagreatdoor", sum := "5e50a526638714a2069c29afd92511185ce447e4e6fd43023df16b4b56236dec", func := "fleuron/fleuronlaw25.CodecBack", spec := "codecBack", inPlace := ["internal/abi.NoEscape", "internal/bytealg.MakeNoZero", "internal/bytealg.IndexByteString", "internal/bytealg.IndexString"], unfollowed := true, recurses := true, named := ["fleuron/table.tags", "unicode/utf8.first", "unicode/utf8.acceptRanges", "internal/bytealg.MaxLen"], plainKeys := false, apart := false, laid := [("unicode/utf8.acceptRanges", laid_unicode_utf8_acceptRanges), ("fleuron/table.tags", laid_fleuron_table_tags), ("unicode/utf8.first", laid_unicode_utf8_first)], narrowed := true }
def CodecBackUptoSaid : Prop := codecBackUptoRow.holds Tryz.pinned (OpenSpec.upto codecBackSpec)

/-- 'fleuronlaw25.CodecOnly', WHERE WHAT IT READS IS OF BULK AT MOST 1048576: true; the input reads as it did. -/
def codecOnlyUptoRow : OpenClaim := { program := "ytjgklacbelggdaagreatdoor", sum := "5e50a526638714a2069c29afd92511185ce447e4e6fd43023df16b4b56236dec", func := "fleuron/fleuronlaw25.CodecOnly", spec := "codecOnly", inPlace := ["internal/abi.NoEscape", "internal/bytealg.MakeNoZero", "internal/bytealg.IndexByteString", "internal/bytealg.IndexString"], unfollowed := true, recurses := true, named := ["fleuron/table.tags", "unicode/utf8.first", "unicode/utf8.acceptRanges", "internal/bytealg.MaxLen"], plainKeys := false, apart := false, laid := [("unicode/utf8.acceptRanges", laid_unicode_utf8_acceptRanges), ("fleuron/table.tags", laid_fleuron_table_tags), ("unicode/utf8.first", laid_unicode_utf8_first)], narrowed := true }
def CodecOnlyUptoSaid : Prop := codecOnlyUptoRow.holds Tryz.pinned (OpenSpec.upto codecOnlySpec)

/-- 'fleuronlaw25.CodecFew', WHERE WHAT IT READS IS OF BULK AT MOST 1048576: true; the input reads as it did. -/
def codecFewUptoRow : OpenClaim := { program := "ytjgklacbelggdaagreatdoor", sum := "5e50a526638714a2069c29afd92511185ce447e4e6fd43023df16b4b56236dec", func := "fleuron/fleuronlaw25.CodecFew", spec := "codecFew", inPlace := ["internal/abi.NoEscape", "internal/bytealg.MakeNoZero", "internal/bytealg.IndexByteString", "internal/bytealg.IndexString"], unfollowed := true, recurses := true, named := ["fleuron/table.tags", "unicode/utf8.first", "unicode/utf8.acceptRanges", "internal/bytealg.MaxLen"], plainKeys := false, apart := false, laid := [("unicode/utf8.acceptRanges", laid_unicode_utf8_acceptRanges), ("fleuron/table.tags", laid_fleuron_table_tags), ("unicode/utf8.first", laid_unicode_utf8_first)], narrowed := true }
def CodecFewUptoSaid : Prop := codecFewUptoRow.holds Tryz.pinned (OpenSpec.upto codecFewSpec)

/-- 'fleuronlaw25.CodecLong', WHERE WHAT IT READS IS OF BULK AT MOST 1048576: true; the input reads as it did. -/
def codecLongUptoRow : OpenClaim := { program := "ytjgklacbelggdaagreatdoor", sum := "5e50a526638714a2069c29afd92511185ce447e4e6fd43023df16b4b56236dec", func := "fleuron/fleuronlaw25.CodecLong", spec := "codecLong", inPlace := ["internal/abi.NoEscape", "internal/bytealg.MakeNoZero", "internal/bytealg.IndexByteString", "internal/bytealg.IndexString"], unfollowed := true, recurses := true, named := ["fleuron/table.tags", "unicode/utf8.first", "unicode/utf8.acceptRanges", "internal/bytealg.MaxLen"], plainKeys := false, apart := false, laid := [("unicode/utf8.acceptRanges", laid_unicode_utf8_acceptRanges), ("fleuron/table.tags", laid_fleuron_table_tags), ("unicode/utf8.first", laid_unicode_utf8_first)], narrowed := true }
def CodecLongUptoSaid : Prop := codecLongUptoRow.holds Tryz.pinned (OpenSpec.upto codecLongSpec)

end Rows
end Go.Proofs.YtjgklacbelggdaaGreatDoor
