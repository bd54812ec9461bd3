/- What must be in any case, of chapter 25: it is so. -/
import Derived.Test.YtjgklacbelggdaaGreatDoorCodCa
namespace Go.Proofs.YtjgklacbelggdaaGreatDoor
open Go.RowKit Go.Proofs.YtjgklacbelggdaaGreatDoor.Ev
set_option linter.unusedVariables false
namespace Cod
def tagCells : Array Value := #[.string ⟨#[97, 120, 105, 115]⟩, .string ⟨#[99, 104, 97, 114]⟩, .string ⟨#[99, 111, 100, 101]⟩, .string ⟨#[102, 101, 97, 116]⟩, .string ⟨#[103, 108, 121, 102]⟩, .string ⟨#[104, 97, 110, 103]⟩, .string ⟨#[104, 101, 97, 100]⟩, .string ⟨#[108, 111, 111, 107]⟩, .string ⟨#[109, 111, 118, 101]⟩, .string ⟨#[110, 97, 109, 101]⟩]
instance tagsVal : Val := ⟨fun _ => .i64, fun _ => 0, fun g => match g with
  | 0 => some (.cells tagCells 110 (0, 0))
  | _ => none⟩
end Cod
theorem same_is (x : Value) (w : World) : (callFunc 210 #[x]).run Tryz.prog w = .ok (.value x) w := by kernel_rfl
set_option maxRecDepth 100000 in
theorem shown_true (w : World) (h : @LaidIn Cod.tagsVal w) : Calls Tryz.prog 9 #[] w fun e w' => e = .returned (.bool true) ∧ Below w.heap.size w w' :=
  @lib_calls Cod.tagsVal Tryz.prog 210 Cod.ca same_is (@ca_ok Cod.tagsVal) (by kernel_rfl) 9 #[] 1000000 rfl (by kernel_rfl) w h
end Go.Proofs.YtjgklacbelggdaaGreatDoor
