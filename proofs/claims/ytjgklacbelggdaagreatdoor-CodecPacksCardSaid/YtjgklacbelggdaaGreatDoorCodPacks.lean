/- The walk of CodecPacks. -/
import Derived.Test.YtjgklacbelggdaaGreatDoorCodShown
import Derived.Test.YtjgklacbelggdaaGreatDoorRefPack
namespace Go.Proofs.YtjgklacbelggdaaGreatDoor
open Go.RowKit
set_option linter.unusedVariables false

set_option maxRecDepth 4000 in
set_option maxHeartbeats 2000000 in
theorem packs_walk (s : ByteArray) (w : World) (h : @Ev.LaidIn Cod.tagsVal w) (hs : s.size ≤ maxLen) :
    Calls Tryz.prog 3 #[.string s] w fun e w' => e = .returned (.bool true) ∧ Below w.heap.size w w' := by
  have HS := Lib.hid (shown_true w h)
  clear h
  go_enter Tryz.func3, Tryz.ntmps3
  go_wp2_with fail
  refine HS.out.mono ?_
  rintro e w1 ⟨rfl, hb1⟩
  have HM := Lib.hid (Mod.of_below hb1)
  clear hb1
  go_wp2_with fail
  refine (pack_all _ _).mono ?_
  rintro e w2 ⟨rfl, hm2⟩
  have HM2 := Lib.hid (HM.out.then hm2)
  clear hm2
  go_wp2_with fail
  refine (rpack_all _ _).mono ?_
  rintro e w3 ⟨rfl, hm3⟩
  have HM3 := Lib.hid (HM2.out.then hm3)
  clear hm3
  go_wp2_with fail
  go_ret
  exact ⟨rfl, HM3.out.to_below⟩
end Go.Proofs.YtjgklacbelggdaaGreatDoor
