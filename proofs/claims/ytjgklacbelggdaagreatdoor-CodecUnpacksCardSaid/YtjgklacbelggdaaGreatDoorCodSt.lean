/- The coder in memory; what Pack has it do. -/
import Derived.Test.YtjgklacbelggdaaGreatDoorCodRate
import Derived.Test.YtjgklacbelggdaaGreatDoorCodCell
import Derived.Test.YtjgklacbelggdaaGreatDoorRing
namespace Go.Proofs.YtjgklacbelggdaaGreatDoor
open Go.RowKit
set_option linter.unusedVariables false

def ccF (lo hi : Nat) (ch : Nat → Nat) (vb vd : Value) (i : Nat) : Value :=
  if i = 0 then .int .u32 lo else if i = 1 then .int .u32 hi else if i < 2050 then .int .u32 (ch (i - 2)) else if i = 2050 then vb else vd
/-- The coder's cells. -/
def cc (lo hi : Nat) (ch : Nat → Nat) (vb vd : Value) : Array Value := tab 2052 (ccF lo hi ch vb vd)
theorem cc_lo (lo hi : Nat) (ch : Nat → Nat) (vb vd : Value) : (cc lo hi ch vb vd)[0]? = some (.int .u32 lo) := tab_get _ (by decide)
theorem cc_hi (lo hi : Nat) (ch : Nat → Nat) (vb vd : Value) : (cc lo hi ch vb vd)[1]? = some (.int .u32 hi) := tab_get _ (by decide)
theorem cc_ch (lo hi : Nat) (ch : Nat → Nat) (vb vd : Value) (k : Nat) (hk : k < 2048) : (cc lo hi ch vb vd)[2 + k]? = some (.int .u32 (ch k)) := by
  unfold cc
  rw [tab_get _ (by omega)]
  unfold ccF
  rw [if_neg (by omega), if_neg (by omega), if_pos (by omega), Nat.add_sub_cancel_left]
theorem cc_bit (lo hi : Nat) (ch : Nat → Nat) (vb vd : Value) : (cc lo hi ch vb vd)[2050]? = some vb := tab_get _ (by decide)
theorem cc_done (lo hi : Nat) (ch : Nat → Nat) (vb vd : Value) : (cc lo hi ch vb vd)[2051]? = some vd := tab_get _ (by decide)
theorem cc_set_lo (lo hi : Nat) (ch : Nat → Nat) (vb vd : Value) (n : Nat) : (cc lo hi ch vb vd).setIfInBounds 0 (.int .u32 n) = cc n hi ch vb vd := by
  unfold cc; rw [tab_set]
  refine tab_congr fun j hj => ?_
  unfold ccF
  split <;> rfl
theorem cc_set_hi (lo hi : Nat) (ch : Nat → Nat) (vb vd : Value) (n : Nat) : (cc lo hi ch vb vd).setIfInBounds 1 (.int .u32 n) = cc lo n ch vb vd := by
  unfold cc; rw [tab_set]
  refine tab_congr fun j hj => ?_
  unfold ccF
  by_cases h : j = 1
  · rw [if_pos h, if_neg (by omega), if_pos h]
  · rw [if_neg h, if_neg h, if_neg h]
theorem cc_set_ch (lo hi : Nat) (ch : Nat → Nat) (vb vd : Value) (k n : Nat) (hk : k < 2048) : (cc lo hi ch vb vd).setIfInBounds (2 + k) (.int .u32 n) = cc lo hi (Cod.upd ch k n) vb vd := by
  unfold cc; rw [tab_set]
  refine tab_congr fun j hj => ?_
  unfold ccF Cod.upd
  by_cases h : j = 2 + k
  · rw [if_pos h, if_neg (by omega), if_neg (by omega), if_pos (by omega), if_pos (by omega)]
  · rw [if_neg h]
    by_cases h0 : j = 0
    · rw [if_pos h0, if_pos h0]
    · rw [if_neg h0, if_neg h0]
      by_cases h1 : j = 1
      · rw [if_pos h1, if_pos h1]
      · rw [if_neg h1, if_neg h1, if_neg (show ¬ j - 2 = k by omega)]
theorem cc_set_bit (lo hi : Nat) (ch : Nat → Nat) (vb vd v : Value) : (cc lo hi ch vb vd).setIfInBounds 2050 v = cc lo hi ch v vd := by
  unfold cc; rw [tab_set]
  refine tab_congr fun j hj => ?_
  unfold ccF
  by_cases h : j = 2050
  · rw [if_pos h, if_neg (by omega), if_neg (by omega), if_neg (by omega), if_pos h]
  · rw [if_neg h, if_neg h, if_neg h]
theorem cc_set_done (lo hi : Nat) (ch : Nat → Nat) (vb vd v : Value) : (cc lo hi ch vb vd).setIfInBounds 2051 v = cc lo hi ch vb v := by
  unfold cc; rw [tab_set]
  refine tab_congr fun j hj => ?_
  unfold ccF
  by_cases h : j = 2051
  · rw [if_pos h, if_neg (by omega), if_neg (by omega), if_neg (by omega), if_neg (by omega)]
  · rw [if_neg h]
    by_cases h0 : j = 2050
    · subst h0; rfl
    · simp only [if_neg h0]
      by_cases h1 : j = 0
      · rw [if_pos h1, if_pos h1]
      · rw [if_neg h1, if_neg h1]
        by_cases h2 : j = 1
        · rw [if_pos h2, if_pos h2]
        · rw [if_neg h2, if_neg h2, if_pos (by omega), if_pos (by omega)]

theorem Blk.ne {w : World} {a b : Nat} {cs ds : Array Value} {t u : TypeId} (h : Blk w a cs t) (k : Blk w b ds u) (ht : t ≠ u) : a ≠ b := by
  rintro rfl
  unfold Blk at h k
  rw [h] at k
  simp at k
  exact ht k.2

namespace Cod
/-- Who is asked, and told, where Pack packs. -/
abbrev vbP : Value := .func (.func 18) #[] #[]
abbrev vdP (pb : Nat) : Value := .func (.func 19) #[] #[.pointer (some ⟨pb, 0, none⟩)]
/-- Memory where Pack packs: the coder, and the bytes that are packed. -/
structure StP (W : World) (cb pb : Nat) (c : C) (s : List UInt8) (w : World) : Prop where
  mod : Mod [] W w
  blk : Blk w cb (cc c.low c.high c.ch vbP (vdP pb)) 65
  pk : ∃ v, Blk w pb #[v] 28 ∧ RowM w W.heap.size v s
  ge : W.heap.size ≤ cb ∧ W.heap.size ≤ pb
  big : s.length ≤ 1099511627776

theorem StP.stays {W : World} {cb pb : Nat} {c : C} {s : List UInt8} {w w' : World} (h : StP W cb pb c s w) (m : Mod [] w w') : StP W cb pb c s w' := by
  obtain ⟨v, h1, h2⟩ := h.pk
  exact ⟨h.mod.then m, h.blk.kept m (by simp), ⟨v, h1.kept m (by simp), h2.mod m (by simp)⟩, h.ge, h.big⟩
/-- A write into the coder. -/
theorem StP.put {W : World} {cb pb : Nat} {c c' : C} {s : List UInt8} {w : World} (h : StP W cb pb c s w) (i : Nat) (v : Value) (hc : (cc c.low c.high c.ch vbP (vdP pb)).setIfInBounds i v = cc c'.low c'.high c'.ch vbP (vdP pb)) :
    StP W cb pb c' s (w.setCell ⟨cb, i, none⟩ v) := by
  obtain ⟨u, h1, h2⟩ := h.pk
  refine ⟨h.mod.setNew (p := ⟨cb, i, none⟩) h.ge.1 v, ?_, ⟨u, h1.other (Blk.ne h.blk h1 (by decide)) v, h2.kept fun k hk hl => ?_⟩, h.ge, h.big⟩
  · rw [← hc]; exact h.blk.set i v
  · exact Below.heap_setCell _ _ _ _ (fun e => h2.ne h.blk (by decide) (by rw [hk, e]))
/-- The bytes lie elsewhere now. -/
theorem StP.pushed {W : World} {cb pb : Nat} {c : C} {s s' : List UInt8} {w w1 : World} {v v' : Value} (h : StP W cb pb c s w) (m : Mod [] W w1) (h1 : Blk w1 cb (cc c.low c.high c.ch vbP (vdP pb)) 65) (h2 : Blk w1 pb #[v] 28) (h3 : RowM w1 W.heap.size v' s') (hb : s'.length ≤ 1099511627776) :
    StP W cb pb c s' (w1.setCell ⟨pb, 0, none⟩ v') := by
  refine ⟨m.setNew (p := ⟨pb, 0, none⟩) h.ge.2 v', h1.other (Blk.ne h2 h1 (by decide)) v', ⟨v', h2.set 0 v', h3.kept fun k hk hl => ?_⟩, h.ge, hb⟩
  exact Below.heap_setCell _ _ _ _ (fun e => h3.ne h2 (by decide) (by rw [hk, e]))
end Cod

set_option maxHeartbeats 400000 in
theorem bitP_any (m n : Int) (w : World) : Calls Tryz.prog 18 #[.int .u32 m, .int .u8 n] w fun e w' => e = .returned (.int .u8 n) ∧ w = w' := by
  go_enter Tryz.func18, Tryz.ntmps18
  go_wp2
  go_ret
  exact ⟨rfl, rfl⟩

set_option maxHeartbeats 1000000 in
theorem doneP_any (W : World) (cb pb : Nat) (c : Cod.C) (s : List UInt8) (t : Nat) (ht : t < 256) (w : World) (h : Cod.StP W cb pb c s w) (hl : s.length + 1 ≤ 1099511627776) :
    Calls Tryz.prog 19 #[.int .u8 t, .pointer (some ⟨pb, 0, none⟩)] w fun e w' => e = .returned (.tuple #[]) ∧ Cod.StP W cb pb c (s ++ [UInt8.ofNat t]) w' := by
  have HL := Lib.hid hl
  clear hl
  obtain ⟨v, h1, h2⟩ := h.pk
  obtain ⟨i0, hi, hz0, hz1, hz2⟩ := info_parts Tryz.info_u8
  have H := Lib.hid h
  have HR := Lib.hid h2
  have HB := Lib.hid h1
  have k0 : w.cell? ⟨pb, 0, none⟩ = some v := h1.cell 0
  clear h h1 h2
  have hsz := Lib.hid H.out.mod.size
  go_enter Tryz.func19, Tryz.ntmps19
  go_wp2_with (at_builtin; refine wpList_append_rowM rfl _ _ 28 rfl W.heap.size i0 Tryz.underlying28 hi hz0 hz1 hz2 _ s rfl (HR.out.mod ((Mod.refl [] w).alloc _) (by simp)) ⟨w.heap.size, 0, none⟩ 1 1 [UInt8.ofNat t] rfl rfl ?_ ?_ ?_ ?_)
  · intro j u hj
    match j, hj with
    | 0, hj =>
      simp only [List.getElem?_cons_zero, Option.some.injEq] at hj
      subst hj
      rw [bcell_ofNat ht]
      simp [Addr.add]
  · have := HL.out; simp; omega
  · have := hsz.out; simp; omega
  intro v' w1 hrow hgrow
  obtain ⟨a', cap', hv', -⟩ := hrow.cells
  subst hv'
  have hne := HR.out.ne HB.out (by decide)
  have hne2 := HR.out.ne H.out.blk (by decide)
  have b1 := (HB.out.alloc (.cells #[.int .u8 t] 5)).grownR hgrow hne
  have b2 := (H.out.blk.alloc (.cells #[.int .u8 t] 5)).grownR hgrow hne2
  have m1 := (H.out.mod.alloc (.cells #[.int .u8 t] 5)).grownR hgrow fun k hk => (HR.out.lt k hk).1
  have HS := Lib.hid (H.out.pushed m1 b2 b1 hrow (by have := HL.out; simp; omega))
  have k1 : w1.cell? ⟨pb, 0, none⟩ = some v := b1.cell 0
  have k2 : w1.frozen? ⟨pb, 0, none⟩ = false := b1.frozen 0
  clear hrow hgrow hne hne2 b1 b2 m1 k0
  go_wp2
  go_end0
  have h9 := HS.out
  rw [List.length_append] at h9
  exact ⟨rfl, h9⟩
end Go.Proofs.YtjgklacbelggdaaGreatDoor
