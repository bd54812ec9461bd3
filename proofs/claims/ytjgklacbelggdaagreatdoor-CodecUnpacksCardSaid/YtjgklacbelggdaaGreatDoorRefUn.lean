/- The document's Unpack. -/
import Derived.Test.YtjgklacbelggdaaGreatDoorRefNext
import Derived.Test.YtjgklacbelggdaaGreatDoorCodUn
import Derived.Test.YtjgklacbelggdaaGreatDoorCodBackP
namespace Go.Proofs.YtjgklacbelggdaaGreatDoor
open Go.RowKit
set_option linter.unusedVariables false

namespace Cod
/-- The document's coder, its reader, and what has been read, in memory of the call's own. -/
structure StE (W : World) (cb hb rb : Nat) (c : C) (T : ByteArray) (p : Nat) (v : Value) (s : List UInt8) (w : World) : Prop where
  mod : Mod [] W w
  blk : Blk w cb (rcV hb c.low c.high) 71
  chs : Blk w hb (chV c.ch) 3
  rd : Blk w rb #[.string T, .int .i64 (p : Int)] 79
  row : RowM w W.heap.size v s
  ge : W.heap.size ≤ cb ∧ W.heap.size ≤ hb ∧ W.heap.size ≤ rb
theorem StE.stays {W : World} {cb hb rb : Nat} {c : C} {T : ByteArray} {p : Nat} {v : Value} {s : List UInt8} {w w' : World} (h : StE W cb hb rb c T p v s w) (m : Mod [] w w') : StE W cb hb rb c T p v s w' :=
  ⟨h.mod.then m, h.blk.kept m (by simp), h.chs.kept m (by simp), h.rd.kept m (by simp), h.row.mod m (by simp), h.ge⟩
theorem StE.toR {W : World} {cb hb rb : Nat} {c : C} {T : ByteArray} {p : Nat} {v : Value} {s : List UInt8} {w : World} (h : StE W cb hb rb c T p v s w) : StR w cb hb c w := ⟨Mod.refl _ _, h.blk, h.chs⟩
theorem StE.turned {W : World} {cb hb rb : Nat} {c c' : C} {T : ByteArray} {p : Nat} {v : Value} {s : List UInt8} {w w' : World} (h : StE W cb hb rb c T p v s w) (k : StR w cb hb c' w') : StE W cb hb rb c' T p v s w' :=
  ⟨h.mod.trans k.mod (fun x hx hlt => by
      have h1 := h.ge
      simp only [List.mem_cons, List.mem_nil_iff, or_false] at hx
      rcases hx with rfl | rfl <;> omega), k.blk, k.chs,
    h.rd.kept k.mod (fun hm => by
      simp only [List.mem_cons, List.mem_nil_iff, or_false] at hm
      rcases hm with rfl | rfl
      · exact Blk.ne h.rd h.blk (by decide) rfl
      · exact Blk.ne h.rd h.chs (by decide) rfl),
    h.row.mod k.mod (fun x hx hm => by
      simp only [List.mem_cons, List.mem_nil_iff, or_false] at hm
      rcases hm with rfl | rfl
      · exact h.row.ne h.blk (by decide) hx
      · exact h.row.ne h.chs (by decide) hx), h.ge⟩
theorem StE.next {W : World} {cb hb rb : Nat} {c : C} {T : ByteArray} {p q : Nat} {v : Value} {s : List UInt8} {w w' : World} (h : StE W cb hb rb c T p v s w) (m : Mod [rb] w w') (k : Blk w' rb #[.string T, .int .i64 (q : Int)] 79) : StE W cb hb rb c T q v s w' :=
  ⟨h.mod.trans m (fun x hx hlt => by
      have h1 := h.ge
      simp only [List.mem_cons, List.mem_nil_iff, or_false] at hx
      subst hx; omega),
    h.blk.kept m (fun hm => by
      simp only [List.mem_cons, List.mem_nil_iff, or_false] at hm
      exact Blk.ne h.blk h.rd (by decide) hm),
    h.chs.kept m (fun hm => by
      simp only [List.mem_cons, List.mem_nil_iff, or_false] at hm
      exact Blk.ne h.chs h.rd (by decide) hm), k,
    h.row.mod m (fun x hx hm => by
      simp only [List.mem_cons, List.mem_nil_iff, or_false] at hm
      subst hm
      exact h.row.ne h.rd (by decide) hx), h.ge⟩
theorem StE.put {W : World} {cb hb rb : Nat} {c : C} {T : ByteArray} {p : Nat} {v v' : Value} {s s' : List UInt8} {w w' : World} (h : StE W cb hb rb c T p v s w) (hr : RowM w' W.heap.size v' s') (g : w.grownBy w' v.ownBlock) : StE W cb hb rb c T p v' s' w' :=
  ⟨h.mod.grownR g fun k hk => (h.row.lt k hk).1, h.blk.grownR g (h.row.ne h.blk (by decide)), h.chs.grownR g (h.row.ne h.chs (by decide)), h.rd.grownR g (h.row.ne h.rd (by decide)), hr, h.ge⟩
theorem n4_at (S : ByteArray) (h : 4 ≤ S.size) : n4 S.data.toList = ((S[0].toNat * 256 + S[1].toNat) * 256 + S[2].toNat) * 256 + S[3].toNat := by
  have h4 : 4 ≤ S.data.toList.length := by rw [Array.length_toList]; exact h
  obtain ⟨a, b, c, d, r, e⟩ := four h4
  have e0 : a = S[0] := by have := head_at S 0 (by omega); rw [e] at this; exact this
  have e1 : b = S[1] := by have := head_at S 1 (by omega); rw [e] at this; exact this
  have e2 : c = S[2] := by have := head_at S 2 (by omega); rw [e] at this; exact this
  have e3 : d = S[3] := by have := head_at S 3 (by omega); rw [e] at this; exact this
  rw [← e0, ← e1, ← e2, ← e3, e]
  simp only [n4]
  omega
theorem unS_R (S : ByteArray) : unS S = match unR S.data.toList with | .short => (bs [], 10) | .many => (bs [], 2) | .form => (bs [], 11) | .ok l => (bs l, 0) := by
  rw [unR_eq]; rfl
theorem unS_big (S : ByteArray) (h : 4 ≤ S.size) (h1 : ¬ 1048576 < n4 S.data.toList) (h2 : 1000 * S.size < n4 S.data.toList) : unS S = (bs [], 11) := by
  have h4 : ¬ S.data.toList.length < 4 := by rw [Array.length_toList]; exact Nat.not_lt.2 h
  have h5 : 1000 * S.data.toList.length < n4 S.data.toList := by rw [Array.length_toList]; exact h2
  rw [unS_R]
  unfold unR
  rw [if_neg h4, if_neg h1, if_pos h5]
/-- The bytes that the document's reader reads. -/
def readR (S : ByteArray) : List UInt8 := decR (n4 S.data.toList) 0 c0 (z4 (S.data.toList.drop 4), (S.data.toList.drop 4).drop 4)
theorem unS_read (S : ByteArray) (h : 4 ≤ S.size) (h1 : ¬ 1048576 < n4 S.data.toList) (h2 : ¬ 1000 * S.size < n4 S.data.toList) : unS S = if packed (readR S) = S.data.toList then (bs (readR S), 0) else (bs [], 11) := by
  have h4 : ¬ S.data.toList.length < 4 := by rw [Array.length_toList]; exact Nat.not_lt.2 h
  have h5 : ¬ 1000 * S.data.toList.length < n4 S.data.toList := by rw [Array.length_toList]; exact h2
  rw [unS_R]
  unfold unR
  rw [if_neg h4, if_neg h1, if_neg h5]
  show (match if packed (readR S) = S.data.toList then Un.ok (readR S) else Un.form with | .short => _ | .many => _ | .form => _ | .ok l => _) = _
  generalize readR S = L
  generalize packed L = P
  by_cases h : P = S.data.toList
  · rw [if_pos h, if_pos h]
  · rw [if_neg h, if_neg h]
/-- The first so many, 0 beyond the end. -/
def zN (l : List UInt8) : Nat → Nat
  | 0 => 0
  | i + 1 => zN l i * 256 + ((l.drop i).headD 0).toNat
theorem zN_four (l : List UInt8) : zN l 4 = z4 l := by
  rcases l with _ | ⟨a, _ | ⟨b, _ | ⟨c, _ | ⟨d, r⟩⟩⟩⟩ <;> simp [zN, z4]
theorem zN_lt (l : List UInt8) : ∀ i, zN l i < 256 ^ i
  | 0 => by simp [zN]
  | i + 1 => by
    have h1 := zN_lt l i
    have h2 := UInt8.toNat_lt ((l.drop i).headD 0)
    unfold zN
    rw [Nat.pow_succ]
    omega
end Cod

set_option maxRecDepth 100000 in
set_option maxHeartbeats 4000000 in
theorem runpack_short (S : ByteArray) (hS : S.size < 4) (w : World) : Calls Tryz.prog 13 #[.string S] w fun e w' => e = .returned (.tuple #[.string (bs []), .int .i64 10]) ∧ Mod [] w w' := by
  have h1 : (S.size : Int) < 4 := by omega
  go_enter Tryz.func13, Tryz.ntmps13
  go_wp2_with fail
  go_ret2
  exact ⟨rfl, Mod.refl _ _⟩

set_option maxRecDepth 100000 in
set_option maxHeartbeats 4000000 in
theorem runpack_rest (S : ByteArray) (hS : 4 ≤ S.size) (hS2 : S.size ≤ 1073741824) (w : World) : Calls Tryz.prog 13 #[.string S] w fun e w' => e = .returned (.tuple #[.string (Cod.unS S).1, .int .i64 (Cod.unS S).2]) ∧ Mod [] w w' := by
  have h1 : ¬ (S.size : Int) < 4 := by omega
  have h2 : (4 : Int) ≤ (S.size : Int) := by omega
  obtain ⟨i0, hi, hz0, hz1, hz2⟩ := info_parts Tryz.info_u8
  have hn := Cod.n4_at S hS
  obtain ⟨b0, g0⟩ : ∃ b, S[0].toNat = b := ⟨_, rfl⟩
  obtain ⟨b1, g1⟩ : ∃ b, S[1].toNat = b := ⟨_, rfl⟩
  obtain ⟨b2, g2⟩ : ∃ b, S[2].toNat = b := ⟨_, rfl⟩
  obtain ⟨b3, g3⟩ : ∃ b, S[3].toNat = b := ⟨_, rfl⟩
  have k0 : (b0 : Int) < 256 := by have := UInt8.toNat_lt S[0]; omega
  have k1 : (b1 : Int) < 256 := by have := UInt8.toNat_lt S[1]; omega
  have k2 : (b2 : Int) < 256 := by have := UInt8.toNat_lt S[2]; omega
  have k3 : (b3 : Int) < 256 := by have := UInt8.toNat_lt S[3]; omega
  rw [g0, g1, g2, g3] at hn
  replace hn := Lib.hid hn
  have hS' := Lib.hid hS
  have q0 : (0 : Int) < (S.size : Int) := by omega
  have q1 : (1 : Int) < (S.size : Int) := by omega
  have q2 : (2 : Int) < (S.size : Int) := by omega
  have q3 : (3 : Int) < (S.size : Int) := by omega
  go_enter Tryz.func13, Tryz.ntmps13
  go_wp2_with fail
  obtain ⟨n, hnn, hN⟩ : ∃ n, n = Cod.n4 S.data.toList ∧ (((b0 : Int) * 256 + b1) * 256 + b2) * 256 + b3 = (n : Int) := ⟨_, rfl, by rw [hn.out]; omega⟩
  have HNE := Lib.hid hnn
  clear hnn
  refine wp_region_mask 18 [true, true, true, true, true, true, true, true, true, true, true, true, true, true, true, true, true, true] [] (by kernel_rfl) (by kernel_rfl) (by simp) ?_
  simp only [pickM]
  refine steady_go (a' := ?_) (by kernel_rfl) ?_ (fun w' hw' K Q hK => ?_) ?_
  rotate_left 2
  · go_wp2_with fail; exact hK _ (Mod.refl _ _)
  rotate_left
  · rfl
  refine steady_go (a' := ?_) (by kernel_rfl) ?_ (fun w' hw' K Q hK => ?_) ?_
  rotate_left 2
  · go_wp2_with fail; exact hK _ (Mod.refl _ _)
  rotate_left
  · rfl
  refine steady_go (a' := ?_) (by kernel_rfl) ?_ (fun w' hw' K Q hK => ?_) ?_
  rotate_left 2
  · go_wp2_with fail; exact hK _ (Mod.refl _ _)
  rotate_left
  · rfl
  refine steady_go (a' := ?_) (by kernel_rfl) ?_ (fun w' hw' K Q hK => ?_) ?_
  rotate_left 2
  · go_wp2_with fail; exact hK _ (Mod.refl _ _)
  rotate_left
  · rfl
  refine steady_go (a' := ?_) (by kernel_rfl) ?_ (fun w' hw' K Q hK => ?_) ?_
  rotate_left 2
  · go_wp2_with fail; exact hK _ (Mod.refl _ _)
  rotate_left
  · rfl
  refine steady_go (a' := ?_) (by kernel_rfl) ?_ (fun w' hw' K Q hK => ?_) ?_
  rotate_left 2
  · go_wp2_with fail; exact hK _ (Mod.refl _ _)
  rotate_left
  · rfl
  refine steady_go (a' := ?_) (by kernel_rfl) ?_ (fun w' hw' K Q hK => ?_) ?_
  rotate_left 2
  · go_wp2_with fail; exact hK _ (Mod.refl _ _)
  rotate_left
  · rfl
  refine steady_go (a' := ?_) (by kernel_rfl) ?_ (fun w' hw' K Q hK => ?_) ?_
  rotate_left 2
  · go_wp2_with fail; exact hK _ (Mod.refl _ _)
  rotate_left
  · rfl
  refine steady_go (a' := ?_) (by kernel_rfl) ?_ (fun w' hw' K Q hK => ?_) ?_
  rotate_left 2
  · go_wp2_with fail; exact hK _ (Mod.refl _ _)
  rotate_left
  · rfl
  refine steady_go (a' := ?_) (by kernel_rfl) ?_ (fun w' hw' K Q hK => ?_) ?_
  rotate_left 2
  · go_wp2_with fail; exact hK _ (Mod.refl _ _)
  rotate_left
  · rfl
  refine steady_go (a' := ?_) (by kernel_rfl) ?_ (fun w' hw' K Q hK => ?_) ?_
  rotate_left 2
  · go_wp2_with fail; exact hK _ (Mod.refl _ _)
  rotate_left
  · rfl
  refine steady_go (a' := ?_) (by kernel_rfl) ?_ (fun w' hw' K Q hK => ?_) ?_
  rotate_left 2
  · go_wp2_with fail; exact hK _ (Mod.refl _ _)
  rotate_left
  · rfl
  refine steady_go (a' := ?_) (by kernel_rfl) ?_ (fun w' hw' K Q hK => ?_) ?_
  rotate_left 2
  · go_wp2_with fail; exact hK _ (Mod.refl _ _)
  rotate_left
  · rfl
  refine steady_go (a' := ?_) (by kernel_rfl) ?_ (fun w' hw' K Q hK => ?_) ?_
  rotate_left 2
  · go_wp2_with fail; exact hK _ (Mod.refl _ _)
  rotate_left
  · rfl
  refine steady_go (a' := ?_) (by kernel_rfl) ?_ (fun w' hw' K Q hK => ?_) ?_
  rotate_left 2
  · go_wp2_with fail; exact hK _ (Mod.refl _ _)
  rotate_left
  · rfl
  refine steady_go (a' := ?_) (by kernel_rfl) ?_ (fun w' hw' K Q hK => ?_) ?_
  rotate_left 2
  · go_wp2_with fail; exact hK _ (Mod.refl _ _)
  rotate_left
  · rfl
  refine steady_go (a' := ?_) (by kernel_rfl) ?_ (fun w' hw' K Q hK => ?_) ?_
  rotate_left 2
  · go_wp2_with fail; exact hK _ (Mod.refl _ _)
  rotate_left
  · rfl
  refine steady_go (a' := ?_) (by kernel_rfl) ?_ (fun w' hw' K Q hK => ?_) ?_
  rotate_left 2
  · go_wp2_with fail; exact hK _ (Mod.refl _ _)
  rotate_left
  · rfl
  refine steady_done ?_
  refine lates_end (fun w' hw' _ => ?_)
  simp only [List.drop_succ_cons, List.drop_zero]
  have HW0 := Lib.hid hw'
  clear hn g0 g1 g2 g3 k0 k1 k2 k3 q0 q1 q2 q3 h1 hw'
  by_cases hm : 1048576 < n
  · have e1 : (1048576 : Int) < (n : Int) := by omega
    have e2 := Cod.unS_many hS (by rw [← HNE.out]; exact hm)
    have E2 := Lib.hid e2
    clear e2
    go_wp2_with fail
    go_ret2
    exact ⟨Eq.trans (b := Ending.returned (.tuple #[.string (bs []), .int .i64 2])) rfl (by rw [E2.out]), HW0.out⟩
  by_cases hf : 1000 * S.size < n
  · have e1 : ¬ (1048576 : Int) < (n : Int) := by omega
    have e3 : (1000 : Int) * (S.size : Int) < (n : Int) := by omega
    have e2 := Cod.unS_big S hS (by rw [← HNE.out]; exact hm) (by rw [← HNE.out]; exact hf)
    have E2 := Lib.hid e2
    clear e2
    go_wp2_with fail
    go_ret2
    exact ⟨Eq.trans (b := Ending.returned (.tuple #[.string (bs []), .int .i64 11])) rfl (by rw [E2.out]), HW0.out⟩
  have e1 : ¬ (1048576 : Int) < (n : Int) := by omega
  have e3 : ¬ (1000 : Int) * (S.size : Int) < (n : Int) := by omega
  have e2 := Cod.unS_read S hS (by rw [← HNE.out]; exact hm) (by rw [← HNE.out]; exact hf)
  have hL : Cod.readR S = Cod.decR n 0 Cod.c0 (Cod.z4 (S.data.toList.drop 4), (S.data.toList.drop 4).drop 4) := by rw [HNE.out]; rfl
  have E2 := Lib.hid e2
  have HL := Lib.hid hL
  have hn20 : n ≤ 1048576 := by omega
  have HNN := Lib.hid hn20
  clear e2 hL hm hf hn20
  go_wp2_with fail
  obtain ⟨T, hTe⟩ : ∃ T, S.extract 4 S.size = T := ⟨_, rfl⟩
  have hTl : T.data.toList = S.data.toList.drop 4 := by
    rw [← hTe, ByteArray.data_extract, Array.toList_extract]
    simp [List.take_of_length_le]
  have hTs : T.size ≤ 1073741824 := by rw [← hTe, ByteArray.size_extract]; omega
  rw [hTe]
  have HTL := Lib.hid hTl
  have HTE := Lib.hid hTe
  have HS0 : Hid (Mod [] w (w'.alloc (.cells #[.string T, .int .i64 0] 79)) ∧ Blk (w'.alloc (.cells #[.string T, .int .i64 0] 79)) w'.heap.size #[.string T, .int .i64 ((0 : Nat) : Int)] 79) := ⟨HW0.out.alloc _, Blk.new _ _ _⟩
  have HRB : Hid (w.heap.size ≤ w'.heap.size) := HW0.out.size
  clear hTl hTe HW0
  generalize w'.heap.size = rb at *
  go_loopg [6, 7] 4 (fun gk i6 i7 wr => ∃ (i : Nat), i7 = .int .i64 (i : Int) ∧ i6 = .int .i64 ((Cod.zN T.data.toList i : Nat) : Int) ∧ Hid (i + gk = 4) ∧ Hid (Mod [] w wr ∧ Blk wr rb #[.string T, .int .i64 (i : Int)] 79))
  case atStart => exact ⟨0, rfl, rfl, rfl, HS0⟩
  case round =>
    obtain ⟨i, rfl, rfl, hi4, HR⟩ := hrel
    clear HS0
    by_cases h4 : i = 4
    · subst h4
      rw [Cod.zN_four]
      go_wp2_with fail
      refine (made_any _).mono ?_
      rintro e w3 ⟨cb, hb, rfl, hcb, hhb, hm3, hblk, hchs⟩
      have hsz1 := HR.out.1.size
      have hsz2 := hm3.size
      have HS : Hid (Cod.StE w cb hb rb Cod.c0 T 4 (.slice (some ⟨w3.heap.size, 0, none⟩) ([] : List UInt8).length 0) [] (w3.alloc (.cells #[] 5))) :=
        ⟨(HR.out.1.then hm3).alloc _, hblk.alloc _, hchs.alloc _, (HR.out.2.kept hm3 (by simp)).alloc _, made_rowM w3 w.heap.size 0 #[] rfl (by decide) (by omega), by have := HRB.out; omega⟩
      have HC0 : Hid (Cod.z4 T.data.toList < 4294967296) := by
        have h1 := Cod.zN_lt T.data.toList 4
        rw [Cod.zN_four] at h1
        exact h1
      have HL0 : Hid (Cod.decR n 0 Cod.c0 (Cod.z4 T.data.toList, T.data.toList.drop 4) = Cod.readR S) := by show _ = _; rw [HL.out, HTL.out]
      clear hcb hhb hm3 hblk hchs hsz1 hsz2 HR HRB HL hi4
      go_wp2_with fail
      generalize w3.heap.size = bo at *
      generalize w3.alloc (.cells #[] 5) = w4 at *
      generalize Cod.z4 T.data.toList = z0 at *
      go_loopg [6, 9, 10, 11] n (fun gk i6 v9 i10 i11 wr => ∃ (i a code p : Nat) (c' : Cod.C) (st : List UInt8) (ad : Addr) (cap : Nat), i11 = .int .i64 (i : Int) ∧ i10 = .int .i64 (a : Int) ∧ i6 = .int .i64 (code : Int) ∧ v9 = .slice (some ad) st.length cap ∧
        Hid (i + gk = n ∧ a < 256 ∧ code < 4294967296 ∧ p ≤ 4 + 32 * i ∧ st.length = i) ∧ Hid (Cod.StE w cb hb rb c' T p v9 st wr) ∧ Hid (Cod.Wf c') ∧ Hid (st ++ Cod.decR gk a c' (code, T.data.toList.drop p) = Cod.readR S))
      case atStart => exact ⟨0, 0, z0, 4, Cod.c0, [], _, _, rfl, rfl, rfl, rfl, ⟨by omega, by omega, HC0.out, by omega, rfl⟩, HS, Cod.wf_c0, HL0⟩
      case round =>
        obtain ⟨i, a, code, p, c', st, ad, cap, rfl, rfl, rfl, rfl, hi5, HS', HW, HR⟩ := hrel
        clear HS HC0 HL0
        by_cases hn : i = n
        · have hg : gk = 0 := by have := hi5.out.1; omega
          subst hg
          subst hn
          have hst : st = Cod.readR S := by have := HR.out; unfold Cod.decR at this; rw [List.append_nil] at this; exact this
          have AC : ∀ W', Mod [] wr W' → (convert 28 9 (.slice (some ad) st.length cap)).run Tryz.prog W' = .ok (.string (bs st)) W' := fun W' m => (HS'.out.stays m).row.conv 28 9 5 (by kernel_rfl) (by kernel_rfl) (by kernel_rfl)
          have hle : st.length ≤ 1048576 := by have := hi5.out; have := HNN.out; omega
          have E3 := E2.out
          rw [← hst] at E3
          have hP := rpack_all (bs st) wr
          rw [Cod.packS_is st hle] at hP
          generalize Cod.packed st = P at *
          have HM := Lib.hid HS'.out.mod
          have AC0 := AC wr (Mod.refl _ _)
          by_cases hPS : P = S.data.toList
          · rw [if_pos hPS] at E3
            have hk : ((bs P).toList == S.toList) = true := by
              rw [ByteArray.toList_eq, ByteArray.toList_eq, bs_data, hPS]
              simp
            have hE3 := Lib.hid E3
            clear E3 hPS hst hle
            go_wp2_with fail
            refine hP.mono ?_
            rintro e w5 ⟨rfl, hm5⟩
            have AC1 := AC w5 hm5
            have HM5 := Lib.hid (HM.out.then hm5)
            clear hP hm5 AC0
            go_wp2_with fail
            go_ret2
            exact ⟨Eq.trans (b := Ending.returned (.tuple #[.string (bs st), .int .i64 0])) rfl (by rw [hE3.out]), HM5.out⟩
          · rw [if_neg hPS] at E3
            have hk : ((bs P).toList == S.toList) = false := by
              rw [ByteArray.toList_eq, ByteArray.toList_eq, bs_data]
              simpa using hPS
            have hE3 := Lib.hid E3
            clear E3 hPS hst hle
            go_wp2_with fail
            refine hP.mono ?_
            rintro e w5 ⟨rfl, hm5⟩
            have HM5 := Lib.hid (HM.out.then hm5)
            clear hP hm5 AC0 AC
            go_wp2_with fail
            go_ret2
            exact ⟨Eq.trans (b := Ending.returned (.tuple #[.string (bs []), .int .i64 11])) rfl (by rw [hE3.out]), HM5.out⟩
        · have hlt : (i : Int) < (n : Int) := by have := hi5.out.1; omega
          have ha3 : (a : Int) < 256 := by have := hi5.out.2.1; omega
          have hgk : gk ≠ 0 := by have := hi5.out.1; omega
          obtain ⟨G, rfl⟩ : ∃ G, gk = G + 1 := ⟨gk - 1, by omega⟩
          clear hn hgk
          obtain ⟨nd, c9, s9, hcode⟩ : ∃ nd c9 s9, Cod.code Cod.rf c' (code, T.data.toList.drop p) a 0 = (nd, c9, s9) := ⟨_, _, _, rfl⟩
          have HCode := Lib.hid hcode
          have HR2 : Hid (st ++ (UInt8.ofNat (nd % 256) :: Cod.decR G (nd % 256) c9 s9) = Cod.readR S) := by
            have := HR.out
            unfold Cod.decR at this
            rw [hcode] at this
            exact this
          have hz : (code : Int) < 4294967296 := by have := hi5.out; omega
          clear hcode HR hz
          go_wp2_with fail
          go_loopg [6, 12] 8 (fun gj i6 i12 ws => ∃ (nb node cd q : Nat) (c'' : Cod.C), i12 = .int .i64 (node : Int) ∧ i6 = .int .i64 (cd : Int) ∧ Hid (nb = gj ∧ nb ≤ 8 ∧ 2 ^ (8 - nb) ≤ node ∧ node < 2 ^ (9 - nb) ∧ cd < 4294967296 ∧ q + 4 * nb ≤ p + 32) ∧ Hid (Cod.StE w cb hb rb c'' T q (.slice (some ad) st.length cap) st ws) ∧ Hid (Cod.Wf c'') ∧
            Hid (Cod.bits Cod.rf (a / 32 * 256) 0 nb node c'' (cd, T.data.toList.drop q) = (nd, c9, s9)))
          case atStart => exact ⟨8, 1, code, p, c', rfl, rfl, ⟨rfl, by decide, by decide, by decide, hi5.out.2.2.1, Nat.le_refl _⟩, HS', HW, HCode.out⟩
          case round =>
            obtain ⟨nb, node, cd, q, c'', rfl, rfl, hnb, HS2, HW2, HB⟩ := hrel
            clear HS' HW HCode
            cases nb with
            | zero =>
              have hb := HB.out
              unfold Cod.bits at hb
              simp only [Prod.mk.injEq] at hb
              obtain ⟨rfl, rfl, rfl⟩ := hb
              have h256 : 256 ≤ node := hnb.out.2.2.1
              have h512 : node < 512 := hnb.out.2.2.2.1
              obtain ⟨A, hA, hA2, hA3⟩ : ∃ A : Nat, (node : Int) - 256 = (A : Int) ∧ node % 256 = A ∧ A < 256 := ⟨node - 256, by omega, by omega, by omega⟩
              have h256i : ¬ (node : Int) < 256 := by omega
              have hA4 : (A : Int) % 256 = (A : Int) := by omega
              rw [hA2] at HR2
              have HA3 := Lib.hid hA3
              have hsz := Lib.hid HS2.out.mod.size
              have H512 := Lib.hid h512
              have hnod : (node : Int) < 512 := by omega
              clear hA2 hA3 HB h256 h512
              go_wp2_with (at_builtin; refine wpList_append_rowM rfl _ _ 28 rfl w.heap.size i0 Tryz.underlying28 hi hz0 hz1 hz2 _ st rfl ((HS2.out.stays ((Mod.refl [] wr).alloc (.cells #[.int .u8 (A : Int)] 5))).row) ⟨wr.heap.size, 0, none⟩ 1 1 [UInt8.ofNat A] rfl rfl ?_ ?_ ?_ ?_)
              · intro j u hj
                match j, hj with
                | 0, hj =>
                  simp only [List.getElem?_cons_zero, Option.some.injEq] at hj
                  subst hj
                  rw [bcell_ofNat HA3.out]
                  simp
              · have h1 := hi5.out; have h2 := HNN.out; simp; omega
              · have := hsz.out; simp; omega
              intro v' w6 hrow hgrow
              obtain ⟨a7, cap7, hv7, -⟩ := hrow.cells
              subst hv7
              have HS6 := Lib.hid ((HS2.out.stays ((Mod.refl [] wr).alloc (.cells #[.int .u8 (A : Int)] 5))).put hrow hgrow)
              clear hrow hgrow HS2 hsz
              go_wp2_with fail
              go_roundg G
              case measure => omega
              case rel =>
                refine ⟨i + 1, A, cd, q, c'', st ++ [UInt8.ofNat A], a7, cap7, by rw [Int.natCast_add]; rfl, rfl, rfl, rfl, ?_, HS6.out, HW2.out, ?_⟩
                · have h1 := hi5.out; have h2 := hnb.out; have h3 := HA3.out
                  refine ⟨by omega, h3, h2.2.2.2.2.1, by omega, ?_⟩
                  rw [List.length_append]; simp; omega
                · have := HR2.out; show (st ++ [UInt8.ofNat A]) ++ _ = _; rw [List.append_assoc]; exact this
            | succ nb =>
              have hnode : node < 256 := by
                have h1 := hnb.out.2.2.2.1
                have h2 : 2 ^ (9 - (nb + 1)) ≤ 2 ^ 8 := Nat.pow_le_pow_right (by decide) (by omega)
                omega
              have hnode3 : (node : Int) < 256 := by omega
              obtain ⟨K, hK, hKd⟩ : ∃ K : Nat, (a : Int) / 32 * 256 + (node : Int) = (K : Int) ∧ K = a / 32 * 256 + node := ⟨_, by omega, rfl⟩
              have hK20 : K < 2048 := by have := hi5.out.2.1; omega
              have HKD := Lib.hid hKd
              have HMid2 := middle_any wr cb hb c'' HW2.out K hK20 wr HS2.out.toR
              have HStep : ∀ bt, (if cd ≤ Cod.mid c'' K then 1 else 0) = bt → Hid (Cod.bits Cod.rf (a / 32 * 256) 0 nb (2 * node + bt) (Cod.nrm 4 (Cod.turn c'' K bt)).2 (Cod.advR (Cod.nrm 4 (Cod.turn c'' K bt)).1.length (cd, T.data.toList.drop q)) = (nd, c9, s9)) := by
                intro bt hbt
                have e1 := HB.out
                unfold Cod.bits Cod.step at e1
                rw [Cod.norm_advR] at e1
                rw [show Cod.stepB Cod.rf c'' (cd, T.data.toList.drop q) (a / 32 * 256 + node) (0 / 2 ^ nb % 2) = bt by rw [← HKD.out]; exact hbt, ← HKD.out] at e1
                exact e1
              have HTurn := fun bt hbt => turn_any cb hb c'' HW2.out K hK20 bt hbt
              have HW3 : Hid (∀ bt, Cod.Wf (Cod.nrm 4 (Cod.turn c'' K bt)).2) := fun bt => Cod.nrm_wf 4 0 _ rfl (Cod.Q.zero (Cod.turn_wk HW2.out K bt))
              have HLen : Hid (∀ bt, (Cod.nrm 4 (Cod.turn c'' K bt)).1.length ≤ 4) := fun bt => by
                have h1 := Cod.step_len c'' [] K bt
                unfold Cod.step at h1
                rw [Cod.norm_pk] at h1
                simp only [List.nil_append, List.length_nil, Nat.zero_add] at h1
                exact h1
              have HH := Lib.hid (And.intro HTurn HStep)
              clear HTurn HStep hKd hK20 hnode HB
              generalize Cod.mid c'' K = mm at *
              have hcd : cd < 4294967296 := hnb.out.2.2.2.2.1
              by_cases hle : cd ≤ mm
              case' pos =>
                have hd : (cd : Int) ≤ (mm : Int) := by omega
                have HT := Lib.hid (HH.out.1 1 (by decide))
                have HB1 := Lib.hid (HH.out.2 1 (if_pos hle))
                have HW4 := Lib.hid (HW3.out 1)
                have HL4 := Lib.hid (HLen.out 1)
                obtain ⟨l5, c5, hnrm⟩ : ∃ l5 c5, Cod.nrm 4 (Cod.turn c'' K 1) = (l5, c5) := ⟨_, _, rfl⟩
                rw [hnrm] at HT HB1 HW4 HL4
                simp only at HT HB1 HW4 HL4
                clear hnrm
              case' neg =>
                have hd : ¬ (cd : Int) ≤ (mm : Int) := by omega
                have HT := Lib.hid (HH.out.1 0 (by decide))
                have HB1 := Lib.hid (HH.out.2 0 (if_neg hle))
                have HW4 := Lib.hid (HW3.out 0)
                have HL4 := Lib.hid (HLen.out 0)
                obtain ⟨l5, c5, hnrm⟩ : ∃ l5 c5, Cod.nrm 4 (Cod.turn c'' K 0) = (l5, c5) := ⟨_, _, rfl⟩
                rw [hnrm] at HT HB1 HW4 HL4
                simp only at HT HB1 HW4 HL4
                clear hnrm
              all_goals
                clear hle HH HW3 HLen
                have HCD := Lib.hid hcd
                clear hcd
                go_wp2_with fail
                refine HMid2.mono ?_
                rintro e w5 ⟨rfl, hm5⟩
                have HS5 := Lib.hid (HS2.out.stays hm5)
                clear HMid2 hm5 HS2
                go_wp2_with fail
                refine (HT.out w5 HS5.out.toR).mono ?_
                rintro e w6 ⟨a5, cap5, rfl, hR5, -⟩
                have HS6 := Lib.hid (HS5.out.turned hR5)
                clear HT hR5 HS5
                obtain ⟨m, hm⟩ : ∃ m, l5.length = m := ⟨_, rfl⟩
                rw [hm] at HB1 HL4 ⊢
                clear hm
                obtain ⟨G2, hG2⟩ : ∃ G2, gk = G2 + 1 := ⟨nb, by have := hnb.out.1; omega⟩
                subst hG2
                go_wp2_with fail
                go_loopg [6, 16] m (fun gm i6 i16 wu => ∃ (j cd' : Nat), i16 = .int .i64 (j : Int) ∧ i6 = .int .i64 (cd' : Int) ∧ Hid (j + gm = m ∧ cd' < 4294967296) ∧ Hid (Cod.StE w cb hb rb c5 T (q + j) (.slice (some ad) st.length cap) st wu) ∧
                  Hid (Cod.advR gm (cd', T.data.toList.drop (q + j)) = Cod.advR m (cd, T.data.toList.drop q)))
                case atStart => exact ⟨0, cd, rfl, rfl, ⟨by omega, HCD.out⟩, HS6, rfl⟩
                case round =>
                  obtain ⟨j, cd', rfl, rfl, hj, HS7, HA7⟩ := hrel
                  clear HS6
                  by_cases hjm : j = m
                  · have hg : gk = 0 := by have := hj.out.1; omega
                    subst hg
                    subst hjm
                    go_wp2_with fail
                    go_roundg G2
                    case measure => omega
                    case rel =>
                      have h1 := hnb.out; have h2 := hj.out; have h3 := HL4.out
                      have h4 : (cd', T.data.toList.drop (q + j)) = Cod.advR j (cd, T.data.toList.drop q) := HA7.out
                      first
                        | refine ⟨nb, 2 * node + 1, cd', q + j, c5, congrArg (Value.int .i64) (by omega), rfl, ⟨by omega, by omega, ?_, ?_, h2.2, by omega⟩, HS7.out, HW4.out, by show _ = _; rw [h4]; exact HB1.out⟩
                        | refine ⟨nb, 2 * node + 0, cd', q + j, c5, congrArg (Value.int .i64) (by omega), rfl, ⟨by omega, by omega, ?_, ?_, h2.2, by omega⟩, HS7.out, HW4.out, by show _ = _; rw [h4]; exact HB1.out⟩
                      · have h5 := h1.2.2.1
                        rw [show 8 - nb = (8 - (nb + 1)) + 1 by omega, Nat.pow_succ]
                        omega
                      · have h5 := h1.2.2.2.1
                        rw [show 9 - nb = (9 - (nb + 1)) + 1 by omega, Nat.pow_succ]
                        omega
                  · have hjlt : (j : Int) < (m : Int) := by have := hj.out.1; omega
                    obtain ⟨G3, hG3⟩ : ∃ G3, gk = G3 + 1 := ⟨gk - 1, by have := hj.out.1; omega⟩
                    subst hG3
                    have hqj : q + j ≤ 1073741824 := by have h1 := hnb.out; have h2 := hj.out; have h3 := HL4.out; have h4 := hi5.out; have h5 := HNN.out; omega
                    have HN := next_any T hTs rb (q + j) hqj wr HS7.out.rd
                    have hb := UInt8.toNat_lt ((T.data.toList.drop (q + j)).headD 0)
                    obtain ⟨b, hbe, hb2⟩ : ∃ b : Nat, ((T.data.toList.drop (q + j)).headD 0).toNat = b ∧ b < 256 := ⟨_, rfl, hb⟩
                    rw [hbe] at HN
                    have HA8 : Hid (Cod.advR G3 (cd' % 16777216 * 256 + b, T.data.toList.drop (q + (j + 1))) = Cod.advR m (cd, T.data.toList.drop q)) := by
                      show _ = _
                      rw [← HA7.out]
                      show _ = Cod.advR G3 (cd' % 16777216 * 256 + ((T.data.toList.drop (q + j)).headD 0).toNat, (T.data.toList.drop (q + j)).tail)
                      rw [hbe, List.tail_drop]
                      rfl
                    have hcd2 : (cd' : Int) < 4294967296 := by have := hj.out.2; omega
                    have HB2 := Lib.hid hb2
                    clear hb hbe hjm hqj hb2
                    have hb3 : (b : Int) < 256 := by have := HB2.out; omega
                    have hb4 : (0 : Int) ≤ (cd' : Int) := by omega
                    have hj3 : (j : Int) < 4 := by have h1 := hj.out.1; have h2 := HL4.out; omega
                    go_wp2_with fail
                    refine HN.mono ?_
                    rintro e w8 ⟨rfl, hm8, hblk8⟩
                    have HS8 := Lib.hid (HS7.out.next hm8 hblk8)
                    clear hm8 hblk8 HN HS7 HA7
                    go_wp2_with fail
                    go_roundg G3
                    case measure => omega
                    case rel =>
                      refine ⟨j + 1, cd' % 16777216 * 256 + b, by rw [Int.natCast_add]; rfl, ?_, ⟨?_, ?_⟩, HS8.out, HA8.out⟩
                      · rw [Int.natCast_add, Int.natCast_mul]; rfl
                      · have := hj.out.1; omega
                      · have := HB2.out; omega
    · have hlt : i < 4 := by have := hi4.out; omega
      have hlt2 : (i : Int) < 4 := by omega
      have hz1 := Cod.zN_lt T.data.toList i
      have hz2 : 256 ^ i ≤ 256 ^ 3 := Nat.pow_le_pow_right (by decide) (by omega)
      have hz : (Cod.zN T.data.toList i : Int) < 16777216 := by omega
      have hb := UInt8.toNat_lt ((T.data.toList.drop i).headD 0)
      obtain ⟨b, hbe, hb2⟩ : ∃ b : Nat, ((T.data.toList.drop i).headD 0).toNat = b ∧ b < 256 := ⟨_, rfl, hb⟩
      obtain ⟨z, hze⟩ : ∃ z, Cod.zN T.data.toList i = z := ⟨_, rfl⟩
      have HZ : Hid (Cod.zN T.data.toList (i + 1) = z * 256 + b) := by show _ = _; rw [← hze, ← hbe]; rfl
      have HN := next_any T hTs rb i (by omega) wr HR.out.2
      rw [hbe] at HN
      rw [hze] at hz ⊢
      have HB2 := Lib.hid hb2
      clear hz1 hz2 hb hbe hze hb2 h4
      go_wp2_with fail
      refine HN.mono ?_
      rintro e w2 ⟨rfl, hm2, hblk2⟩
      have HR2 : Hid (Mod [] w w2 ∧ Blk w2 rb #[.string T, .int .i64 ((i + 1 : Nat) : Int)] 79) := ⟨HR.out.1.trans hm2 (fun x hx hlt => by
        have h1 := HRB.out
        simp only [List.mem_cons, List.mem_nil_iff, or_false] at hx
        subst hx; omega), hblk2⟩
      clear hm2 hblk2 HN HR
      have hb3 : (b : Int) < 256 := by have := HB2.out; omega
      go_wp2_with fail
      go_roundg (gk - 1)
      case measure => have := hi4.out; omega
      case rel =>
        refine ⟨i + 1, by rw [Int.natCast_add]; rfl, ?_, ?_, HR2.out⟩
        · rw [HZ.out]; rw [Int.natCast_add, Int.natCast_mul]; rfl
        · have := hi4.out; show i + 1 + (gk - 1) = 4; omega

/-- What the document's Unpack answers. -/
theorem runpack_all (S : ByteArray) (hS : S.size ≤ 1073741824) (w : World) : Calls Tryz.prog 13 #[.string S] w fun e w' => e = .returned (.tuple #[.string (Cod.unS S).1, .int .i64 (Cod.unS S).2]) ∧ Mod [] w w' := by
  by_cases h : S.size < 4
  · rw [Cod.unS_short h]
    exact runpack_short S h w
  · exact runpack_rest S (by omega) hS w
end Go.Proofs.YtjgklacbelggdaaGreatDoor
