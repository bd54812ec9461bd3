/- The document's Pack. -/
import Derived.Test.YtjgklacbelggdaaGreatDoorRefMade
import Derived.Test.YtjgklacbelggdaaGreatDoorRefPut
import Derived.Test.YtjgklacbelggdaaGreatDoorCodPack
namespace Go.Proofs.YtjgklacbelggdaaGreatDoor
open Go.RowKit
set_option linter.unusedVariables false

set_option maxHeartbeats 400000 in
theorem rpack_big (s : ByteArray) (hs : 1048576 < s.size) (w : World) : Calls Tryz.prog 11 #[.string s] w fun e w' => e = .returned (.string (bs [])) ∧ w = w' := by
  have h1 : (1048576 : Int) < (s.size : Int) := by omega
  have h2 : decide ((1048576 : Int) < (s.size : Int)) = true := by simpa using h1
  go_enter Tryz.func11, Tryz.ntmps11
  go_wp2_with fail
  go_ret
  exact ⟨rfl, rfl⟩

namespace Cod
/-- The coder of the document's, and the bytes that it has written, in memory of the call's own. -/
structure StD (W : World) (cb hb : Nat) (c : C) (v : Value) (s : List UInt8) (w : World) : Prop where
  mod : Mod [] W w
  blk : Blk w cb (rcV hb c.low c.high) 71
  chs : Blk w hb (chV c.ch) 3
  row : RowM w W.heap.size v s
  ge : W.heap.size ≤ cb ∧ W.heap.size ≤ hb
theorem StD.stays {W : World} {cb hb : Nat} {c : C} {v : Value} {s : List UInt8} {w w' : World} (h : StD W cb hb c v s w) (m : Mod [] w w') : StD W cb hb c v s w' :=
  ⟨h.mod.then m, h.blk.kept m (by simp), h.chs.kept m (by simp), h.row.mod m (by simp), h.ge⟩
theorem StD.toR {W : World} {cb hb : Nat} {c : C} {v : Value} {s : List UInt8} {w : World} (h : StD W cb hb c v s w) : StR w cb hb c w := ⟨Mod.refl _ _, h.blk, h.chs⟩
/-- Behind a turn. -/
theorem StD.turned {W : World} {cb hb : Nat} {c c' : C} {v : Value} {s : List UInt8} {w w' : World} (h : StD W cb hb c v s w) (k : StR w cb hb c' w') : StD W cb hb c' v s w' :=
  ⟨h.mod.trans k.mod (fun x hx hlt => by
      have h1 := h.ge
      simp only [List.mem_cons, List.mem_nil_iff, or_false] at hx
      rcases hx with rfl | rfl <;> omega), k.blk, k.chs,
    h.row.mod k.mod (fun x hx hm => by
      simp only [List.mem_cons, List.mem_nil_iff, or_false] at hm
      rcases hm with rfl | rfl
      · exact h.row.ne h.blk (by decide) hx
      · exact h.row.ne h.chs (by decide) hx), h.ge⟩
/-- Bytes are put behind. -/
theorem StD.put {W : World} {cb hb : Nat} {c : C} {v v' : Value} {s s' : List UInt8} {w w' : World} (h : StD W cb hb c v s w) (hr : RowM w' W.heap.size v' s') (g : w.grownBy w' v.ownBlock) : StD W cb hb c v' s' w' :=
  ⟨h.mod.grownR g fun k hk => (h.row.lt k hk).1, h.blk.grownR g (h.row.ne h.blk (by decide)), h.chs.grownR g (h.row.ne h.chs (by decide)), hr, h.ge⟩
end Cod

set_option maxRecDepth 100000 in
set_option maxHeartbeats 4000000 in
theorem rpack_fit (s : ByteArray) (hs : s.size ≤ 1048576) (w : World) : Calls Tryz.prog 11 #[.string s] w fun e w' => e = .returned (.string (bs (Cod.packed s.data.toList))) ∧ Mod [] w w' := by
  obtain ⟨i0, hi, hz0, hz1, hz2⟩ := info_parts Tryz.info_u8
  have h2 : decide ((1048576 : Int) < (s.size : Int)) = false := by simp; omega
  have h3 : bs (Oct.putL (s.size : Int) 4) = bs (Cod.b4 s.size) := Cod.put4 _ (by omega)
  go_enter Tryz.func11, Tryz.ntmps11
  go_wp2_with fail
  refine (rput_any _ 4 _ (by decide) (by omega) (by omega)).mono ?_
  rintro e w1 ⟨rfl, hb1⟩
  have hm1 := Mod.of_below hb1
  rw [h3]
  obtain ⟨v0, w2, hc2, hrow2, hm2⟩ := bytes_rowM (P := Tryz.prog) w1 w.heap.size 9 28 (bs (Cod.b4 s.size)) (by kernel_rfl) (by kernel_rfl) (by kernel_rfl) (by show (4 : Nat) ≤ maxLen; decide) hm1.size
  obtain ⟨a0, cap0, rfl, -⟩ := hrow2.cells
  have HR2 := Lib.hid hrow2
  have HM2 := Lib.hid (hm1.then hm2)
  clear hm1 hm2 hb1 hrow2 h3
  go_wp2_with fail
  refine (made_any _).mono ?_
  rintro e w3 ⟨cb, hb, rfl, hcb, hhb, hm3, hblk, hchs⟩
  have HS : Hid (Cod.StD w cb hb Cod.c0 (.slice (some a0) (bs (Cod.b4 s.size)).data.toList.length cap0) (Cod.b4 s.size) w3) :=
    ⟨HM2.out.then hm3, hblk, hchs, HR2.out.mod hm3 (by simp), by have := HM2.out.size; omega⟩
  clear hcb hhb hm3 hblk hchs HR2 HM2 hc2
  go_wp2_with fail
  have HZ := Lib.hid hs
  have HP : Hid (Cod.packed s.data.toList = (Cod.runs Cod.pk s.data.toList 0 Cod.c0 (Cod.b4 s.size)).2 ++ Cod.b4 (Cod.runs Cod.pk s.data.toList 0 Cod.c0 (Cod.b4 s.size)).1.low) := by
    rw [Cod.runs_pk]; rfl
  clear hs
  go_loopg [3, 5, 6] s.size (fun gk v3 i5 i6 wr => ∃ (i a : Nat) (c' : Cod.C) (st : List UInt8) (ad : Addr) (cap : Nat), i6 = .int .i64 (i : Int) ∧ i5 = .int .i64 (a : Int) ∧ v3 = .slice (some ad) st.length cap ∧ Hid (i + gk = s.size ∧ a < 256) ∧ Hid (Cod.StD w cb hb c' v3 st wr) ∧ Hid (Cod.Wf c') ∧
    Hid (Cod.runs Cod.pk (s.data.toList.drop i) a c' st = Cod.runs Cod.pk s.data.toList 0 Cod.c0 (Cod.b4 s.size)) ∧ Hid (st.length ≤ 4 + 32 * i))
  case atStart => exact ⟨0, 0, Cod.c0, _, a0, cap0, rfl, rfl, rfl, ⟨by omega, by omega⟩, HS, Cod.wf_c0, rfl, Nat.le_refl 4⟩
  case round =>
    obtain ⟨i, a, c', st, ad, cap, rfl, rfl, rfl, hi5, HS', HW, HR, HL⟩ := hrel
    clear HS
    by_cases hn : i = s.size
    · subst hn
      have hfin : Cod.packed s.data.toList = st ++ Cod.b4 c'.low := by
        have h6 := HP.out
        rw [← HR.out, List.drop_of_length_le (show s.data.toList.length ≤ s.size from Nat.le_of_eq Array.length_toList)] at h6
        exact h6
      have AC : ∀ W', Mod [] wr W' → (convert 28 9 (.slice (some ad) st.length cap)).run Tryz.prog W' = .ok (.string (bs st)) W' := fun W' m => (HS'.out.stays m).row.conv 28 9 5 (by kernel_rfl) (by kernel_rfl) (by kernel_rfl)
      have AL : ∀ W', Mod [] wr W' → W'.cell? ⟨cb, 1, none⟩ = some (.int .i64 c'.low) := fun W' m => (HS'.out.stays m).blk.cell 1
      have HPut : Hid (∀ W', Mod [] wr W' → Calls Tryz.prog 21 #[.int .i64 (c'.low : Int), .int .i64 4] W' fun e w'' => e = .returned (.string (bs (Cod.b4 c'.low))) ∧ Mod [] W' w'') := fun W' m => by
        have h1 := HW.out.le; have h2 := HW.out.hi
        have h9 := rput_any (c'.low : Int) 4 W' (by decide) (by omega) (by omega)
        rw [show bs (Oct.putL (c'.low : Int) 4) = bs (Cod.b4 c'.low) from Cod.put4 _ (by omega)] at h9
        exact h9.mono fun e w'' h => ⟨h.1, Mod.of_below h.2⟩
      have HM := Lib.hid HS'.out.mod
      have hz1 : (bs st).size ≤ 40000000 := by have h1 := HL.out; have h2 := HZ.out; rw [bs_size]; omega
      have hz2 : (bs (Cod.b4 c'.low)).size ≤ 4 := Nat.le_refl 4
      clear HS' HW HR HP HL hi5 HZ
      go_wp2_with fail
      refine wp_region_mask 9 [true, true, true, true, true, true, true, true, true] [] (by kernel_rfl) (by kernel_rfl) (by simp) ?_
      simp only [pickM]
      refine steady_go (a' := ?_) (by kernel_rfl) ?_ (fun w' hw' K Q hK => ?_) ?_
      rotate_left 2
      · go_wp2_with fail; exact hK _ (Mod.refl _ _)
      rotate_left
      · rfl
      refine steady_go (a' := ?_) (by kernel_rfl) ?_ (fun w' hw' K Q hK => ?_) ?_
      rotate_left 2
      · go_wp2_with fail; exact hK _ (Mod.refl _ _)
      rotate_left
      · rfl
      refine steady_go (a' := ?_) (by kernel_rfl) ?_ (fun w' hw' K Q hK => ?_) ?_
      rotate_left 2
      · go_wp2_with fail; exact hK _ (Mod.refl _ _)
      rotate_left
      · rfl
      refine steady_go (a' := ?_) (by kernel_rfl) ?_ (fun w' hw' K Q hK => ?_) ?_
      rotate_left 2
      · go_wp2_with fail; exact hK _ (Mod.refl _ _)
      rotate_left
      · rfl
      refine steady_go (a' := ?_) (by kernel_rfl) ?_ (fun w' hw' K Q hK => ?_) ?_
      rotate_left 2
      · go_wp2_with fail; exact hK _ (Mod.refl _ _)
      rotate_left
      · rfl
      refine steady_go (a' := ?_) (by kernel_rfl) ?_ (fun w' hw' K Q hK => ?_) ?_
      rotate_left 2
      · go_wp2_with fail; exact hK _ (Mod.refl _ _)
      rotate_left
      · rfl
      refine steady_go (a' := ?_) (by kernel_rfl) ?_ (fun w' hw' K Q hK => ?_) ?_
      rotate_left 2
      · go_wp2_with fail
        refine ((HPut.out) _ hw').mono ?_
        rintro e w'' ⟨rfl, m''⟩
        go_wp2_with fail
        exact hK _ m''
      rotate_left
      · rfl
      refine steady_go (a' := ?_) (by kernel_rfl) ?_ (fun w' hw' K Q hK => ?_) ?_
      rotate_left 2
      · go_wp2_with fail; exact hK _ (Mod.refl _ _)
      rotate_left
      · rfl
      refine steady_go (a' := ?_) (by kernel_rfl) ?_ (fun w' hw' K Q hK => ?_) ?_
      rotate_left 2
      · go_wp2_with fail; exact hK _ (Mod.refl _ _)
      rotate_left
      · rfl
      refine steady_done ?_
      refine lates_end (fun w' hw' _ => ?_)
      simp only [List.drop_succ_cons, List.drop_zero]
      go_wp2_with fail
      go_ret
      exact ⟨ret_str (by rw [hfin]; exact bs_ext (by simp [bs])), HM.out.then hw'⟩
    · have hlt : i < s.size := by have := hi5.out; omega
      have h4 : (i : Int) < (s.size : Int) := by omega
      have h5 : (0 : Int) ≤ (i : Int) := by omega
      have h8 : (i : Int) < 1048576 := by have := HZ.out; omega
      have HA := Lib.hid hi5.out.2
      have hw8 : s[i].toNat < 256 := UInt8.toNat_lt _
      have hx1 : wrap64 (s[i].toNat : Int) = (s[i].toNat : Int) := by unfold wrap64; omega
      have HCode : Hid ((Cod.code Cod.pk c' st a s[i].toNat).1 % 256 = s[i].toNat) := Cod.code_pkB c' st a s[i]
      have HR2 : Hid (Cod.runs Cod.pk (s.data.toList.drop (i + 1)) ((Cod.code Cod.pk c' st a s[i].toNat).1 % 256) (Cod.code Cod.pk c' st a s[i].toNat).2.1 (Cod.code Cod.pk c' st a s[i].toNat).2.2 = Cod.runs Cod.pk s.data.toList 0 Cod.c0 (Cod.b4 s.size)) := by
        have h6 := HR.out
        rw [List.drop_eq_getElem_cons (show i < s.data.toList.length from (by rw [Array.length_toList]; exact hlt))] at h6
        exact h6
      have HW8 := Lib.hid hw8
      have ha3 : (a : Int) < 256 := by have := HA.out; omega
      clear hn hw8 HR
      generalize gk = G at *
      go_wp2_with fail
      go_loopg [3, 7, 8] 8 (fun gj v3 i7 i8 ws => ∃ (n node : Nat) (c'' : Cod.C) (st' : List UInt8) (ad' : Addr) (cap' : Nat), i8 = .int .i64 ((n : Int) - 1) ∧ i7 = .int .i64 (node : Int) ∧ v3 = .slice (some ad') st'.length cap' ∧ Hid (n = gj ∧ n ≤ 8 ∧ 0 < node ∧ node < 2 ^ (9 - n)) ∧ Hid (Cod.StD w cb hb c'' v3 st' ws) ∧ Hid (Cod.Wf c'') ∧
        Hid (Cod.bits Cod.pk (a / 32 * 256) s[i].toNat n node c'' st' = Cod.code Cod.pk c' st a s[i].toNat) ∧ Hid (st'.length + 4 * n ≤ st.length + 32))
      case atStart => exact ⟨8, 1, c', st, ad, cap, rfl, rfl, rfl, ⟨rfl, by decide, by decide, by decide⟩, HS', HW, rfl, Nat.le_refl _⟩
      case round =>
        obtain ⟨n, node, c'', st', ad', cap', rfl, rfl, rfl, hn, HS2, HW2, HB, HL2⟩ := hrel
        clear HS' HW
        cases n with
        | zero =>
          go_wp2_with fail
          go_roundg (G - 1)
          case measure => have := hi5.out.1; omega
          case rel =>
            have e1 := HB.out
            unfold Cod.bits at e1
            have e2 := HR2.out
            rw [HCode.out, ← e1] at e2
            refine ⟨i + 1, s[i].toNat, c'', st', ad', cap', by rw [Int.natCast_add]; rfl, by rw [hx1], rfl, ⟨?_, HW8.out⟩, HS2.out, HW2.out, e2, ?_⟩
            · have := hi5.out.1; show i + 1 + (G - 1) = s.size; omega
            · have h1 := HL.out; have h2 := HL2.out; show st'.length ≤ 4 + 32 * (i + 1); omega
        | succ n =>
          have hn8 : n < 8 := by have := hn.out.2.1; omega
          have hnode : node < 256 := by
            have h1 := hn.out.2.2.2
            have h2 : 2 ^ (9 - (n + 1)) ≤ 2 ^ 8 := Nat.pow_le_pow_right (by decide) (by omega)
            omega
          have e2 : ((n + 1 : Nat) : Int) - 1 = (n : Int) := by omega
          rw [e2]
          have hnode3 : (node : Int) < 256 := by omega
          have hn3 : (n : Int) < 8 := by omega
          have hu : IntKind.u64.wrap (n : Int) = (n : Int) := by rw [IntKind.wrap_u64]; omega
          have hmin : min n 64 = n := by omega
          obtain ⟨bt, hbt, hbt2⟩ : ∃ bt : Nat, ((s[i].toNat : Int) / 2 ^ n).tmod 2 = (bt : Int) ∧ bt = s[i].toNat / 2 ^ n % 2 := ⟨_, by
            rw [show ((s[i].toNat : Int) / 2 ^ n) = ((s[i].toNat / 2 ^ n : Nat) : Int) by rw [Int.natCast_ediv, Int.natCast_pow]; rfl]
            exact Cod.tmod_nat _ 2, rfl⟩
          obtain ⟨K, hK, hKd⟩ : ∃ K : Nat, (a : Int) / 32 * 256 + (node : Int) = (K : Int) ∧ K = a / 32 * 256 + node := ⟨_, by omega, rfl⟩
          have HBT := Lib.hid hbt2
          have HKD := Lib.hid hKd
          clear e2 hbt2 hKd
          have hn8' := Lib.hid hn8
          clear hn8
          go_wp2_with fail
          have HTurn := turn_any cb hb c'' HW2.out K (by have h1 := HKD.out; have h2 := HA.out; omega) bt (by have h1 := HBT.out; omega) wr HS2.out.toR
          have HStep : Hid (Cod.bits Cod.pk (a / 32 * 256) s[i].toNat n (2 * node + bt) (Cod.nrm 4 (Cod.turn c'' K bt)).2 (st' ++ (Cod.nrm 4 (Cod.turn c'' K bt)).1) = Cod.code Cod.pk c' st a s[i].toNat) := by
            have e1 := HB.out
            unfold Cod.bits Cod.step at e1
            rw [Cod.norm_pk] at e1
            rw [← HBT.out, ← HKD.out] at e1
            exact e1
          have HW3 : Hid (Cod.Wf (Cod.nrm 4 (Cod.turn c'' K bt)).2) := Cod.nrm_wf 4 0 _ rfl (Cod.Q.zero (Cod.turn_wk HW2.out K bt))
          have HLen : Hid ((Cod.nrm 4 (Cod.turn c'' K bt)).1.length ≤ 4) := by
            have h1 := Cod.step_len c'' [] K bt
            unfold Cod.step at h1
            rw [Cod.norm_pk] at h1
            simp only [List.nil_append, List.length_nil, Nat.zero_add] at h1
            exact h1
          refine HTurn.mono ?_
          rintro e w5 ⟨a5, cap5, rfl, hR5, hrow5⟩
          clear HTurn
          have HS5 := Lib.hid (HS2.out.turned hR5)
          have HNew := Lib.hid hrow5
          clear hR5 hrow5 HS2 HB
          generalize (Cod.nrm 4 (Cod.turn c'' K bt)).1 = news at *
          generalize (Cod.nrm 4 (Cod.turn c'' K bt)).2 = c5 at *
          go_wp2_with (at_builtin; refine wpList_append_rowM rfl _ _ 28 rfl w.heap.size i0 Tryz.underlying28 hi hz0 hz1 hz2 _ st' rfl HS5.out.row a5 _ cap5 news rfl rfl ?_ ?_ ?_ ?_)
          · obtain ⟨a6, cap6, h6, h7⟩ := HNew.out.cells
            cases h6
            exact h7
          · have h1 := HL.out; have h2 := HL2.out; have h3 := HLen.out; omega
          · have := HS5.out.mod.size; exact this
          intro v' w6 hrow hgrow
          obtain ⟨a7, cap7, hv7, -⟩ := hrow.cells
          subst hv7
          have HS6 := Lib.hid (HS5.out.put hrow hgrow)
          clear hrow hgrow HS5 HNew
          go_wp2_with fail
          go_roundg (gk - 1)
          case measure => have := hn.out.1; omega
          case rel =>
            refine ⟨n, 2 * node + bt, c5, st' ++ news, a7, cap7, rfl, by have := HBT.out; rw [Cod.wrap_in (by omega) (by omega), Int.natCast_add, Int.natCast_mul]; rfl, rfl, ⟨?_, ?_, ?_, ?_⟩, HS6.out, HW3.out, HStep.out, ?_⟩
            · have := hn.out.1; show n = gk - 1; omega
            · have := hn8'.out; omega
            · have := hn.out.2.2.1; omega
            · have h1 := hn.out.2.2.2
              have h2 := hn8'.out
              have h3 := HBT.out
              rw [show 9 - n = (9 - (n + 1)) + 1 by omega, Nat.pow_succ]
              omega
            · have h1 := HL2.out; have h2 := HLen.out; show (st' ++ news).length + 4 * n ≤ st.length + 32; rw [List.length_append]; omega

theorem rpack_all (s : ByteArray) (w : World) : Calls Tryz.prog 11 #[.string s] w fun e w' => e = .returned (.string (Cod.packS s)) ∧ Mod [] w w' := by
  unfold Cod.packS
  by_cases h : s.size ≤ 1048576
  · rw [if_pos h]; exact rpack_fit s h w
  · rw [if_neg h]; exact (rpack_big s (by omega) w).mono fun e w' ⟨h1, h2⟩ => ⟨h1, h2 ▸ Mod.refl _ _⟩
end Go.Proofs.YtjgklacbelggdaaGreatDoor
