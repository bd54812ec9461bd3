/- The reference's Told. -/
import Derived.Test.YtngeijdfpgmcfaaBigParts
import Derived.Test.YtngeijdfpgmcfaaRatTell
import Derived.Outline
import Derived.Deep.RegionHeld3
import Derived.Deep.RegionWith
import Derived.Deep.DeepCutAuto
import Derived.Deep.LoopGhost
import Derived.Test.YtngeijdfpgmcfaaChain
namespace Go.Proofs.Ytngeijdfpgmcfaa
open Go.RowKit
set_option maxRecDepth 100000
set_option linter.unusedVariables false

theorem Sl.len {w : World} {oa : Option Addr} {n c : Nat} {cs : List Value} (h : Sl w (.slice oa n c) cs) : n = cs.length := by
  rcases h with ⟨h, h'⟩ | ⟨b, o, cap, h, _⟩
  · simp at h h'; rw [h', h.2.1]; rfl
  · simp at h; exact h.2.1

/-- Digits in a slice that lies in none of these blocks. -/
def SlA (bl : List Nat) (W : World) (v : Value) (m : Nat) : Prop := Sl W v ((Big.dig m).map dcell) ∧ ∀ k ∈ bl, v.ownBlock ≠ some k
theorem SlA.mod {bl : List Nat} {W W' : World} {v : Value} {m : Nat} (h : SlA bl W v m) (hm : Mod [] W W') : SlA bl W' v m := ⟨h.1.mod hm, h.2⟩
theorem SlA.set {bl : List Nat} {W : World} {v : Value} {m : Nat} (h : SlA bl W v m) {b : Nat} (hb : b ∈ bl) (i : Nat) (x : Value) : SlA bl (W.setCell ⟨b, i, none⟩ x) v m := by
  refine ⟨?_, h.2⟩
  rcases h.1 with h1 | ⟨b', o, cap, rfl, h2, h3, h4⟩
  · exact .inl h1
  · have hne : b' ≠ b := fun he => h.2 b hb (by rw [← he]; rfl)
    refine .inr ⟨b', o, cap, rfl, by simpa using h2, h3, fun i hi => ?_⟩
    rw [World.cell?_of_block (w := W) (a := ⟨b', o + i, none⟩) (Below.heap_setCell W _ x b' hne)]
    exact h4 i hi
theorem Sl.lt {W : World} {v : Value} {cs : List Value} (h : Sl W v cs) : ∀ k, v.ownBlock = some k → k < W.heap.size := by
  intro k hk
  rcases h with ⟨rfl, _⟩ | ⟨b, o, cap, rfl, h2, _⟩
  · simp [Value.ownBlock] at hk
  · have : b = k := by simpa [Value.ownBlock] using hk
    omega
theorem SlA.alloc {bl : List Nat} {W : World} {v : Value} {m : Nat} (h : SlA bl W v m) (o : Obj) : SlA (bl ++ [W.heap.size]) (W.alloc o) v m := by
  refine ⟨h.1.mod ((Mod.refl [] W).alloc o), fun k hk he => ?_⟩
  rcases List.mem_append.1 hk with hk | hk
  · exact h.2 k hk he
  · have := h.1.lt k he
    have := List.mem_singleton.1 hk
    omega
theorem SlA.of {w W W' : World} {l : List (Nat × Array Value × TypeId)} (T : Own w W l) {v : Value} {m : Nat} (h : Sl W' v ((Big.dig m).map dcell)) (f : Fresh W.heap.size v) : SlA (l.map (·.1)) W' v m := by
  refine ⟨h, fun k hk he => ?_⟩
  obtain ⟨p, hp, rfl⟩ := List.mem_map.1 hk
  have := (T.blk p hp).2.lt
  have := f _ he
  omega
theorem SlA.old {w W : World} {l : List (Nat × Array Value × TypeId)} (T : Own w W l) {v : Value} {m : Nat} (h : Sl w v ((Big.dig m).map dcell)) : SlA (l.map (·.1)) W v m := by
  refine ⟨h.mod T.mod, fun k hk he => ?_⟩
  obtain ⟨p, hp, rfl⟩ := List.mem_map.1 hk
  have := (T.blk p hp).1
  have := h.lt _ he
  omega
theorem SlA.numz {bl : List Nat} {W : World} {v : Value} {z : Int} (h : SlA bl W v z.natAbs) : NumZ W (.agg #[.bool (decide (z < 0)), v]) z := ⟨_, rfl, h.1⟩
theorem SlA.nat {bl : List Nat} {W : World} {v : Value} {m : Nat} (h : SlA bl W v m) : NumZ W (.agg #[.bool false, v]) (m : Int) :=
  ⟨_, by rw [show decide ((m : Int) < 0) = false by simp], by rw [Int.natAbs_natCast]; exact h.1⟩
theorem SlA.dlen {bl : List Nat} {W : World} {oa : Option Addr} {n c m : Nat} (h : SlA bl W (.slice oa n c) m) : n = (Big.dig m).length := by have := h.1.len; simpa using this

def toldS (w wc : World) (h : Nat) (x y : Int) (na da : Option Addr) (nn nc dn dc : Nat) (x' y' : Int) : Prop :=
  Own w wc [(h, #[.bool (decide (x' < 0)), .slice na nn nc], 99), (h + 1, #[.bool false, .slice da dn dc], 99), (h + 1 + 1, #[.int .i64 0, .int .i64 0], 51)] ∧
  SlA [h, h + 1, h + 1 + 1] wc (.slice na nn nc) x'.natAbs ∧ SlA [h, h + 1, h + 1 + 1] wc (.slice da dn dc) y'.natAbs ∧ 0 < y' ∧ x'.natAbs = x.natAbs ∧ y'.natAbs = y.natAbs

theorem Own.two_more {w W : World} {l : List (Nat × Array Value × TypeId)} (T : Own w W l) (c1 : Array Value) (t1 : TypeId) (c2 : Array Value) (t2 : TypeId) :
    Own w ((W.alloc (.cells c1 t1)).alloc (.cells c2 t2)) (l ++ [(W.heap.size, c1, t1), (W.heap.size + 1, c2, t2)]) := by
  have := (T.alloc c1 t1).alloc c2 t2
  simpa using this
theorem SlA.two_more {bl : List Nat} {W : World} {v : Value} {m : Nat} (h : SlA bl W v m) (o o' : Obj) : SlA bl ((W.alloc o).alloc o') v m :=
  ⟨h.1.mod (((Mod.refl [] W).alloc o).alloc o'), h.2⟩

/-- A number, not below 0, as a value; and two of them, as a call gives them. -/
def NatV (m : Nat) (v : Value) (w : World) : Prop := ∃ oa n c, v = .agg #[.bool false, .slice oa n c] ∧ Sl w (.slice oa n c) ((Big.dig m).map dcell)
theorem NatV.stays (m : Nat) (v : Value) : Stays (NatV m v) := fun _ _ ⟨oa, n, c, h1, h2⟩ hm => ⟨oa, n, c, h1, h2.mod hm⟩
def PartV (p q : Nat) (v : Value) (w : World) : Prop := ∃ oa n c ob n2 c2, v = .tuple #[.agg #[.bool false, .slice oa n c], .agg #[.bool false, .slice ob n2 c2]] ∧ Sl w (.slice oa n c) ((Big.dig p).map dcell) ∧ Sl w (.slice ob n2 c2) ((Big.dig q).map dcell)
theorem PartV.stays (p q : Nat) (v : Value) : Stays (PartV p q v) := fun _ _ ⟨oa, n, c, ob, n2, c2, h1, h2, h3⟩ hm => ⟨oa, n, c, ob, n2, c2, h1, h2.mod hm, h3.mod hm⟩
theorem natV_post {m k : Nat} (hk : m = k) {w w' : World} {e : Ending} (h : NatPost m w e w') : ∃ v, e = .returned v ∧ NatV k v w' ∧ Mod [] w w' := by
  subst hk
  obtain ⟨oa, n, c, rfl, h1, _, h2⟩ := h
  exact ⟨_, rfl, ⟨oa, n, c, rfl, h1⟩, h2⟩

theorem NatV.elim {m : Nat} {v : Value} {w : World} {G : Prop} (h : NatV m v w) (k : ∀ oa n c, v = .agg #[.bool false, .slice oa n c] → Sl w (.slice oa n c) ((Big.dig m).map dcell) → G) : G := by
  obtain ⟨oa, n, c, h1, h2⟩ := h; exact k oa n c h1 h2
theorem PartV.elim {p q : Nat} {v : Value} {w : World} {G : Prop} (h : PartV p q v w) (k : ∀ oa n c ob n2 c2, v = .tuple #[.agg #[.bool false, .slice oa n c], .agg #[.bool false, .slice ob n2 c2]] → Sl w (.slice oa n c) ((Big.dig p).map dcell) → Sl w (.slice ob n2 c2) ((Big.dig q).map dcell) → G) : G := by
  obtain ⟨oa, n, c, ob, n2, c2, h1, h2, h3⟩ := h; exact k oa n c ob n2 c2 h1 h2 h3
theorem NewBlk.elim {B : Nat} {cs : Array Value} {t : TypeId} {v : Value} {w : World} {G : Prop} (h : NewBlk B cs t v w) (k : ∀ b, v = .pointer (some ⟨b, 0, none⟩) → B ≤ b → Blk w b cs t → G) : G := by
  obtain ⟨b, h1, h2, h3⟩ := h; exact k b h1 h2 h3
theorem partV_post {p q : Nat} {W w' : World} {e : Ending} (h : ∃ qa qn qc ra rn rc, e = .returned (.tuple #[.agg #[.bool false, .slice qa qn qc], .agg #[.bool false, .slice ra rn rc]]) ∧
      Sl w' (.slice qa qn qc) ((Big.dig p).map dcell) ∧ Sl w' (.slice ra rn rc) ((Big.dig q).map dcell) ∧ Fresh W.heap.size (.slice qa qn qc) ∧ Fresh W.heap.size (.slice ra rn rc) ∧ Mod [] W w') : ∃ v, e = .returned v ∧ PartV p q v w' ∧ Mod [] W w' := by
  obtain ⟨qa, qn, qc, ra, rn, rc, rfl, k1, k2, _, _, m⟩ := h
  exact ⟨_, rfl, ⟨qa, qn, qc, ra, rn, rc, rfl, k1, k2⟩, m⟩

theorem Sl.set_box {W : World} {v : Value} {ds : List Nat} {b : Nat} {x : Bool} {y : Value} {t : TypeId} (h : Sl W v (ds.map dcell)) (B : Blk W b #[.bool x, y] t) (hy : ∀ d, y ≠ dcell d) (i : Nat) (u : Value) : Sl (W.setCell ⟨b, i, none⟩ u) v (ds.map dcell) := by
  rcases h with h1 | ⟨b', o, cap, rfl, h2, h3, h4⟩
  · exact .inl h1
  · refine .inr ⟨b', o, cap, rfl, by simpa using h2, h3, fun j hj => ?_⟩
    have hne : b' ≠ b := fun he => by
      subst he
      have h5 := h4 j hj
      rw [B.cell] at h5
      rw [List.getElem_map] at h5
      rcases hoj : o + j with _ | _ | k
      · rw [hoj] at h5; simp [dcell] at h5
      · rw [hoj] at h5; simp at h5; exact hy _ h5
      · rw [hoj] at h5; simp at h5
    rw [World.cell?_of_block (w := W) (a := ⟨b', o + j, none⟩) (Below.heap_setCell W _ u b' hne)]
    exact h4 j hj
theorem two_boxes {wr w' : World} (m : Mod [] wr w') {b8 b9 : Nat} {t : TypeId} (h8 : wr.heap.size ≤ b8) (h9 : wr.heap.size ≤ b9) (hne : b8 ≠ b9) (B8 : Blk w' b8 #[.bool false, .slice none 0 0] t) (B9 : Blk w' b9 #[.bool false, .slice none 0 0] t)
    {pa ra : Option Addr} {pn pc rn rc : Nat} {x y : Bool} {ds : List Nat} (hp : Sl w' (.slice pa pn pc) (ds.map dcell)) :
    let W := (((w'.setCell ⟨b8, 0, none⟩ (.bool x)).setCell ⟨b8, 1, none⟩ (.slice pa pn pc)).setCell ⟨b9, 0, none⟩ (.bool y)).setCell ⟨b9, 1, none⟩ (.slice ra rn rc)
    Mod [] wr W ∧ Blk W b8 #[.bool x, .slice pa pn pc] t ∧ Sl W (.slice pa pn pc) (ds.map dcell) := by
  have C8 := (B8.set 0 (.bool x)).set 1 (.slice pa pn pc)
  have C9 := (B9.other (a := ⟨b8, 0, none⟩) (by exact hne) (.bool x)).other (a := ⟨b8, 1, none⟩) (by exact hne) (.slice pa pn pc)
  have hs : ∀ (a : Option Addr) (k c d : Nat), Value.slice a k c ≠ dcell d := fun a k c d h => by simp [dcell] at h
  refine ⟨(((m.setNew (p := ⟨b8, 0, none⟩) h8 _).setNew (p := ⟨b8, 1, none⟩) h8 _).setNew (p := ⟨b9, 0, none⟩) h9 _).setNew (p := ⟨b9, 1, none⟩) h9 _, (C8.other (a := ⟨b9, 0, none⟩) (Ne.symm hne) _).other (a := ⟨b9, 1, none⟩) (Ne.symm hne) _, ?_⟩
  exact (((hp.set_box B8 (hs _ _ _) 0 (.bool x)).set_box (B8.set 0 (.bool x)) (hs _ _ _) 1 _).set_box C9 (hs _ _ _) 0 _).set_box (C9.set 0 _) (hs _ _ _) 1 _

/-- The blocks of Told, and the state between the rounds. -/
def gList (h ba bb : Nat) (bn : Bool) (sn sd sa sb : Value) : List (Nat × Array Value × TypeId) :=
  [(h, #[.bool bn, sn], 99), (h + 1, #[.bool false, sd], 99), (h + 1 + 1, #[.int .i64 0, .int .i64 0], 51), (ba, #[.bool false, sa], 99), (bb, #[.bool false, sb], 99)]
def GState (w : World) (ba bb : Nat) (bn : Bool) (sn sd : Value) (X Y : Nat) (wr : World) (B : Nat) : Prop :=
  ∃ A aa an ac ca cn cc, Own w wr (gList w.heap.size ba bb bn sn sd (.slice aa an ac) (.slice ca cn cc)) ∧
    SlA [w.heap.size, w.heap.size + 1, w.heap.size + 1 + 1, ba, bb] wr sn X ∧ SlA [w.heap.size, w.heap.size + 1, w.heap.size + 1 + 1, ba, bb] wr sd Y ∧
    SlA [w.heap.size, w.heap.size + 1, w.heap.size + 1 + 1, ba, bb] wr (.slice aa an ac) A ∧ SlA [w.heap.size, w.heap.size + 1, w.heap.size + 1 + 1, ba, bb] wr (.slice ca cn cc) B ∧
    Nat.gcd A B = Nat.gcd X Y ∧ (Big.dig A).length ≤ 100 ∧ (Big.dig B).length ≤ 100
theorem parts_nat {bl : List Nat} {W : World} {sa sb : Value} {A B : Nat} (h1 : SlA bl W sa A) (h2 : SlA bl W sb B) (hB : 0 < B) (l1 : (Big.dig A).length ≤ 100) (l2 : (Big.dig B).length ≤ 100) :
    Calls Try.prog 55 #[.agg #[.bool false, sa], .agg #[.bool false, sb]] W fun e w' => ∃ qa qn qc ra rn rc, e = .returned (.tuple #[.agg #[.bool false, .slice qa qn qc], .agg #[.bool false, .slice ra rn rc]]) ∧
      Sl w' (.slice qa qn qc) ((Big.dig (A / B)).map dcell) ∧ Sl w' (.slice ra rn rc) ((Big.dig (A % B)).map dcell) ∧ Fresh W.heap.size (.slice qa qn qc) ∧ Fresh W.heap.size (.slice ra rn rc) ∧ Mod [] W w' := by
  refine (parts_num _ _ A B W h1.nat h2.nat (by rw [Int.natAbs_natCast]; exact l1) (by rw [Int.natAbs_natCast]; exact l2) (by omega)).mono ?_
  rintro e w' ⟨qa, qn, qc, ra, rn, rc, rfl, k1, k2, k3, k4, k5⟩
  rw [← Int.natCast_ediv, Int.natAbs_natCast] at k1
  rw [← Int.natCast_emod, Int.natAbs_natCast] at k2
  refine ⟨qa, qn, qc, ra, rn, rc, ?_, k1, k2, k3, k4, k5⟩
  rw [← Int.natCast_ediv, ← Int.natCast_emod, decide_eq_false (Int.not_lt.2 (Int.natCast_nonneg _)), decide_eq_false (Int.not_lt.2 (Int.natCast_nonneg _))]

theorem natz {W : World} {v : Value} {m : Nat} (h : Sl W v ((Big.dig m).map dcell)) : NumZ W (.agg #[.bool false, v]) (m : Int) :=
  ⟨_, by rw [show decide ((m : Int) < 0) = false by simp], by rw [Int.natAbs_natCast]; exact h⟩
theorem told_law {x y : Int} {A : Nat} {bn : Bool} (hy : 0 < y) (hA : A = Nat.gcd x.natAbs y.natAbs) (hb : bn = decide (x < 0)) :
    Rat.tell x y = if x.natAbs / A ≤ 9223372036854775807 ∧ y.natAbs / A ≤ 9223372036854775807 then (Rat.sg bn (x.natAbs / A), ((y.natAbs / A : Nat) : Int), true) else (0, 0, false) := by
  unfold Rat.tell
  rw [Rat.toldR_sg, ← hA, show decide (y < 0) = false from decide_eq_false (by omega), hb]
  simp
theorem intR_nat {m : Nat} {a : Int} {b : Bool} (h : Big.intR (m : Int) = (a, b)) : b = decide (m ≤ 9223372036854775807) ∧ (m ≤ 9223372036854775807 → a = (m : Int)) := by
  unfold Big.intR at h
  rw [Int.natAbs_natCast] at h
  split at h
  · rename_i hm
    simp only [Prod.mk.injEq] at h
    obtain ⟨rfl, rfl⟩ := h
    refine ⟨?_, fun hl => IntWalk.i64_in _ (by omega)⟩
    rw [Bool.eq_iff_iff]
    simp only [decide_eq_true_eq]
    omega
  · rename_i hm
    simp only [Prod.mk.injEq] at h
    obtain ⟨rfl, rfl⟩ := h
    exact ⟨(decide_eq_false (by omega)).symm, fun hl => by omega⟩
def toldV (r : Int × Int × Bool) : Value := .tuple #[.agg #[.int .i64 r.1, .int .i64 r.2.1], .bool r.2.2]
def Rat.told (n d : Int) : Int × Int × Bool := if d = 0 then (0, 0, false) else Rat.tell n d

set_option maxHeartbeats 4000000 in
theorem told_num (u v : Value) (x y : Int) (w : World) (hu : NumZ w u x) (hv : NumZ w v y) (hx : (Big.dig x.natAbs).length ≤ 100) (hy : (Big.dig y.natAbs).length ≤ 100) :
    Calls Try.prog 34 #[u, v] w fun e w' => e = .returned (toldV (Rat.told x y)) ∧ Mod [] w w' := by
  obtain ⟨oa, n, c, rfl, hs⟩ := hu.form
  obtain ⟨ob, n2, c2, rfl, hs2⟩ := hv.form
  have hn2 : n2 = (Big.dig y.natAbs).length := by have := hs2.len; simpa using this
  have T := Lib.hid (own3 w #[.bool (decide (x < 0)), .slice oa n c] 99 #[.bool (decide (y < 0)), .slice ob n2 c2] 99 #[.int .i64 0, .int .i64 0] 51)
  have HN := Lib.hid hn2
  have HS := Lib.hid hs
  have HS2 := Lib.hid hs2
  clear hu hv hs hs2 hn2
  obtain ⟨bx, hbx⟩ : ∃ b, b = decide (x < 0) := ⟨_, rfl⟩
  obtain ⟨by', hby⟩ : ∃ b, b = decide (y < 0) := ⟨_, rfl⟩
  rw [← hbx, ← hby] at T ⊢
  have HBX := Lib.hid hbx
  have HBY := Lib.hid hby
  clear hbx hby
  by_cases hy0 : y = 0
  · have hn0 : n2 = 0 := by rw [HN.out, hy0]; simp [Big.dig_zero]
    subst hn0
    have hr : Rat.told x y = (0, 0, false) := by unfold Rat.told; rw [if_pos hy0]
    rw [hr]
    obtain ⟨p0, p1, -, -⟩ := (T.out.at 1 rfl).two
    clear hy0 hr
    have M := Lib.hid T.out.mod
    obtain ⟨q0, q1, z0, z1⟩ := (T.out.at 2 rfl).two
    go_enter Try.func34, Try.ntmps34
    go_wp2_with fail
    exact bodyPost_ret (v := toldV (0, 0, false)) (by simp [results, Try.results34, go_sem, toldV, q0, q1]) rfl ⟨rfl, M.out⟩
  · have hn0 : ((n2 : Int) == 0) = false := by
      have := Big.dig_pos (m := y.natAbs) (by omega)
      have h2 := HN.out
      rw [this] at h2
      simp at h2
      simp; omega
    have hr : Rat.told x y = Rat.tell x y := by unfold Rat.told; rw [if_neg hy0]
    rw [hr]
    obtain ⟨p0, p1, -, -⟩ := (T.out.at 1 rfl).two
    have HY0 := Lib.hid hy0
    have HX := Lib.hid hx
    have HY := Lib.hid hy
    clear hr hy0 HN hx hy
    go_enter Try.func34, Try.ntmps34
    go_upto_if 24 with fail
    go_cut [] (fun wc => ∃ na nn nc da dn dc x' y', Hid (toldS w wc w.heap.size x y na da nn nc dn dc x' y' ∧ Rat.tell x y = Rat.tell x' y'))
    case first =>
      by_cases hyn : y < 0
      · have hyb : by' = true := by rw [HBY.out]; simpa using hyn
        subst hyb
        have HYN := Lib.hid hyn
        have HZ1 : Hid (∀ W, Mod [] w W → NumZ W (.agg #[.bool bx, .slice oa n c]) x) := fun W m => by rw [HBX.out]; exact ⟨_, rfl, HS.out.mod m⟩
        have HZ2 : Hid (∀ W, Mod [] w W → NumZ W (.agg #[.bool true, .slice ob n2 c2]) y) := fun W m => by rw [HBY.out]; exact ⟨_, rfl, HS2.out.mod m⟩
        clear hyn p0 p1 hn0
        obtain ⟨q0, q1, z0, z1⟩ := (T.out.at 0 rfl).two
        go_wp2_with fail
        refine (neg_any _ x _ (HZ1.out _ T.out.mod) (by have := HX.out; omega)).mono ?_
        rintro e w1 ⟨na, nn, nc, rfl, h1, h2, m⟩
        obtain ⟨bn, hbn⟩ : ∃ b, b = decide (-x < 0) := ⟨_, rfl⟩
        rw [← hbn]
        have HBN := Lib.hid hbn
        have T1 := Lib.hid (T.out.call m)
        have A1 := Lib.hid (SlA.of T.out h1 h2)
        have T2 := Lib.hid ((T1.out.set 0 rfl 0 (.bool bn)).set 0 rfl 1 (.slice na nn nc))
        have A2 := Lib.hid ((A1.out.set (b := w.heap.size) (by simp) 0 (.bool bn)).set (b := w.heap.size) (by simp) 1 (.slice na nn nc))
        obtain ⟨p0, p1, y0, y1⟩ := (T1.out.at 0 rfl).two
        clear q0 q1 z0 z1 h1 h2 m T A1 T1 hbn
        go_upto_region 5 with fail
        generalize (w1.setCell ⟨w.heap.size, 0, none⟩ (.bool bn)).setCell ⟨w.heap.size, 1, none⟩ (.slice na nn nc) = W2 at *
        clear p0 p1 y0 y1
        obtain ⟨q0, q1, z0, z1⟩ := (T2.out.at 1 rfl).two
        go_wp2_with fail
        refine (neg_any _ y _ (HZ2.out _ T2.out.mod) (by have := HY.out; omega)).mono ?_
        rintro e w3 ⟨da, dn, dc, rfl, h1, h2, m⟩
        have hbd : decide (-y < 0) = false := decide_eq_false (by have := HYN.out; omega)
        rw [hbd]
        have T3 := Lib.hid (T2.out.call m)
        have A3 := Lib.hid (SlA.of T2.out h1 h2)
        have T4 := Lib.hid ((T3.out.set 1 rfl 0 (.bool false)).set 1 rfl 1 (.slice da dn dc))
        have A4 := Lib.hid ((A3.out.set (b := w.heap.size + 1) (by simp) 0 (.bool false)).set (b := w.heap.size + 1) (by simp) 1 (.slice da dn dc))
        have A5 := Lib.hid (((A2.out.mod m).set (b := w.heap.size + 1) (by simp) 0 (.bool false)).set (b := w.heap.size + 1) (by simp) 1 (.slice da dn dc))
        obtain ⟨p0, p1, y0, y1⟩ := (T3.out.at 1 rfl).two
        clear q0 q1 z0 z1 h1 h2 m A3 T3 hbd A2 T2
        go_wp2_with fail
        go_meet
        case rel =>
          refine ⟨na, nn, nc, da, dn, dc, -x, -y, Lib.hid ⟨⟨?_, A5.out, A4.out, by have := HYN.out; omega, Int.natAbs_neg _, Int.natAbs_neg _⟩, ?_⟩⟩
          · have := T4.out
            rw [HBN.out] at this
            exact this
          · have := HYN.out
            exact Rat.tell_same (by omega) (by omega) (by rw [Int.mul_neg, Int.neg_mul])
      · have hyb : by' = false := by rw [HBY.out]; simpa using hyn
        subst hyb
        have HYN := Lib.hid hyn
        clear hyn p0 p1 hn0
        go_wp2_with fail
        go_meet
        case rel =>
          refine ⟨oa, n, c, ob, n2, c2, x, y, Lib.hid ⟨⟨?_, ?_, ?_, by have := HYN.out; have := HY0.out; omega, rfl, rfl⟩, rfl⟩⟩
          · rw [← HBX.out]; exact T.out
          · exact SlA.old T.out HS.out
          · exact SlA.old T.out HS2.out
    case rest =>
      obtain ⟨na, nn, nc, da, dn, dc, x', y', HC⟩ := hcut
      clear T HS HS2 HBX HBY
      have HTE := Lib.hid HC.out.2
      obtain ⟨T0, a1, a2, hy1, e1, e2⟩ := HC.out.1
      have T := Lib.hid T0
      have A1 := Lib.hid a1
      have A2 := Lib.hid a2
      have HXL : Hid ((Big.dig x'.natAbs).length ≤ 100) := by rw [e1]; exact HX.out
      have HYL : Hid ((Big.dig y'.natAbs).length ≤ 100) := by rw [e2]; exact HY.out
      have HY1 := Lib.hid hy1
      clear HC T0 e1 e2 HX HY HY0 a1 a2 hy1 p0 p1 hn0
      obtain ⟨p0, p1, -, -⟩ := (T.out.at 0 rfl).two
      go_wp2_with fail
      refine (whole_nat A1.out.1 (by have := HXL.out; omega) (Big.digits_dig _)).mono ?_
      rintro e w1 ⟨aa, an, ac, rfl, h1, h2, m⟩
      rw [Big.val_dig] at h1
      have T1 := Lib.hid (T.out.call m)
      have B1 := Lib.hid ((A1.out.mod m).alloc (.cells #[.bool false, .slice aa an ac] 99))
      have B2 := Lib.hid ((A2.out.mod m).alloc (.cells #[.bool false, .slice aa an ac] 99))
      have B3 := Lib.hid ((SlA.of T.out h1 h2).alloc (.cells #[.bool false, .slice aa an ac] 99))
      have T2 := Lib.hid (T1.out.alloc #[.bool false, .slice aa an ac] 99)
      clear A1 A2 T1 T p0 p1 h1 h2 m
      go_upto_region 7 with fail
      generalize w1.alloc (.cells #[.bool false, .slice aa an ac] 99) = W2 at *
      obtain ⟨p0, p1, -, -⟩ := (T2.out.at 1 rfl).two
      have T3 := Lib.hid (T2.out.alloc #[.bool false, .slice da dn dc] 99)
      have C1 := Lib.hid (B1.out.alloc (.cells #[.bool false, .slice da dn dc] 99))
      have C2 := Lib.hid (B2.out.alloc (.cells #[.bool false, .slice da dn dc] 99))
      have C3 := Lib.hid (B3.out.alloc (.cells #[.bool false, .slice da dn dc] 99))
      clear T2 B1 B2 B3
      have HG : Hid (GState w w1.heap.size W2.heap.size (decide (x' < 0)) (.slice na nn nc) (.slice da dn dc) x'.natAbs y'.natAbs (W2.alloc (.cells #[.bool false, .slice da dn dc] 99)) y'.natAbs) :=
        ⟨x'.natAbs, aa, an, ac, da, dn, dc, T3.out, C1.out, C2.out, C3.out, C2.out, rfl, HXL.out, HYL.out⟩
      clear T3 C1 C2 C3
      obtain ⟨bn, hbn⟩ : ∃ b, b = decide (x' < 0) := ⟨_, rfl⟩
      rw [← hbn] at HG
      have HBN := Lib.hid hbn
      clear hbn
      go_wp2_with fail
      generalize W2.heap.size = bb at *
      generalize W2.alloc (.cells #[.bool false, .slice da dn dc] 99) = W3 at *
      clear p0 p1
      go_loopg [] y'.natAbs (fun k wr => ∃ B, B ≤ k ∧ Hid (GState w w1.heap.size bb bn (.slice na nn nc) (.slice da dn dc) x'.natAbs y'.natAbs wr B))
      case atStart => exact ⟨_, Nat.le_refl _, HG.out⟩
      case round =>
        obtain ⟨B, hBk, HP⟩ := hrel
        clear HG
        obtain ⟨A, aa, an, ac, ca, cn, cc, T0, a1, a2, a3, a4, hg, lA, lB⟩ := HP.out
        have T := Lib.hid T0
        have A1 := Lib.hid a1
        have A2 := Lib.hid a2
        have A3 := Lib.hid a3
        have A4 := Lib.hid a4
        have HGC := Lib.hid hg
        have HL := Lib.hid (And.intro lA lB)
        clear HP T0 a1 a2 a3 a4 hg lA lB
        obtain ⟨p0, p1, -, -⟩ := (T.out.at 4 rfl).two
        have hcn := A4.out.dlen
        rcases Nat.eq_zero_or_pos B with hB0 | hB0
        · subst hB0
          rw [Big.dig_zero] at hcn
          subst hcn
          have hgcd : A = Nat.gcd x'.natAbs y'.natAbs := by have := HGC.out; rwa [Nat.gcd_zero_right] at this
          have hA0 : 0 < A := by rw [hgcd]; exact Nat.gcd_pos_of_pos_right _ (by have := HY1.out; omega)
          have HW := Lib.hid (fun W (m : Mod [] wr W) => (whole_nat (A1.out.1.mod m) (by have := HXL.out; omega) (Big.digits_dig _)).mono fun e w' (h : NatPost _ W e w') => natV_post (by rw [Big.val_dig]) h)
          have HPa := Lib.hid (fun W sv (m : Mod [] wr W) (h : Sl W sv ((Big.dig x'.natAbs).map dcell)) => parts_nat (bl := []) ⟨h, by simp⟩ ⟨A3.out.1.mod m, by simp⟩ hA0 HXL.out HL.out.1)
          have HGD := Lib.hid hgcd
          clear hgcd hBk
          go_upto_region 12 with fail
          clear p0 p1
          have A0 := (T.out.at 0 rfl).every
          have A3' := (T.out.at 3 rfl).every
          refine Ch.wp_region_chain [(7, 6), (10, 7)] ?l'1 10 [true, true, false, true, false, false, false, false, false, false] [(2, NatV x'.natAbs), (4, PartV (x'.natAbs / A) (x'.natAbs % A)), (5, PartV (x'.natAbs / A) (x'.natAbs % A)), (6, NatV (x'.natAbs / A)), (7, NatV (x'.natAbs % A))] [(8, NewBlk (wr.heap.size) (#[.bool false, .slice none 0 0]) 99), (9, NewBlk (wr.heap.size) (#[.bool false, .slice none 0 0]) 99)] (by kernel_rfl) ?hl1 ?hB1 ?hT1 ?hsl1 ?hAl1 ?hQ1 ?main1
          case hl1 => simp only [Ch.waitsFor, waitFor, List.modify_succ_cons, List.modify_zero_cons]; exact rfl
          case hB1 => kernel_rfl
          case hT1 => simp [NatV.stays, NewBlk.stays, PartV.stays]
          case hsl1 => kernel_rfl
          case hAl1 => (intro i hi; simp only [List.map_cons, List.map_nil, List.mem_cons, List.not_mem_nil, or_false] at hi; rcases hi with rfl | rfl <;> (intro o ho; obtain rfl := Option.some.inj ho; first | exact ⟨#[.bool false, .slice none 0 0], 99, fun ρ w => by go_simp⟩))
          case hQ1 => (intro _ _ d _ _ h; cases d <;> exact h)
          simp only [pickM]
          refine steady_go (a' := ?_) (by kernel_rfl) ?_ (fun w' hw' K Q hK => ?_) ?_
          rotate_left 2
          · go_wp2_with fail; exact hK _ (Mod.refl _ _)
          rotate_left
          · rfl
          refine steady_go (a' := ?_) (by kernel_rfl) ?_ (fun w' hw' K Q hK => ?_) ?_
          rotate_left 2
          · go_wp2_with fail; exact hK _ (Mod.refl _ _)
          rotate_left
          · rfl
          refine steady_go (a' := ?_) (by kernel_rfl) ?_ (fun w' hw' K Q hK => ?_) ?_
          rotate_left 2
          · go_wp2_with fail; exact hK _ (Mod.refl _ _)
          rotate_left
          · rfl
          refine steady_done ?_
          refine Ch.chain_go (f := ?_) rfl rfl (fun v => by simp only [Act.put]; (try simp only [List.setIfInBounds_toArray]); (try simp only [List.set_cons_succ, List.set_cons_zero]); exact rfl) (fun w' hw' hF K Q hK => ?_) (fun kv1 => ?_)
          · clear hF
            go_wp2_with fail
            refine (HW.out _ hw').mono ?_
            rintro e w'' ⟨v, rfl, hv, mm⟩
            go_wp2_with fail
            exact hK _ _ mm hv
          refine Ch.chain_go (f := ?_) rfl rfl (fun v => by simp only [Act.put]; (try simp only [List.setIfInBounds_toArray]); (try simp only [List.set_cons_succ, List.set_cons_zero]); exact rfl) (fun w' hw' hF K Q hK => ?_) (fun kv2 => ?_)
          · refine NatV.elim (hF.2) (fun pa pn pc he hp => ?_)
            subst he; clear hF
            go_wp2_with fail
            refine ((HPa.out _ _ hw' hp).mono fun e w' h => partV_post h).mono ?_
            rintro e w'' ⟨v, rfl, hv, mm⟩
            go_wp2_with fail
            exact hK _ _ mm hv
          refine Ch.chain_go (f := ?_) rfl rfl (fun v => by simp only [Act.put]; (try simp only [List.setIfInBounds_toArray]); (try simp only [List.set_cons_succ, List.set_cons_zero]); exact rfl) (fun w' hw' hF K Q hK => ?_) (fun kv3 => ?_)
          · refine PartV.elim (hF.2) (fun oa n c ob n2 c2 he k1 k2 => ?_)
            subst he; clear hF
            go_wp2_with fail
            exact hK _ _ (Mod.refl _ _) ⟨oa, n, c, ob, n2, c2, rfl, k1, k2⟩
          refine Ch.chain_go (f := ?_) rfl rfl (fun v => by simp only [Act.put]; (try simp only [List.setIfInBounds_toArray]); (try simp only [List.set_cons_succ, List.set_cons_zero]); exact rfl) (fun w' hw' hF K Q hK => ?_) (fun kv4 => ?_)
          · refine PartV.elim (hF.2) (fun oa n c ob n2 c2 he k1 k2 => ?_)
            subst he; clear hF
            go_wp2_with fail
            exact hK _ _ (Mod.refl _ _) ⟨oa, n, c, rfl, k1⟩
          refine Ch.chain_go (f := ?_) rfl rfl (fun v => by simp only [Act.put]; (try simp only [List.setIfInBounds_toArray]); (try simp only [List.set_cons_succ, List.set_cons_zero]); exact rfl) (fun w' hw' hF K Q hK => ?_) (fun kv5 => ?_)
          · refine PartV.elim (hF.1.2) (fun oa n c ob n2 c2 he k1 k2 => ?_)
            subst he; clear hF
            go_wp2_with fail
            exact hK _ _ (Mod.refl _ _) ⟨ob, n2, c2, rfl, k2⟩
          refine Ch.chain_end ?_
          refine Ch.lates_cons rfl rfl (late_alloc ?_) (fun v8 => ?_)
          · intro w'; go_simp
          refine Ch.lates_cons rfl rfl (late_alloc ?_) (fun v9 => ?_)
          · intro w'; go_simp
          refine lates_end (fun hD w' hw' hF => ?_)
          simp only [List.drop_succ_cons, List.drop_zero]
          refine NewBlk.elim hF.2 (fun b9 he9 hb9 B9 => ?_)
          refine NewBlk.elim hF.1.2 (fun b8 he8 hb8 B8 => ?_)
          refine NatV.elim hF.1.1.2 (fun ra rn rc he7 hr => ?_)
          refine NatV.elim hF.1.1.1.2 (fun pa pn pc he6 hp => ?_)
          clear hF
          subst he9 he8 he7 he6
          have hne : b8 ≠ b9 := fun he => hD.1 9 (by simp) (by subst he; kernel_rfl)
          clear hD
          obtain ⟨c0, c1, z0, z1⟩ := B8.two
          obtain ⟨d0, d1, y0, y1⟩ := B9.two
          have HT := Lib.hid (two_boxes hw' hb8 hb9 hne B8 B9 hp (ra := ra) (rn := rn) (rc := rc) (x := false) (y := false))
          have hne' := hne.symm
          clear A0 A3' B8 B9 hp hr hw' hb8 hb9
          go_upto_region 13 with fail
          clear c0 c1 z0 z1 d0 d1 y0 y1 hne hne'
          obtain ⟨M8, B8, hp⟩ := HT.out
          have HM8 := Lib.hid M8
          have HB8 := Lib.hid B8
          have HP8 := Lib.hid hp
          clear HT M8 B8 hp
          generalize (((w'.setCell ⟨b8, 0, none⟩ (.bool false)).setCell ⟨b8, 1, none⟩ (.slice pa pn pc)).setCell ⟨b9, 0, none⟩ (.bool false)).setCell ⟨b9, 1, none⟩ (.slice ra rn rc) = W8 at *
          have T8 := Lib.hid (T.out.call HM8.out)
          have HPb := Lib.hid (parts_nat (bl := []) ⟨A2.out.1.mod HM8.out, by simp⟩ ⟨A3.out.1.mod HM8.out, by simp⟩ hA0 HYL.out HL.out.1)
          clear T A1 A2 A3 A4 HM8 HW HPa
          obtain ⟨p0, p1, -, -⟩ := (T8.out.at 1 rfl).two
          obtain ⟨q0, q1, -, -⟩ := (T8.out.at 3 rfl).two
          go_wp2_with fail
          refine HPb.out.mono ?_
          rintro e wq ⟨qa, qn, qc, ra', rn', rc', rfl, h1, h2, f1, f2, m⟩
          have T9 := Lib.hid ((T8.out.call m).two_more #[.bool false, .slice qa qn qc] 99 #[.bool false, .slice ra' rn' rc'] 99)
          have B9 := Lib.hid (((HB8.out.kept m (by simp)).alloc (.cells #[.bool false, .slice qa qn qc] 99)).alloc (.cells #[.bool false, .slice ra' rn' rc'] 99))
          have P9 := Lib.hid (HP8.out.mod ((m.alloc (.cells #[.bool false, .slice qa qn qc] 99)).alloc (.cells #[.bool false, .slice ra' rn' rc'] 99)))
          have Q9 := Lib.hid (h1.mod (((Mod.refl [] wq).alloc (.cells #[.bool false, .slice qa qn qc] 99)).alloc (.cells #[.bool false, .slice ra' rn' rc'] 99)))
          clear T8 HB8 HP8 h1 h2 f1 f2 m p0 p1 q0 q1 HPb
          go_upto_region 14 with fail
          generalize (wq.alloc (.cells #[.bool false, .slice qa qn qc] 99)).alloc (.cells #[.bool false, .slice ra' rn' rc'] 99) = W9 at *
          generalize wq.heap.size = b10 at *
          have HTL := Lib.hid (told_law HY1.out HGD.out HBN.out)
          have lP : (Big.dig (x'.natAbs / A)).length ≤ 100 := Nat.le_trans (Big.dig_length_mono (Nat.div_le_self _ _)) HXL.out
          have lQ : (Big.dig (y'.natAbs / A)).length ≤ 100 := Nat.le_trans (Big.dig_length_mono (Nat.div_le_self _ _)) HYL.out
          generalize x'.natAbs / A = PP at *
          generalize y'.natAbs / A = QQ at *
          have HI1 := Lib.hid (fun W (m : Mod [] W9 W) => int_num (.agg #[.bool false, .slice pa pn pc]) (PP : Int) W (natz (P9.out.mod m)) (by rw [Int.natAbs_natCast]; omega))
          have HI2 := Lib.hid (fun W (m : Mod [] W9 W) => int_num (.agg #[.bool false, .slice qa qn qc]) (QQ : Int) W (natz (Q9.out.mod m)) (by rw [Int.natAbs_natCast]; omega))
          clear P9 Q9 lP lQ HGD HBN HXL HYL HY1 HGC HL hA0
          obtain ⟨p0, p1, -, -⟩ := B9.out.two
          go_wp2_with fail
          refine (HI1.out _ (Mod.refl _ _)).mono ?_
          rintro e wi ⟨rfl, mi⟩
          have T10 := Lib.hid (T9.out.call mi)
          have MI := Lib.hid mi
          clear mi p0 p1 B9 T9 HI1
          obtain ⟨p0, p1, -, -⟩ := (T10.out.at 5 rfl).two
          generalize hi1 : Big.intR (PP : Int) = i1
          have HI3 := Lib.hid hi1
          obtain ⟨i1a, i1b⟩ := i1
          clear hi1
          go_wp2_with fail
          refine (HI2.out _ MI.out).mono ?_
          rintro e wj ⟨rfl, mi⟩
          have T11 := Lib.hid (T10.out.call mi)
          clear mi p0 p1 T10 HI2 MI
          generalize hi2 : Big.intR (QQ : Int) = i2
          have HI4 := Lib.hid hi2
          obtain ⟨i2a, i2b⟩ := i2
          clear hi2
          obtain ⟨p0, p1, z0, z1⟩ := (T11.out.at 2 rfl).two
          obtain ⟨q0, q1, -, -⟩ := (T11.out.at 0 rfl).two
          go_upto_region 16 with fail
          have HJ1 := Lib.hid (intR_nat HI3.out)
          have HJ2 := Lib.hid (intR_nat HI4.out)
          clear HI3 HI4
          by_cases hP : PP ≤ 9223372036854775807
          · obtain rfl : i1b = true := by rw [HJ1.out.1]; exact decide_eq_true hP
            obtain rfl : i1a = (PP : Int) := HJ1.out.2 hP
            by_cases hQ : QQ ≤ 9223372036854775807
            · obtain rfl : i2b = true := by rw [HJ2.out.1]; exact decide_eq_true hQ
              obtain rfl : i2a = (QQ : Int) := HJ2.out.2 hQ
              have HR : Hid (Rat.tell x y = (Rat.sg bn PP, (QQ : Int), true)) := Lib.hid (by rw [HTE.out, HTL.out, if_pos ⟨hP, hQ⟩])
              have e1 : IntKind.i64.wrap (-(PP : Int)) = -(PP : Int) := IntWalk.i64_in _ (by omega)
              clear HTE HTL HJ1 HJ2 hP hQ
              cases bn
              · go_wp2_with fail
                obtain ⟨r0, r1, M⟩ := told_end T11.out 2 rfl (.int .i64 (PP : Int)) (.int .i64 (QQ : Int))
                have HM := Lib.hid M
                clear M p0 p1 z0 z1 q0 q1
                generalize (wj.setCell ⟨w.heap.size + 1 + 1, 0, none⟩ (.int .i64 (PP : Int))).setCell ⟨w.heap.size + 1 + 1, 1, none⟩ (.int .i64 (QQ : Int)) = W12 at *
                exact bodyPost_ret (v := toldV ((PP : Int), (QQ : Int), true)) (by simp [results, Try.results34, go_sem, toldV, r0, r1]) rfl ⟨(by rw [HR.out]; try rfl), HM.out⟩
              · go_wp2_with fail
                obtain ⟨r0, r1, M⟩ := told_end T11.out 2 rfl (.int .i64 (-(PP : Int))) (.int .i64 (QQ : Int))
                have HM := Lib.hid M
                clear M p0 p1 z0 z1 q0 q1
                generalize (wj.setCell ⟨w.heap.size + 1 + 1, 0, none⟩ (.int .i64 (-(PP : Int)))).setCell ⟨w.heap.size + 1 + 1, 1, none⟩ (.int .i64 (QQ : Int)) = W12 at *
                exact bodyPost_ret (v := toldV (-(PP : Int), (QQ : Int), true)) (by simp [results, Try.results34, go_sem, toldV, r0, r1]) rfl ⟨(by rw [HR.out]; try rfl), HM.out⟩
            · obtain rfl : i2b = false := by rw [HJ2.out.1]; exact decide_eq_false hQ
              have HR : Hid (Rat.tell x y = (0, 0, false)) := Lib.hid (by rw [HTE.out, HTL.out, if_neg (fun h => hQ h.2)])
              clear HTE HTL HJ1 HJ2 hP hQ
              go_wp2_with fail
              obtain ⟨r0, r1, M⟩ := told_end T11.out 2 rfl (.int .i64 0) (.int .i64 0)
              have HM := Lib.hid M
              clear M p0 p1 z0 z1 q0 q1
              generalize (wj.setCell ⟨w.heap.size + 1 + 1, 0, none⟩ (.int .i64 0)).setCell ⟨w.heap.size + 1 + 1, 1, none⟩ (.int .i64 0) = W12 at *
              exact bodyPost_ret (v := toldV (0, 0, false)) (by simp [results, Try.results34, go_sem, toldV, r0, r1]) rfl ⟨(by rw [HR.out]; try rfl), HM.out⟩
          · obtain rfl : i1b = false := by rw [HJ1.out.1]; exact decide_eq_false hP
            have HR : Hid (Rat.tell x y = (0, 0, false)) := Lib.hid (by rw [HTE.out, HTL.out, if_neg (fun h => hP h.1)])
            clear HTE HTL HJ1 HJ2 hP
            go_wp2_with fail
            obtain ⟨r0, r1, M⟩ := told_end T11.out 2 rfl (.int .i64 0) (.int .i64 0)
            have HM := Lib.hid M
            clear M p0 p1 z0 z1 q0 q1
            generalize (wj.setCell ⟨w.heap.size + 1 + 1, 0, none⟩ (.int .i64 0)).setCell ⟨w.heap.size + 1 + 1, 1, none⟩ (.int .i64 0) = W12 at *
            exact bodyPost_ret (v := toldV (0, 0, false)) (by simp [results, Try.results34, go_sem, toldV, r0, r1]) rfl ⟨(by rw [HR.out]; try rfl), HM.out⟩
        · have hc0 : 0 < cn := by
            rw [Big.dig_pos hB0] at hcn
            simp at hcn
            omega
          have hBL := Lib.hid (Big.dig_length_mono (Nat.le_of_lt (Nat.mod_lt A hB0)))
          have HPA := Lib.hid (parts_nat A3.out A4.out hB0 HL.out.1 HL.out.2)
          obtain ⟨q0, q1, z0, z1⟩ := (T.out.at 3 rfl).two
          have HB := Lib.hid (And.intro hB0 hBk)
          clear hcn hB0 hBk
          go_wp2_with fail
          refine HPA.out.mono ?_
          rintro e w4 ⟨qa, qn, qc, ra, rn, rc, rfl, h1, h2, f1, f2, m⟩
          have T4 := Lib.hid (T.out.call m)
          have D1 := Lib.hid (A1.out.mod m)
          have D2 := Lib.hid (A2.out.mod m)
          have D4 := Lib.hid (A4.out.mod m)
          have D5 := Lib.hid (SlA.of T.out h2 f2)
          clear h1 h2 f1 f2 m T A1 A2 A3 A4 q0 q1 z0 z1 p0 p1 HPA
          have T5 := Lib.hid (T4.out.two_more #[.bool false, .slice qa qn qc] 99 #[.bool false, .slice ra rn rc] 99)
          have E1 := Lib.hid (D1.out.two_more (.cells #[.bool false, .slice qa qn qc] 99) (.cells #[.bool false, .slice ra rn rc] 99))
          have E2 := Lib.hid (D2.out.two_more (.cells #[.bool false, .slice qa qn qc] 99) (.cells #[.bool false, .slice ra rn rc] 99))
          have E4 := Lib.hid (D4.out.two_more (.cells #[.bool false, .slice qa qn qc] 99) (.cells #[.bool false, .slice ra rn rc] 99))
          have E5 := Lib.hid (D5.out.two_more (.cells #[.bool false, .slice qa qn qc] 99) (.cells #[.bool false, .slice ra rn rc] 99))
          clear T4 D1 D2 D4 D5
          go_upto_region 10 with fail
          generalize (w4.alloc (.cells #[.bool false, .slice qa qn qc] 99)).alloc (.cells #[.bool false, .slice ra rn rc] 99) = W5 at *
          generalize w4.heap.size = b8 at *
          have T6 := Lib.hid ((T5.out.set 3 rfl 0 (.bool false)).set 3 rfl 1 (.slice ca cn cc))
          have F1 := Lib.hid ((E1.out.set (b := w1.heap.size) (by simp) 0 (.bool false)).set (b := w1.heap.size) (by simp) 1 (.slice ca cn cc))
          have F2 := Lib.hid ((E2.out.set (b := w1.heap.size) (by simp) 0 (.bool false)).set (b := w1.heap.size) (by simp) 1 (.slice ca cn cc))
          have F4 := Lib.hid ((E4.out.set (b := w1.heap.size) (by simp) 0 (.bool false)).set (b := w1.heap.size) (by simp) 1 (.slice ca cn cc))
          have F5 := Lib.hid ((E5.out.set (b := w1.heap.size) (by simp [gList]) 0 (.bool false)).set (b := w1.heap.size) (by simp [gList]) 1 (.slice ca cn cc))
          obtain ⟨q0, q1, -, -⟩ := (T5.out.at 4 rfl).two
          obtain ⟨p0, p1, z0, z1⟩ := (T5.out.at 3 rfl).two
          clear T5 E1 E2 E4 E5
          go_upto_region 11 with fail
          generalize (W5.setCell ⟨w1.heap.size, 0, none⟩ (.bool false)).setCell ⟨w1.heap.size, 1, none⟩ (.slice ca cn cc) = W6 at *
          clear q0 q1 p0 p1 z0 z1
          have T7 := Lib.hid ((T6.out.set 4 rfl 0 (.bool false)).set 4 rfl 1 (.slice ra rn rc))
          have G1 := Lib.hid ((F1.out.set (b := bb) (by simp) 0 (.bool false)).set (b := bb) (by simp) 1 (.slice ra rn rc))
          have G2 := Lib.hid ((F2.out.set (b := bb) (by simp) 0 (.bool false)).set (b := bb) (by simp) 1 (.slice ra rn rc))
          have G4 := Lib.hid ((F4.out.set (b := bb) (by simp) 0 (.bool false)).set (b := bb) (by simp) 1 (.slice ra rn rc))
          have G5 := Lib.hid ((F5.out.set (b := bb) (by simp [gList]) 0 (.bool false)).set (b := bb) (by simp [gList]) 1 (.slice ra rn rc))
          obtain ⟨q0, q1, -, -⟩ := (T6.out.at 6 rfl).two
          obtain ⟨p0, p1, z0, z1⟩ := (T6.out.at 4 rfl).two
          clear T6 F1 F2 F4 F5
          go_wp2_with fail
          have hlt := Nat.mod_lt A HB.out.1
          go_roundg (A % B)
          case measure => have := HB.out.2; omega
          case rel =>
            exact ⟨A % B, Nat.le_refl _, B, ca, cn, cc, ra, rn, rc, Own.left (l' := [(b8, #[.bool false, .slice qa qn qc], 99), (b8 + 1, #[.bool false, .slice ra rn rc], 99)]) T7.out, G1.out, G2.out, G4.out, G5.out, by rw [← HGC.out, Nat.gcd_comm A B, Nat.gcd_rec B A, Nat.gcd_comm], HL.out.2, Nat.le_trans hBL.out HL.out.2⟩
end Go.Proofs.Ytngeijdfpgmcfaa
