/- The reference's Parts. -/
import Derived.Test.YtngeijdfpgmcfaaBigTimes
import Derived.Test.YtngeijdfpgmcfaaBigInt
import Derived.Test.YtngeijdfpgmcfaaBigParts0
import Derived.Outline
import Derived.Deep.RegionHeld3
import Derived.Deep.RegionWith
namespace Go.Proofs.Ytngeijdfpgmcfaa
open Go.RowKit
set_option maxRecDepth 100000
set_option linter.unusedVariables false

theorem own6 (w : World) (c1 : Array Value) (t1 : TypeId) (c2 : Array Value) (t2 : TypeId) (c3 : Array Value) (t3 : TypeId) (c4 : Array Value) (t4 : TypeId) (c5 : Array Value) (t5 : TypeId) (c6 : Array Value) (t6 : TypeId) :
    Own w ((((((w.alloc (.cells c1 t1)).alloc (.cells c2 t2)).alloc (.cells c3 t3)).alloc (.cells c4 t4)).alloc (.cells c5 t5)).alloc (.cells c6 t6))
      [(w.heap.size, c1, t1), (w.heap.size + 1, c2, t2), (w.heap.size + 1 + 1, c3, t3), (w.heap.size + 1 + 1 + 1, c4, t4), (w.heap.size + 1 + 1 + 1 + 1, c5, t5), (w.heap.size + 1 + 1 + 1 + 1 + 1, c6, t6)] := by
  have := ((own4 w c1 t1 c2 t2 c3 t3 c4 t4).alloc c5 t5).alloc c6 t6
  simpa using this
theorem Sl.nil (w : World) : Sl w (.slice none 0 0) ((Big.dig 0).map dcell) := .inl ⟨rfl, by rw [Big.dig_zero]; rfl⟩
theorem Fresh.nil (b : Nat) : Fresh b (.slice none 0 0) := fun k hk => by simp [Value.ownBlock] at hk
/-- A box that holds a number, not below 0; its digits lie from block base on. -/
def NatBox (base : Nat) (wr : World) (oa : Option Addr) (n c m : Nat) : Prop := Sl wr (.slice oa n c) ((Big.dig m).map dcell) ∧ Fresh base (.slice oa n c)
theorem NatBox.mod {base : Nat} {w w' : World} {oa : Option Addr} {n c m : Nat} (h : NatBox base w oa n c m) (hm : Mod [] w w') : NatBox base w' oa n c m := ⟨h.1.mod hm, h.2⟩
theorem NatBox.set {base : Nat} {w : World} {oa : Option Addr} {n c m : Nat} (h : NatBox base w oa n c m) {b : Nat} (hb : b < base) (u v : Value) : NatBox base ((w.setCell ⟨b, 0, none⟩ u).setCell ⟨b, 1, none⟩ v) oa n c m :=
  ⟨(h.1.set h.2 hb _).set h.2 hb _, h.2⟩
theorem NatBox.numz {base : Nat} {w : World} {oa : Option Addr} {n c m : Nat} (h : NatBox base w oa n c m) : NumZ w (.agg #[.bool false, .slice oa n c]) (m : Int) := by
  refine ⟨_, ?_, by rw [Int.natAbs_natCast]; exact h.1⟩
  rw [show decide ((m : Int) < 0) = false by simp]

theorem box_put {w W W1 : World} {l : List (Nat × Array Value × TypeId)} {k b : Nat} {x y : Value} {t : TypeId} {oa : Option Addr} {n c m base : Nat} (T : Own w W l) (hk : l[k]? = some (b, #[x, y], t)) (mm : Mod [] W W1)
    (h1 : Sl W1 (.slice oa n c) ((Big.dig m).map dcell)) (h2 : Fresh W.heap.size (.slice oa n c)) (hbase : base ≤ W.heap.size) :
    Own w ((W1.setCell ⟨b, 0, none⟩ (.bool false)).setCell ⟨b, 1, none⟩ (.slice oa n c)) (l.set k (b, #[.bool false, .slice oa n c], t)) ∧ NatBox base ((W1.setCell ⟨b, 0, none⟩ (.bool false)).setCell ⟨b, 1, none⟩ (.slice oa n c)) oa n c m := by
  have hkl : k < l.length := (List.getElem?_eq_some_iff.1 hk).1
  have hb : b < W.heap.size := T.lt k hk
  refine ⟨?_, (h1.set h2 hb _).set h2 hb _, h2.le hbase⟩
  have h3 := ((T.call mm).set k hk 0 (.bool false)).set k (by rw [List.getElem?_set_self hkl]) 1 (.slice oa n c)
  rw [List.set_set] at h3
  exact h3

def NatPost (m : Nat) (w : World) (e : Ending) (w' : World) : Prop := ∃ oa n c, e = .returned (.agg #[.bool false, .slice oa n c]) ∧ Sl w' (.slice oa n c) ((Big.dig m).map dcell) ∧ Fresh w.heap.size (.slice oa n c) ∧ Mod [] w w'
theorem nat_post {z : Int} {m : Nat} (hz : z = (m : Int)) {w w' : World} {e : Ending} (h : NumPost z w e w') : NatPost m w e w' := by
  subst hz
  obtain ⟨oa, n, c, h1, h2, h3, h4⟩ := h
  rw [show decide ((m : Int) < 0) = false by simp] at h1
  exact ⟨oa, n, c, h1, by rw [Int.natAbs_natCast] at h2; exact h2, h3, h4⟩
theorem plus_nat {base : Nat} {w : World} {oa ob : Option Addr} {n c n2 c2 m1 m2 : Nat} (h1 : NatBox base w oa n c m1) (h2 : NatBox base w ob n2 c2 m2) (l1 : (Big.dig m1).length ≤ 1000) (l2 : (Big.dig m2).length ≤ 1000) :
    Calls Try.prog 69 #[.agg #[.bool false, .slice oa n c], .agg #[.bool false, .slice ob n2 c2]] w (NatPost (m1 + m2) w) :=
  (plus_num _ _ _ _ w h1.numz h2.numz (by rw [Int.natAbs_natCast]; omega) (by rw [Int.natAbs_natCast]; omega)).mono fun e w' h => nat_post (by omega) h
theorem whole_nat {w : World} {s : Value} {ds : List Nat} (h : Sl w s (ds.map dcell)) (hl : ds.length ≤ 3000) (hd : Big.Digits ds) : Calls Try.prog 54 #[.bool false, s] w (NatPost (Big.val ds) w) :=
  (whole_any false s ds w h hl hd).mono fun e w' h => nat_post rfl h

/-- The blocks of Parts. -/
def pList (h b1 : Nat) (ca cb cq cr c1 : Array Value) : List (Nat × Array Value × TypeId) :=
  [(h, ca, 99), (h + 1, cb, 99), (h + 1 + 1, #[.bool false, .slice none 0 0], 99), (h + 1 + 1 + 1, #[.bool false, .slice none 0 0], 99), (h + 1 + 1 + 1 + 1, cq, 99), (h + 1 + 1 + 1 + 1 + 1, cr, 99), (b1, c1, 99)]
/-- The state between the rounds. -/
def PState (w : World) (b1 : Nat) (ca cb : Array Value) (A D : Nat) (wr : World) (k : Nat) : Prop :=
  ∃ q r qa qn qc ra rn rc oa n c, Own w wr (pList w.heap.size b1 ca cb #[.bool false, .slice qa qn qc] #[.bool false, .slice ra rn rc] #[.bool false, .slice oa n c]) ∧
    NatBox (w.heap.size + 1 + 1 + 1 + 1 + 1 + 1) wr qa qn qc q ∧ NatBox (w.heap.size + 1 + 1 + 1 + 1 + 1 + 1) wr ra rn rc r ∧ NatBox (w.heap.size + 1 + 1 + 1 + 1 + 1 + 1) wr oa n c 1 ∧ Big.PSt A D k q r

theorem parts_ret {w W : World} {b1 : Nat} {ca cb cq cr c1 : Array Value} {qa ra : Option Addr} {qn qc rn rc : Nat} {cs ds : List Value} (TT : Own w W (pList w.heap.size b1 ca cb cq cr c1)) (hq : Sl W (.slice qa qn qc) cs) (fq : Fresh (w.heap.size + 1 + 1 + 1 + 1 + 1 + 1) (.slice qa qn qc)) (hr : Sl W (.slice ra rn rc) ds) (fr : Fresh (w.heap.size + 1 + 1 + 1 + 1 + 1 + 1) (.slice ra rn rc)) (u v : Value) :
    let W' := ((((W.setCell ⟨w.heap.size + 1 + 1, 0, none⟩ u).setCell ⟨w.heap.size + 1 + 1, 1, none⟩ (.slice qa qn qc)).setCell ⟨w.heap.size + 1 + 1 + 1, 0, none⟩ v).setCell ⟨w.heap.size + 1 + 1 + 1, 1, none⟩ (.slice ra rn rc))
    (W'.cell? ⟨w.heap.size + 1 + 1, 0, none⟩ = some u ∧ W'.cell? ⟨w.heap.size + 1 + 1, 1, none⟩ = some (.slice qa qn qc) ∧ W'.cell? ⟨w.heap.size + 1 + 1 + 1, 0, none⟩ = some v ∧ W'.cell? ⟨w.heap.size + 1 + 1 + 1, 1, none⟩ = some (.slice ra rn rc)) ∧
    Sl W' (.slice qa qn qc) cs ∧ Sl W' (.slice ra rn rc) ds ∧ Fresh w.heap.size (.slice qa qn qc) ∧ Fresh w.heap.size (.slice ra rn rc) ∧ Mod [] w W' := by
  have T2 := (((TT.set 2 rfl 0 u).set 2 rfl 1 (.slice qa qn qc)).set 3 rfl 0 v).set 3 rfl 1 (.slice ra rn rc)
  obtain ⟨a0, a1, -, -⟩ := (T2.at 2 rfl).two
  obtain ⟨b0, b1, -, -⟩ := (T2.at 3 rfl).two
  have k2 : w.heap.size + 1 + 1 < w.heap.size + 1 + 1 + 1 + 1 + 1 + 1 := by omega
  have k3 : w.heap.size + 1 + 1 + 1 < w.heap.size + 1 + 1 + 1 + 1 + 1 + 1 := by omega
  exact ⟨⟨a0, a1, b0, b1⟩, (((hq.set fq k2 _).set fq k2 _).set fq k3 _).set fq k3 _, (((hr.set fr k2 _).set fr k2 _).set fr k3 _).set fr k3 _, fq.le (by omega), fr.le (by omega), T2.mod⟩
theorem parts_drew {w W : World} {u v : Value} {c1 c2 : List Value} (h : Sl W u c1 ∧ Sl W v c2 ∧ Fresh w.heap.size u ∧ Fresh w.heap.size v ∧ Mod [] w W) :
    Sl W.drew u c1 ∧ Sl W.drew v c2 ∧ Fresh w.heap.size u ∧ Fresh w.heap.size v ∧ Mod [] w W.drew :=
  have d : Mod [] W W.drew := (Mod.refl [] W).drew
  ⟨h.1.mod d, h.2.1.mod d, h.2.2.1, h.2.2.2.1, h.2.2.2.2.then d⟩

def PartsPost (x y : Int) (w : World) (e : Ending) (w' : World) : Prop := ∃ qa qn qc ra rn rc, e = .returned (.tuple #[.agg #[.bool (decide (x / y < 0)), .slice qa qn qc], .agg #[.bool (decide (x % y < 0)), .slice ra rn rc]]) ∧
  Sl w' (.slice qa qn qc) ((Big.dig (x / y).natAbs).map dcell) ∧ Sl w' (.slice ra rn rc) ((Big.dig (x % y).natAbs).map dcell) ∧ Fresh w.heap.size (.slice qa qn qc) ∧ Fresh w.heap.size (.slice ra rn rc) ∧ Mod [] w w'

def SignPost (b : Bool) (m : Nat) (w : World) (e : Ending) (w' : World) : Prop := ∃ oa n c, e = .returned (.agg #[.bool b, .slice oa n c]) ∧ Sl w' (.slice oa n c) ((Big.dig m).map dcell) ∧ Fresh w.heap.size (.slice oa n c) ∧ Mod [] w w'
theorem sign_post {z : Int} {b : Bool} {m : Nat} (hm : z.natAbs = m) (hb : decide (z < 0) = b) {w w' : World} {e : Ending} (h : NumPost z w e w') : SignPost b m w e w' := by
  obtain ⟨oa, n, c, h1, h2, h3, h4⟩ := h
  rw [hb] at h1
  rw [hm] at h2
  exact ⟨oa, n, c, h1, h2, h3, h4⟩
theorem Big.dig_length_succ (m : Nat) : (Big.dig (m + 1)).length ≤ (Big.dig m).length + 1 := by
  apply Big.dig_length_le
  have := Big.dig_lt_pow m
  rw [Nat.pow_succ]
  have := Nat.pow_pos (n := (Big.dig m).length) (show 0 < 65536 by decide)
  omega
theorem own_two {w W : World} {l : List (Nat × Array Value × TypeId)} (T : Own w W l) {b : Nat} {x y : Value} {t : TypeId} (k : Nat) (h : l[k]? = some (b, #[x, y], t)) : W.cell? ⟨b, 0, none⟩ = some x ∧ W.cell? ⟨b, 1, none⟩ = some y :=
  ⟨(T.at k h).two.1, (T.at k h).two.2.1⟩
theorem parts_neg0 {x y : Int} {q r : Nat} (hx : x < 0) (hy : 0 < y) (e1 : q = x.natAbs / y.natAbs) (e2 : r = x.natAbs % y.natAbs) (h0 : r = 0) : x / y = -(q : Int) ∧ x % y = 0 := by
  have h := Nat.div_add_mod x.natAbs y.natAbs
  rw [← e1, ← e2, h0] at h
  have h2 : (y.natAbs : Int) = y := Int.natAbs_of_nonneg (by omega)
  have h3 : (x.natAbs : Int) = -x := by omega
  have h4 : x = y * -(q : Int) := by
    have : ((y.natAbs * q + 0 : Nat) : Int) = x.natAbs := by rw [h]
    rw [Int.natCast_add, Int.natCast_mul, h2, h3] at this
    rw [Int.mul_neg]; omega
  constructor
  · rw [h4, Int.mul_ediv_cancel_left _ (by omega)]
  · rw [h4, Int.mul_emod_right]
theorem parts_neg1 {x y : Int} {q r : Nat} (hx : x < 0) (hy : 0 < y) (e1 : q = x.natAbs / y.natAbs) (e2 : r = x.natAbs % y.natAbs) (h0 : 0 < r) : x / y = -((q : Int) + 1) ∧ x % y = y + -(r : Int) := by
  have h := Nat.div_add_mod x.natAbs y.natAbs
  have hl := Nat.mod_lt x.natAbs (show 0 < y.natAbs by omega)
  rw [← e1, ← e2] at h
  rw [← e2] at hl
  have h2 : (y.natAbs : Int) = y := Int.natAbs_of_nonneg (by omega)
  have h3 : (x.natAbs : Int) = -x := by omega
  have h4 : x = (y + -(r : Int)) + y * -((q : Int) + 1) := by
    have : ((y.natAbs * q + r : Nat) : Int) = x.natAbs := by rw [h]
    rw [Int.natCast_add, Int.natCast_mul, h2, h3] at this
    rw [Int.mul_neg, Int.mul_add]; omega
  have h5 : (y + -(r : Int)) / y = 0 := Int.ediv_eq_zero_of_lt (by omega) (by omega)
  have h6 : (y + -(r : Int)) % y = y + -(r : Int) := Int.emod_eq_of_lt (by omega) (by omega)
  constructor
  · rw [h4, Int.add_mul_ediv_left _ _ (by omega), h5]; omega
  · rw [h4, Int.add_mul_emod_self_left, h6]

set_option maxHeartbeats 4000000 in
theorem parts_num (u v : Value) (x y : Int) (w : World) (hu : NumZ w u x) (hv : NumZ w v y) (hx : (Big.dig x.natAbs).length ≤ 100) (hy : (Big.dig y.natAbs).length ≤ 100) (hy0 : 0 < y) :
    Calls Try.prog 55 #[u, v] w (PartsPost x y w) := by
  obtain ⟨oa, n, c, rfl, hs⟩ := hu.form
  obtain ⟨ob, n2, c2, rfl, hs2⟩ := hv.form
  have hn : n = (Big.dig x.natAbs).length := by
    rcases hs with ⟨h, h'⟩ | ⟨b, o, cap, h, _⟩
    · simp at h h'; rw [h', h.2.1]; rfl
    · simp at h; exact h.2.1
  have dy : decide (y < 0) = false := by simp; omega
  rw [dy]
  have T := Lib.hid (own6 w #[.bool (decide (x < 0)), .slice oa n c] 99 #[.bool false, .slice ob n2 c2] 99 #[.bool false, .slice none 0 0] 99 #[.bool false, .slice none 0 0] 99 #[.bool false, .slice none 0 0] 99 #[.bool false, .slice none 0 0] 99)
  have HN := Lib.hid hn
  have hn1 : n ≤ 100 := by omega
  have HS := Lib.hid hs
  have HS2 := Lib.hid hs2
  have HOne := Lib.hid (fun W => of_any 1 W (by omega) (by omega))
  have d16 : IntKind.i64.wrap (16 * (n : Int)) = 16 * (n : Int) := IntWalk.i64_in _ (by omega)
  clear hu hv hs hs2 hn dy
  obtain ⟨bx, hbx⟩ : ∃ b, b = decide (x < 0) := ⟨_, rfl⟩
  rw [← hbx] at T ⊢
  have HBX := Lib.hid hbx
  clear hbx
  go_enter Try.func55, Try.ntmps55
  go_wp2_with fail
  refine (HOne.out _).mono ?_
  rintro e w1 ⟨sa, sn, sc, rfl, h1, h2, m⟩
  have TB := Lib.hid (And.intro (T.out.lt 5 rfl) (T.out.lt 4 rfl))
  have T1 := Lib.hid ((T.out.call m).alloc #[.bool (decide ((1 : Int) < 0)), .slice sa sn sc] 99)
  have hd1 : decide ((1 : Int) < 0) = false := by decide
  rw [hd1] at T1
  have hone : NatBox (w.heap.size + 1 + 1 + 1 + 1 + 1 + 1) (w1.alloc (.cells #[.bool false, .slice sa sn sc] 99)) sa sn sc 1 := by
    refine ⟨?_, h2.le ?_⟩
    · have := h1.mod ((Mod.refl [] w1).alloc (.cells #[.bool false, .slice sa sn sc] 99))
      exact this
    · have := TB.out.1; omega
  have HO := Lib.hid hone
  clear h1 h2 m hone T HOne
  obtain ⟨a0, a1, -, -⟩ := (T1.out.at 0 rfl).two
  have hint : Hid (∀ {a b : Int}, a = b → Value.int .i64 a = .int .i64 b) := fun h => by rw [h]
  have HST : Hid (PState w w1.heap.size #[.bool bx, .slice oa n c] #[.bool false, .slice ob n2 c2] x.natAbs y.natAbs (w1.alloc (.cells #[.bool false, .slice sa sn sc] 99)) (16 * n)) :=
    ⟨0, 0, none, 0, 0, none, 0, 0, sa, sn, sc, T1.out, ⟨Sl.nil _, Fresh.nil _⟩, ⟨Sl.nil _, Fresh.nil _⟩, HO.out, Big.PSt.start _ _ _ (by rw [HN.out]; exact Big.dig_lt_pow _)⟩
  clear HO TB hd1
  go_wp2_with fail
  go_loopw [9] (fun i wr => (i = .int .i64 (-1) ∧ Hid (PState w w1.heap.size #[.bool bx, .slice oa n c] #[.bool false, .slice ob n2 c2] x.natAbs y.natAbs wr 0)) ∨
    ∃ j : Nat, j < 16 * n ∧ i = .int .i64 (j : Int) ∧ Hid (PState w w1.heap.size #[.bool bx, .slice oa n c] #[.bool false, .slice ob n2 c2] x.natAbs y.natAbs wr (j + 1))) (fun i _ => (intOf i + 1).toNat)
  case atStart =>
    rcases Nat.eq_zero_or_pos n with h0 | h0
    · left
      refine ⟨hint.out (by omega), ?_⟩
      have := HST.out
      rw [h0] at this ⊢
      exact this
    · right
      refine ⟨16 * n - 1, by omega, hint.out (by omega), ?_⟩
      rw [show 16 * n - 1 + 1 = 16 * n by omega]; exact HST.out
  case round =>
    clear T1 HST a0 a1
    rcases hrel with ⟨rfl, HP⟩ | ⟨j, hj, rfl, HP⟩
    · obtain ⟨q, r, qa, qn, qc, ra, rn, rc, sa, sn, sc, T, hq, hr, ho, hp⟩ := HP.out
      obtain ⟨e1, e2⟩ := hp.done
      have hD : 0 < y.natAbs := by omega
      have lq : (Big.dig q).length ≤ 100 := Nat.le_trans (Big.dig_length_mono hp.qle) hx
      have lr : (Big.dig r).length ≤ 100 := Nat.le_trans (Big.dig_length_mono (Nat.le_of_lt (hp.rlt hD))) hy
      have TT := Lib.hid T
      have HQ := Lib.hid hq
      have HR := Lib.hid hr
      have HO := Lib.hid ho
      have HE := Lib.hid (And.intro e1 e2)
      have k0 : decide ((0 : Int) ≤ -1) = false := by decide
      clear T hq hr ho hp HP e1 e2
      obtain ⟨p0, p1, -, -⟩ := (TT.out.at 0 rfl).two
      by_cases hx0 : x < 0
      · have hbx : bx = true := by rw [HBX.out]; simpa using hx0
        subst hbx
        have hrn : rn = (Big.dig r).length := by
          rcases HR.out.1 with ⟨h, h'⟩ | ⟨b, o, cap, h, _⟩
          · simp at h h'; rw [h', h.2.1]; rfl
          · simp at h; exact h.2.1
        have HRN := Lib.hid hrn
        clear hrn
        obtain ⟨f0, f1, -, -⟩ := (TT.out.at 5 rfl).two
        rcases Nat.eq_zero_or_pos r with h0 | h0
        · have hrn0 : rn = 0 := by rw [HRN.out, h0, Big.dig_zero]; rfl
          subst hrn0
          obtain ⟨g0, g1, -, -⟩ := (TT.out.at 4 rfl).two
          have HN1 := Lib.hid (fun W (m : Mod [] wr W) => neg_any (.agg #[.bool false, .slice qa qn qc]) (q : Int) W (HQ.out.mod m).numz (by rw [Int.natAbs_natCast]; omega))
          have hQ0 : x / y = -(q : Int) := by
            have := parts_neg0 (x := x) (y := y) hx0 hy0 (q := q) (r := r) HE.out.1 HE.out.2 h0
            exact this.1
          have hR0 : x % y = 0 := by
            have := parts_neg0 (x := x) (y := y) hx0 hy0 (q := q) (r := r) HE.out.1 HE.out.2 h0
            exact this.2
          have HQR := Lib.hid (And.intro hQ0 hR0)
          have hr00 : (Big.dig r).map dcell = (Big.dig 0).map dcell := by rw [h0]
          have HR0 := Lib.hid hr00
          clear hQ0 hR0 hr00
          clear hint HE HO hx0 lq lr hD HBX HS HS2 HN d16 hn1 hx hy hy0 HRN h0
          go_upto_region 17 with fail
          go_region_held3 (fun w' => (w'.cell? ⟨w.heap.size + 1 + 1 + 1 + 1, 0, none⟩ = some (.bool false) ∧ w'.cell? ⟨w.heap.size + 1 + 1 + 1 + 1, 1, none⟩ = some (.slice qa qn qc)) ∧ w'.cell? ⟨w.heap.size + 1 + 1 + 1 + 1 + 1, 0, none⟩ = some (.bool false) ∧ w'.cell? ⟨w.heap.size + 1 + 1 + 1 + 1 + 1, 1, none⟩ = some (.slice ra 0 rc)) (first | (refine ⟨⟨?_, ?_⟩, ?_, ?_⟩ <;> with_reducible assumption) | go_keep) (first | (go_at_call 53; refine (HN1.out _ (by first | exact Mod.refl _ _ | exact (Mod.refl _ _).drew)).mono ?_; rintro e w8 ⟨na, nn, nc, rfl, n1, n2, m8'⟩; have m8 := (Mod.refl [] wr).drew.then m8'; obtain ⟨c0, c1, z0, z1⟩ := ((TT.out.call m8).at 2 rfl).two; obtain ⟨d0, d1, y0, y1⟩ := ((TT.out.call m8).at 3 rfl).two; obtain ⟨k0, k1⟩ := own_two (TT.out.call m8) 4 rfl; obtain ⟨k2, k3⟩ := own_two (TT.out.call m8) 5 rfl; clear g0 g1 f0 f1))
          have m8 := Lib.hid m8
          have HR2 := Lib.hid (parts_ret (TT.out.call m8.out) n1 (n2.le (by have := TT.out.lt 5 rfl; have : wr.drew.heap.size = wr.heap.size := rfl; omega)) (HR.out.1.mod m8.out) HR.out.2 (.bool (decide (0 < q))) (.bool false))
          clear c0 c1 z0 z1 d0 d1 y0 y1 k0 k1 k2 k3 n1 n2
          go_wp2_with fail
          obtain ⟨⟨g0, g1, g2, g3⟩, HR3⟩ := HR2.out
          have HR4 := Lib.hid HR3
          generalize (((w8.setCell ⟨w.heap.size + 1 + 1, 0, none⟩ (.bool (decide (0 < q)))).setCell ⟨w.heap.size + 1 + 1, 1, none⟩ (.slice na nn nc)).setCell ⟨w.heap.size + 1 + 1 + 1, 0, none⟩ (.bool false)).setCell ⟨w.heap.size + 1 + 1 + 1, 1, none⟩ (.slice ra 0 rc) = W4 at *
          refine bodyPost_ret (v := .tuple #[.agg #[.bool (decide (0 < q)), .slice na nn nc], .agg #[.bool false, .slice ra 0 rc]]) ?_ rfl ?_
          · simp [results, Try.results55, go_sem, g0, g1, g2, g3]
          · refine ⟨na, nn, nc, ra, 0, rc, ?_, ?_⟩
            · rw [HQR.out.1, HQR.out.2]; simp
            · rw [HQR.out.1, HQR.out.2]
              have := HR4.out
              rw [HR0.out] at this
              exact this
        · have hrn0 : ((rn : Int) == 0) = false := by
            have : 0 < (Big.dig r).length := by rw [Big.dig_pos h0]; simp
            simp; have := HRN.out; omega
          have HQR := Lib.hid (parts_neg1 (x := x) (y := y) hx0 hy0 (q := q) (r := r) HE.out.1 HE.out.2 h0)
          have hry : r < y.natAbs := by rw [HE.out.2]; exact Nat.mod_lt _ hD
          have HP1 := Lib.hid (fun W (m : Mod [] wr W) => plus_nat (HQ.out.mod m) (HO.out.mod m) (by omega) (Nat.le_trans (Big.dig_length_le (k := 1) (by decide)) (by decide)))
          have HN2 := Lib.hid (fun oa n c W (h : NumZ W (.agg #[.bool false, .slice oa n c]) ((q + 1 : Nat) : Int)) => (neg_any _ ((q + 1 : Nat) : Int) W h (by rw [Int.natAbs_natCast]; have := Big.dig_length_succ q; omega)).mono fun e w' => sign_post (b := true) (m := q + 1) (by omega) (decide_eq_true (by omega)))
          have HN3 := Lib.hid (fun W (m : Mod [] wr W) => (neg_any (.agg #[.bool false, .slice ra rn rc]) (r : Int) W (HR.out.mod m).numz (by rw [Int.natAbs_natCast]; omega)).mono fun e w' => sign_post (b := true) (m := r) (by omega) (decide_eq_true (by omega)))
          have HY : Hid (∀ W, Mod [] wr W → NumZ W (.agg #[.bool false, .slice ob n2 c2]) y) := fun W m => ⟨_, by rw [show decide (y < 0) = false by simp; omega], HS2.out.mod ((TT.out.call m).mod)⟩
          have HP2 := Lib.hid (fun ga gn gc W (m : Mod [] wr W) (h : Sl W (.slice ga gn gc) ((Big.dig r).map dcell)) => (plus_num (.agg #[.bool false, .slice ob n2 c2]) (.agg #[.bool true, .slice ga gn gc]) y (-(r : Int)) W (HY.out W m) ⟨_, by rw [show decide (-(r : Int) < 0) = true by simp; omega], by rw [Int.natAbs_neg, Int.natAbs_natCast]; exact h⟩ (by omega) (by rw [Int.natAbs_neg, Int.natAbs_natCast]; omega)).mono fun e w' => sign_post (b := false) (m := y.natAbs - r) (by omega) (by simp; omega))
          obtain ⟨i40, i41⟩ := own_two TT.out 4 rfl
          obtain ⟨i60, i61⟩ := own_two TT.out 6 rfl
          obtain ⟨i10, i11⟩ := own_two TT.out 1 rfl
          obtain ⟨i50, i51⟩ := own_two TT.out 5 rfl
          have HZ : Hid (decide (x / y < 0) = true ∧ decide (x % y < 0) = false ∧ (x / y).natAbs = q + 1 ∧ (x % y).natAbs = y.natAbs - r) := by
            refine Lib.hid ?_
            rw [HQR.out.1, HQR.out.2]
            refine ⟨decide_eq_true (by omega), decide_eq_false (by omega), by omega, by omega⟩
          clear hint HE HO hx0 lq lr hD HBX HS HS2 HN d16 hn1 hx hy hy0 HRN h0 hry HQR HY HQ HR f0 f1
          go_upto_region 18 with fail
          clear p0 p1
          have ne1 := TT.out.ne 2 6 rfl rfl (by decide)
          have ne2 := TT.out.ne 3 6 rfl rfl (by decide)
          have ne3 := ne1.symm
          have ne4 := ne2.symm
          have ne5 : ¬ (w.heap.size = w.heap.size + 1 + 1) := by omega
          have ne6 : ¬ (w.heap.size + 1 + 1 = w.heap.size) := by omega
          go_region_held3 (fun w' => (w'.cell? ⟨w.heap.size + 1 + 1 + 1 + 1, 0, none⟩ = some (.bool false) ∧ w'.cell? ⟨w.heap.size + 1 + 1 + 1 + 1, 1, none⟩ = some (.slice qa qn qc)) ∧ (w'.cell? ⟨w1.heap.size, 0, none⟩ = some (.bool false) ∧ w'.cell? ⟨w1.heap.size, 1, none⟩ = some (.slice sa sn sc)) ∧ (w'.cell? ⟨w.heap.size + 1, 0, none⟩ = some (.bool false) ∧ w'.cell? ⟨w.heap.size + 1, 1, none⟩ = some (.slice ob n2 c2)) ∧ (w'.cell? ⟨w.heap.size + 1 + 1 + 1 + 1 + 1, 0, none⟩ = some (.bool false) ∧ w'.cell? ⟨w.heap.size + 1 + 1 + 1 + 1 + 1, 1, none⟩ = some (.slice ra rn rc))) (first | (refine ⟨⟨?_, ?_⟩, ⟨?_, ?_⟩, ⟨?_, ?_⟩, ?_, ?_⟩ <;> with_reducible assumption) | go_keep) (first | (go_at_call 69; refine (HP2.out ga gn gc _ ma t1).mono ?_; rintro e wb ⟨ha, hn, hc, rfl, v1, v2, v3⟩; have mb := ma.then v3; have v1 := Lib.hid v1; have v2 := Lib.hid v2; have v4 := Lib.hid v3; have ma' := Lib.hid ma; have mb' := Lib.hid mb; obtain ⟨o40, o41⟩ := own_two (TT.out.call mb) 4 rfl; obtain ⟨o60, o61⟩ := own_two (TT.out.call mb) 6 rfl; obtain ⟨o10, o11⟩ := own_two (TT.out.call mb) 1 rfl; obtain ⟨o50, o51⟩ := own_two (TT.out.call mb) 5 rfl; clear l40 l41 l60 l61 l10 l11 l50 l51; obtain ⟨c0, c1, z0, z1⟩ := ((TT.out.call mb).at 2 rfl).two; obtain ⟨d0, d1, y0, y1⟩ := ((TT.out.call mb).at 3 rfl).two; clear v3 ma mb t1) | (go_at_call 53; refine (HN3.out _ m9).mono ?_; rintro e wa ⟨ga, gn, gc, rfl, t1, t2, t3⟩; have t4 := Lib.hid t3; have ma := m9.then t3; obtain ⟨l40, l41⟩ := own_two (TT.out.call ma) 4 rfl; obtain ⟨l60, l61⟩ := own_two (TT.out.call ma) 6 rfl; obtain ⟨l10, l11⟩ := own_two (TT.out.call ma) 1 rfl; obtain ⟨l50, l51⟩ := own_two (TT.out.call ma) 5 rfl; clear k40 k41 k60 k61 k10 k11 k50 k51; clear t3 m9) | (go_at_call 53; refine (HN2.out pa pn pc _ z8).mono ?_; rintro e w9 ⟨na, nn, nc, rfl, s1, s2, s3⟩; have s1 := Lib.hid s1; have s2 := Lib.hid s2; have m9 := m8.then s3; have m89 := Lib.hid m8; obtain ⟨k40, k41⟩ := own_two (TT.out.call m9) 4 rfl; obtain ⟨k60, k61⟩ := own_two (TT.out.call m9) 6 rfl; obtain ⟨k10, k11⟩ := own_two (TT.out.call m9) 1 rfl; obtain ⟨k50, k51⟩ := own_two (TT.out.call m9) 5 rfl; clear j40 j41 j60 j61 j10 j11 j50 j51; clear m8 z8) | (go_at_call 69; refine (HP1.out _ ((Mod.refl _ _).drew)).mono ?_; rintro e w8 ⟨pa, pn, pc, rfl, s1, s2, s3⟩; have m8 := (Mod.refl [] wr).drew.then s3; have z8 := NatBox.numz (base := wr.drew.heap.size) ⟨s1, s2⟩; clear s1 s2 s3; obtain ⟨j40, j41⟩ := own_two (TT.out.call m8) 4 rfl; obtain ⟨j60, j61⟩ := own_two (TT.out.call m8) 6 rfl; obtain ⟨j10, j11⟩ := own_two (TT.out.call m8) 1 rfl; obtain ⟨j50, j51⟩ := own_two (TT.out.call m8) 5 rfl; clear i40 i41 i60 i61 i10 i11 i50 i51))
          have HR2 := Lib.hid (parts_ret (TT.out.call mb'.out) ((s1.out.mod t4.out).mod v4.out) (s2.out.le (by have := TT.out.lt 5 rfl; have := m89.out.size; omega)) v1.out (v2.out.le (by have := TT.out.lt 5 rfl; have := ma'.out.size; omega)) (.bool true) (.bool false))
          clear c0 c1 z0 z1 d0 d1 y0 y1 o40 o41 o60 o61 o10 o11 o50 o51 s1 s2 v1 v2 v4 ma' mb' m89 t4 ne1 ne2 ne3 ne4 ne5 ne6 HP1 HP2 HN2 HN3 TT
          go_wp2_with fail
          obtain ⟨⟨g0, g1, g2, g3⟩, HR3⟩ := HR2.out
          have HR4 := Lib.hid HR3
          generalize (((wb.setCell ⟨w.heap.size + 1 + 1, 0, none⟩ (.bool true)).setCell ⟨w.heap.size + 1 + 1, 1, none⟩ (.slice na nn nc)).setCell ⟨w.heap.size + 1 + 1 + 1, 0, none⟩ (.bool false)).setCell ⟨w.heap.size + 1 + 1 + 1, 1, none⟩ (.slice ha hn hc) = W4 at *
          refine bodyPost_ret (v := .tuple #[.agg #[.bool true, .slice na nn nc], .agg #[.bool false, .slice ha hn hc]]) ?_ rfl ?_
          · simp [results, Try.results55, go_sem, g0, g1, g2, g3]
          · refine ⟨na, nn, nc, ha, hn, hc, ?_, ?_⟩
            · rw [HZ.out.1, HZ.out.2.1]
            · rw [HZ.out.2.2.1, HZ.out.2.2.2]
              exact HR4.out
      · have hbx : bx = false := by rw [HBX.out]; simpa using hx0
        subst hbx
        have hQ0 : x / y = (q : Int) := by
          rw [HE.out.1, Int.natCast_ediv, Int.natAbs_of_nonneg (by omega), Int.natAbs_of_nonneg (by omega)]
        have hR0 : x % y = (r : Int) := by
          rw [HE.out.2, Int.natCast_emod, Int.natAbs_of_nonneg (by omega), Int.natAbs_of_nonneg (by omega)]
        have HQR := Lib.hid (And.intro hQ0 hR0)
        clear hQ0 hR0
        have HR2 := Lib.hid (parts_ret TT.out HQ.out.1 HQ.out.2 HR.out.1 HR.out.2 (.bool false) (.bool false))
        obtain ⟨c0, c1, z0, z1⟩ := (TT.out.at 2 rfl).two
        obtain ⟨d0, d1, y0, y1⟩ := (TT.out.at 3 rfl).two
        obtain ⟨e0, e1, -, -⟩ := (TT.out.at 4 rfl).two
        obtain ⟨f0, f1, -, -⟩ := (TT.out.at 5 rfl).two
        clear hint HE HO hx0 lq lr hD HBX HS HS2 HN d16 hn1 hx hy hy0 TT HQ HR
        go_wp2_with fail
        go_region_with fail
        all_goals
          go_wp2_with fail
          obtain ⟨⟨g0, g1, g2, g3⟩, HR3⟩ := HR2.out
          have HR4 := Lib.hid HR3
          generalize (((wr.setCell ⟨w.heap.size + 1 + 1, 0, none⟩ (.bool false)).setCell ⟨w.heap.size + 1 + 1, 1, none⟩ (.slice qa qn qc)).setCell ⟨w.heap.size + 1 + 1 + 1, 0, none⟩ (.bool false)).setCell ⟨w.heap.size + 1 + 1 + 1, 1, none⟩ (.slice ra rn rc) = W4 at *
          refine bodyPost_ret (v := .tuple #[.agg #[.bool false, .slice qa qn qc], .agg #[.bool false, .slice ra rn rc]]) ?_ rfl ?_
          · simp [results, Try.results55, go_sem, g0, g1, g2, g3]
          · refine ⟨qa, qn, qc, ra, rn, rc, ?_, ?_⟩
            · rw [HQR.out.1, HQR.out.2, show decide ((q : Int) < 0) = false by simp, show decide ((r : Int) < 0) = false by simp]
            · rw [HQR.out.1, HQR.out.2, Int.natAbs_natCast, Int.natAbs_natCast]; exact parts_drew HR4.out
    · obtain ⟨q, r, qa, qn, qc, ra, rn, rc, sa, sn, sc, T, hq, hr, ho, hp⟩ := HP.out
      have TT := Lib.hid T
      have HQ := Lib.hid hq
      have HR := Lib.hid hr
      have HO := Lib.hid ho
      have HPP := Lib.hid hp
      have hD : 0 < y.natAbs := by omega
      have lq : (Big.dig q).length ≤ 100 := Nat.le_trans (Big.dig_length_mono hp.qle) hx
      have lr : (Big.dig r).length ≤ 100 := Nat.le_trans (Big.dig_length_mono (Nat.le_of_lt (hp.rlt hD))) hy
      have k0 : decide ((0 : Int) ≤ j) = true := by simp
      clear T hq hr ho hp HP
      obtain ⟨q0, q1, -, -⟩ := (TT.out.at 4 rfl).two
      have HPl := Lib.hid (plus_nat HQ.out HQ.out (by omega) (by omega))
      go_wp2_with fail
      refine HPl.out.mono ?_
      rintro e wm1 ⟨qa1, qn1, qc1, rfl, h1, h2, m⟩
      obtain ⟨p1, p2⟩ := box_put (base := w.heap.size + 1 + 1 + 1 + 1 + 1 + 1) TT.out (k := 4) rfl m h1 h2 (by have := TT.out.lt 5 rfl; omega)
      have TT' := Lib.hid p1
      have HQ' := Lib.hid p2
      have HR' := Lib.hid ((HR.out.mod m).set (b := w.heap.size + 1 + 1 + 1 + 1) (by omega) (.bool false) (.slice qa1 qn1 qc1))
      have HO' := Lib.hid ((HO.out.mod m).set (b := w.heap.size + 1 + 1 + 1 + 1) (by omega) (.bool false) (.slice qa1 qn1 qc1))
      obtain ⟨c0, c1, z0, z1⟩ := ((TT.out.call m).at 4 rfl).two
      clear p1 p2 h1 h2 m TT HQ HR HO q0 q1 HPl
      go_upto_region 8 with fail
      generalize (wm1.setCell ⟨w.heap.size + 1 + 1 + 1 + 1, 0, none⟩ (.bool false)).setCell ⟨w.heap.size + 1 + 1 + 1 + 1, 1, none⟩ (.slice qa1 qn1 qc1) = W1 at *
      have TT := TT'
      have HQ := HQ'
      have HR := HR'
      have HO := HO'
      clear TT' HQ' HR' HO' c0 c1 z0 z1
      obtain ⟨q0, q1, -, -⟩ := (TT.out.at 5 rfl).two
      have HPl := Lib.hid (plus_nat HR.out HR.out (by omega) (by omega))
      go_wp2_with fail
      refine HPl.out.mono ?_
      rintro e wm2 ⟨ra2, rn2, rc2, rfl, h1, h2, m⟩
      obtain ⟨p1, p2⟩ := box_put (base := w.heap.size + 1 + 1 + 1 + 1 + 1 + 1) TT.out (k := 5) rfl m h1 h2 (by have := TT.out.lt 5 rfl; omega)
      have TT' := Lib.hid p1
      have HR' := Lib.hid p2
      have HQ' := Lib.hid ((HQ.out.mod m).set (b := w.heap.size + 1 + 1 + 1 + 1 + 1) (by omega) (.bool false) (.slice ra2 rn2 rc2))
      have HO' := Lib.hid ((HO.out.mod m).set (b := w.heap.size + 1 + 1 + 1 + 1 + 1) (by omega) (.bool false) (.slice ra2 rn2 rc2))
      obtain ⟨c0, c1, z0, z1⟩ := ((TT.out.call m).at 5 rfl).two
      clear p1 p2 h1 h2 m TT HQ HR HO q0 q1 HPl
      go_upto_region 9 with fail
      generalize (wm2.setCell ⟨w.heap.size + 1 + 1 + 1 + 1 + 1, 0, none⟩ (.bool false)).setCell ⟨w.heap.size + 1 + 1 + 1 + 1 + 1, 1, none⟩ (.slice ra2 rn2 rc2) = W2 at *
      have TT := TT'
      have HQ := HQ'
      have HR := HR'
      have HO := HO'
      clear TT' HQ' HR' HO' c0 c1 z0 z1
      have l1 : (Big.dig 1).length ≤ 1 := Big.dig_length_le (by decide)
      have hl2 : (Big.dig (q + q)).length ≤ 101 := by have := Big.dig_len_add q q; omega
      have hl3 : (Big.dig (r + r)).length ≤ 101 := by have := Big.dig_len_add r r; omega
      obtain ⟨a0, a1, -, -⟩ := (TT.out.at 0 rfl).two
      have hdg := digit_any _ (Big.dig x.natAbs) (j / 16) W2 (HS.out.mod TT.out.mod) (by omega)
      have HB := Lib.hid (Big.bit_dig x.natAbs j)
      have hx0 := Big.digits_getD (Big.digits_dig x.natAbs) (j / 16)
      generalize (Big.dig x.natAbs).getD (j / 16) 0 = d at *
      have HDG := Lib.hid (show Calls Try.prog 70 #[.slice oa n c, .int .i64 ((j : Int) / 16)] W2 fun e w' => e = .returned (.int .i64 (d : Int)) ∧ W2 = w' by simpa using hdg)
      clear hdg
      have k1 : (0 : Int) ≤ (j : Int) % 16 := by omega
      have k2 : (j : Int) % 16 ≤ 15 := by omega
      have hbit : ((d : Int) / 2 ^ (j % 16)).tmod 2 = ((x.natAbs / 2 ^ j % 2 : Nat) : Int) := by
        have e : (d : Int) / 2 ^ (j % 16) = ((d / 2 ^ (j % 16) : Nat) : Int) := by rw [Int.natCast_ediv, Int.natCast_pow]; rfl
        rw [e, Int.tmod_eq_emod_of_nonneg (Int.natCast_nonneg _), ← HB.out]; exact (Int.natCast_emod _ _).symm
      have hbl : x.natAbs / 2 ^ j % 2 ≤ 1 := by omega
      obtain ⟨bt, hbt⟩ : ∃ bt, bt = x.natAbs / 2 ^ j % 2 := ⟨_, rfl⟩
      rw [← hbt] at hbit hbl
      have HBT := Lib.hid hbt
      clear hbt HB
      have hbb : bt = 0 ∨ bt = 1 := by omega
      rcases hbb with rfl | rfl
      · have kb : (((d : Int) / 2 ^ (j % 16)).tmod 2 == 1) = false := by rw [hbit]; rfl
        clear hbit
        go_wp2_with fail
        refine HDG.out.mono ?_
        rintro e wd ⟨rfl, rfl⟩
        go_upto_region 11 with fail
        clear a0 a1 HDG
        have lr2 : (Big.dig (r + r)).length ≤ 102 := by omega
        obtain ⟨q0, q1, -, -⟩ := (TT.out.at 5 rfl).two
        obtain ⟨t0, t1, -, -⟩ := (TT.out.at 1 rfl).two
        have HCM := Lib.hid (compare_any _ _ _ _ W2 HR.out.1 (HS2.out.mod TT.out.mod) (by omega) (by omega) (Big.digits_dig _) (Big.digits_dig _))
        go_wp2_with fail
        refine HCM.out.mono ?_
        rintro e wc ⟨rr, rfl, hr, hr1, hr2, rfl⟩
        rw [Big.val_dig, Big.val_dig] at hr
        clear HCM
        by_cases hle : y.natAbs ≤ r + r
        · have d0 : decide (0 ≤ rr) = true := by simp; exact hr.2 hle
          have HLS := Lib.hid (lessD_any _ _ _ _ W2 HR.out.1 (HS2.out.mod TT.out.mod) (by omega) (Big.dig_length_mono hle) (Big.digits_dig _) (Big.digits_dig _) (by rw [Big.val_dig, Big.val_dig]; exact hle))
          rw [Big.val_dig, Big.val_dig] at HLS
          clear hr
          go_wp2_with fail
          refine HLS.out.mono ?_
          rintro e wl ⟨out, lv, rfl, s1, s2, s3, ⟨s4, s5⟩, ml⟩
          obtain ⟨la, ln, lc, rfl⟩ := s1.form3
          have HWN := Lib.hid (whole_nat s1 (by omega) s3)
          rw [s4] at HWN
          have TT' := Lib.hid (TT.out.call ml)
          have HQ' := Lib.hid (HQ.out.mod ml)
          have HR' := Lib.hid (HR.out.mod ml)
          have HO' := Lib.hid (HO.out.mod ml)
          clear TT HQ HR HO s1 s2 s3 s4 s5 ml HLS q0 q1 t0 t1
          have TT := TT'
          have HQ := HQ'
          have HR := HR'
          have HO := HO'
          clear TT' HQ' HR' HO'
          go_wp2_with fail
          refine HWN.out.mono ?_
          rintro e wm3 ⟨ra3, rn3, rc3, rfl, h1, h2, m⟩
          obtain ⟨p1, p2⟩ := box_put (base := w.heap.size + 1 + 1 + 1 + 1 + 1 + 1) TT.out (k := 5) rfl m h1 h2 (by have := TT.out.lt 5 rfl; omega)
          have TT' := Lib.hid p1
          have HR' := Lib.hid p2
          have HQ' := Lib.hid ((HQ.out.mod m).set (b := w.heap.size + 1 + 1 + 1 + 1 + 1) (by omega) (.bool false) (.slice ra3 rn3 rc3))
          have HO' := Lib.hid ((HO.out.mod m).set (b := w.heap.size + 1 + 1 + 1 + 1 + 1) (by omega) (.bool false) (.slice ra3 rn3 rc3))
          obtain ⟨c0, c1, z0, z1⟩ := ((TT.out.call m).at 5 rfl).two
          clear p1 p2 h1 h2 m TT HQ HR HO HWN
          go_upto_region 13 with fail
          generalize (wm3.setCell ⟨w.heap.size + 1 + 1 + 1 + 1 + 1, 0, none⟩ (.bool false)).setCell ⟨w.heap.size + 1 + 1 + 1 + 1 + 1, 1, none⟩ (.slice ra3 rn3 rc3) = W3 at *
          have TT := TT'
          have HQ := HQ'
          have HR := HR'
          have HO := HO'
          clear TT' HQ' HR' HO' c0 c1 z0 z1
          obtain ⟨q0, q1, -, -⟩ := (TT.out.at 4 rfl).two
          obtain ⟨t0, t1, -, -⟩ := (TT.out.at 6 rfl).two
          have HPl := Lib.hid (plus_nat HQ.out HO.out (by omega) (by omega))
          go_wp2_with fail
          refine HPl.out.mono ?_
          rintro e wm4 ⟨qa4, qn4, qc4, rfl, h1, h2, m⟩
          obtain ⟨p1, p2⟩ := box_put (base := w.heap.size + 1 + 1 + 1 + 1 + 1 + 1) TT.out (k := 4) rfl m h1 h2 (by have := TT.out.lt 5 rfl; omega)
          have TT' := Lib.hid p1
          have HQ' := Lib.hid p2
          have HR' := Lib.hid ((HR.out.mod m).set (b := w.heap.size + 1 + 1 + 1 + 1) (by omega) (.bool false) (.slice qa4 qn4 qc4))
          have HO' := Lib.hid ((HO.out.mod m).set (b := w.heap.size + 1 + 1 + 1 + 1) (by omega) (.bool false) (.slice qa4 qn4 qc4))
          obtain ⟨c0, c1, z0, z1⟩ := ((TT.out.call m).at 4 rfl).two
          clear p1 p2 h1 h2 m TT HQ HR HO HPl q0 q1 t0 t1
          go_upto_region 6 with fail
          generalize (wm4.setCell ⟨w.heap.size + 1 + 1 + 1 + 1, 0, none⟩ (.bool false)).setCell ⟨w.heap.size + 1 + 1 + 1 + 1, 1, none⟩ (.slice qa4 qn4 qc4) = W4 at *
          have TT := TT'
          have HQ := HQ'
          have HR := HR'
          have HO := HO'
          clear TT' HQ' HR' HO' c0 c1 z0 z1
          go_wp2_with fail
          go_roundw
          case rel =>
            have HF : Hid (PState w w1.heap.size #[.bool bx, .slice oa n c] #[.bool false, .slice ob n2 c2] x.natAbs y.natAbs W4 j) :=
              ⟨q + q + 1, r + r - y.natAbs, _, _, _, _, _, _, _, _, _, TT.out, HQ.out, HR.out, HO.out, by rw [show q + q + 1 = 2 * q + 1 by omega, show r + r - y.natAbs = 2 * r + 0 - y.natAbs by omega]; exact HPP.out.up hD HBT.out (by omega)⟩
            rcases Nat.eq_zero_or_pos j with h0 | h0
            · subst h0
              exact .inl ⟨hint.out (by omega), HF.out⟩
            · refine .inr ⟨j - 1, by omega, hint.out (by omega), ?_⟩
              rw [show j - 1 + 1 = j by omega]; exact HF.out
          case measure => simp [intOf]
        · have d0 : decide (0 ≤ rr) = false := by rw [decide_eq_false_iff_not, hr]; exact hle
          clear hr q0 q1 t0 t1
          go_wp2_with fail
          go_roundw
          case rel =>
            have HF : Hid (PState w w1.heap.size #[.bool bx, .slice oa n c] #[.bool false, .slice ob n2 c2] x.natAbs y.natAbs W2 j) :=
              ⟨q + q, r + r, _, _, _, _, _, _, _, _, _, TT.out, HQ.out, HR.out, HO.out, by rw [show q + q = 2 * q by omega, show r + r = 2 * r + 0 by omega]; exact HPP.out.down hD HBT.out (by omega)⟩
            rcases Nat.eq_zero_or_pos j with h0 | h0
            · subst h0
              exact .inl ⟨hint.out (by omega), HF.out⟩
            · refine .inr ⟨j - 1, by omega, hint.out (by omega), ?_⟩
              rw [show j - 1 + 1 = j by omega]; exact HF.out
          case measure => simp [intOf]
      · have kb : (((d : Int) / 2 ^ (j % 16)).tmod 2 == 1) = true := by rw [hbit]; rfl
        clear hbit
        go_wp2_with fail
        refine HDG.out.mono ?_
        rintro e wd ⟨rfl, rfl⟩
        go_upto_region 10 with fail
        clear a0 a1 HDG
        obtain ⟨q0, q1, -, -⟩ := (TT.out.at 5 rfl).two
        obtain ⟨t0, t1, -, -⟩ := (TT.out.at 6 rfl).two
        have HPl := Lib.hid (plus_nat HR.out HO.out (by omega) (by omega))
        go_wp2_with fail
        refine HPl.out.mono ?_
        rintro e wm5 ⟨ra5, rn5, rc5, rfl, h1, h2, m⟩
        obtain ⟨p1, p2⟩ := box_put (base := w.heap.size + 1 + 1 + 1 + 1 + 1 + 1) TT.out (k := 5) rfl m h1 h2 (by have := TT.out.lt 5 rfl; omega)
        have TT' := Lib.hid p1
        have HR' := Lib.hid p2
        have HQ' := Lib.hid ((HQ.out.mod m).set (b := w.heap.size + 1 + 1 + 1 + 1 + 1) (by omega) (.bool false) (.slice ra5 rn5 rc5))
        have HO' := Lib.hid ((HO.out.mod m).set (b := w.heap.size + 1 + 1 + 1 + 1 + 1) (by omega) (.bool false) (.slice ra5 rn5 rc5))
        obtain ⟨c0, c1, z0, z1⟩ := ((TT.out.call m).at 5 rfl).two
        clear p1 p2 h1 h2 m TT HQ HR HO HPl q0 q1 t0 t1
        go_upto_region 11 with fail
        generalize (wm5.setCell ⟨w.heap.size + 1 + 1 + 1 + 1 + 1, 0, none⟩ (.bool false)).setCell ⟨w.heap.size + 1 + 1 + 1 + 1 + 1, 1, none⟩ (.slice ra5 rn5 rc5) = W5 at *
        have TT := TT'
        have HQ := HQ'
        have HR := HR'
        have HO := HO'
        clear TT' HQ' HR' HO' c0 c1 z0 z1
        have lr2 : (Big.dig (r + r + 1)).length ≤ 102 := by have := Big.dig_len_add (r + r) 1; have h1 : (Big.dig 1).length ≤ 1 := Big.dig_length_le (by decide); omega
        obtain ⟨q0, q1, -, -⟩ := (TT.out.at 5 rfl).two
        obtain ⟨t0, t1, -, -⟩ := (TT.out.at 1 rfl).two
        have HCM := Lib.hid (compare_any _ _ _ _ W5 HR.out.1 (HS2.out.mod TT.out.mod) (by omega) (by omega) (Big.digits_dig _) (Big.digits_dig _))
        go_wp2_with fail
        refine HCM.out.mono ?_
        rintro e wc ⟨rr, rfl, hr, hr1, hr2, rfl⟩
        rw [Big.val_dig, Big.val_dig] at hr
        clear HCM
        by_cases hle : y.natAbs ≤ r + r + 1
        · have d0 : decide (0 ≤ rr) = true := by simp; exact hr.2 hle
          have HLS := Lib.hid (lessD_any _ _ _ _ W5 HR.out.1 (HS2.out.mod TT.out.mod) (by omega) (Big.dig_length_mono hle) (Big.digits_dig _) (Big.digits_dig _) (by rw [Big.val_dig, Big.val_dig]; exact hle))
          rw [Big.val_dig, Big.val_dig] at HLS
          clear hr
          go_wp2_with fail
          refine HLS.out.mono ?_
          rintro e wl ⟨out, lv, rfl, s1, s2, s3, ⟨s4, s5⟩, ml⟩
          obtain ⟨la, ln, lc, rfl⟩ := s1.form3
          have HWN := Lib.hid (whole_nat s1 (by omega) s3)
          rw [s4] at HWN
          have TT' := Lib.hid (TT.out.call ml)
          have HQ' := Lib.hid (HQ.out.mod ml)
          have HR' := Lib.hid (HR.out.mod ml)
          have HO' := Lib.hid (HO.out.mod ml)
          clear TT HQ HR HO s1 s2 s3 s4 s5 ml HLS q0 q1 t0 t1
          have TT := TT'
          have HQ := HQ'
          have HR := HR'
          have HO := HO'
          clear TT' HQ' HR' HO'
          go_wp2_with fail
          refine HWN.out.mono ?_
          rintro e wm6 ⟨ra6, rn6, rc6, rfl, h1, h2, m⟩
          obtain ⟨p1, p2⟩ := box_put (base := w.heap.size + 1 + 1 + 1 + 1 + 1 + 1) TT.out (k := 5) rfl m h1 h2 (by have := TT.out.lt 5 rfl; omega)
          have TT' := Lib.hid p1
          have HR' := Lib.hid p2
          have HQ' := Lib.hid ((HQ.out.mod m).set (b := w.heap.size + 1 + 1 + 1 + 1 + 1) (by omega) (.bool false) (.slice ra6 rn6 rc6))
          have HO' := Lib.hid ((HO.out.mod m).set (b := w.heap.size + 1 + 1 + 1 + 1 + 1) (by omega) (.bool false) (.slice ra6 rn6 rc6))
          obtain ⟨c0, c1, z0, z1⟩ := ((TT.out.call m).at 5 rfl).two
          clear p1 p2 h1 h2 m TT HQ HR HO HWN
          go_upto_region 13 with fail
          generalize (wm6.setCell ⟨w.heap.size + 1 + 1 + 1 + 1 + 1, 0, none⟩ (.bool false)).setCell ⟨w.heap.size + 1 + 1 + 1 + 1 + 1, 1, none⟩ (.slice ra6 rn6 rc6) = W6 at *
          have TT := TT'
          have HQ := HQ'
          have HR := HR'
          have HO := HO'
          clear TT' HQ' HR' HO' c0 c1 z0 z1
          obtain ⟨q0, q1, -, -⟩ := (TT.out.at 4 rfl).two
          obtain ⟨t0, t1, -, -⟩ := (TT.out.at 6 rfl).two
          have HPl := Lib.hid (plus_nat HQ.out HO.out (by omega) (by omega))
          go_wp2_with fail
          refine HPl.out.mono ?_
          rintro e wm7 ⟨qa7, qn7, qc7, rfl, h1, h2, m⟩
          obtain ⟨p1, p2⟩ := box_put (base := w.heap.size + 1 + 1 + 1 + 1 + 1 + 1) TT.out (k := 4) rfl m h1 h2 (by have := TT.out.lt 5 rfl; omega)
          have TT' := Lib.hid p1
          have HQ' := Lib.hid p2
          have HR' := Lib.hid ((HR.out.mod m).set (b := w.heap.size + 1 + 1 + 1 + 1) (by omega) (.bool false) (.slice qa7 qn7 qc7))
          have HO' := Lib.hid ((HO.out.mod m).set (b := w.heap.size + 1 + 1 + 1 + 1) (by omega) (.bool false) (.slice qa7 qn7 qc7))
          obtain ⟨c0, c1, z0, z1⟩ := ((TT.out.call m).at 4 rfl).two
          clear p1 p2 h1 h2 m TT HQ HR HO HPl q0 q1 t0 t1
          go_upto_region 6 with fail
          generalize (wm7.setCell ⟨w.heap.size + 1 + 1 + 1 + 1, 0, none⟩ (.bool false)).setCell ⟨w.heap.size + 1 + 1 + 1 + 1, 1, none⟩ (.slice qa7 qn7 qc7) = W7 at *
          have TT := TT'
          have HQ := HQ'
          have HR := HR'
          have HO := HO'
          clear TT' HQ' HR' HO' c0 c1 z0 z1
          go_wp2_with fail
          go_roundw
          case rel =>
            have HF : Hid (PState w w1.heap.size #[.bool bx, .slice oa n c] #[.bool false, .slice ob n2 c2] x.natAbs y.natAbs W7 j) :=
              ⟨q + q + 1, r + r + 1 - y.natAbs, _, _, _, _, _, _, _, _, _, TT.out, HQ.out, HR.out, HO.out, by rw [show q + q + 1 = 2 * q + 1 by omega, show r + r + 1 - y.natAbs = 2 * r + 1 - y.natAbs by omega]; exact HPP.out.up hD HBT.out (by omega)⟩
            rcases Nat.eq_zero_or_pos j with h0 | h0
            · subst h0
              exact .inl ⟨hint.out (by omega), HF.out⟩
            · refine .inr ⟨j - 1, by omega, hint.out (by omega), ?_⟩
              rw [show j - 1 + 1 = j by omega]; exact HF.out
          case measure => simp [intOf]
        · have d0 : decide (0 ≤ rr) = false := by rw [decide_eq_false_iff_not, hr]; exact hle
          clear hr q0 q1 t0 t1
          go_wp2_with fail
          go_roundw
          case rel =>
            have HF : Hid (PState w w1.heap.size #[.bool bx, .slice oa n c] #[.bool false, .slice ob n2 c2] x.natAbs y.natAbs W5 j) :=
              ⟨q + q, r + r + 1, _, _, _, _, _, _, _, _, _, TT.out, HQ.out, HR.out, HO.out, by rw [show q + q = 2 * q by omega, show r + r + 1 = 2 * r + 1 by omega]; exact HPP.out.down hD HBT.out (by omega)⟩
            rcases Nat.eq_zero_or_pos j with h0 | h0
            · subst h0
              exact .inl ⟨hint.out (by omega), HF.out⟩
            · refine .inr ⟨j - 1, by omega, hint.out (by omega), ?_⟩
              rw [show j - 1 + 1 = j by omega]; exact HF.out
          case measure => simp [intOf]
end Go.Proofs.Ytngeijdfpgmcfaa
