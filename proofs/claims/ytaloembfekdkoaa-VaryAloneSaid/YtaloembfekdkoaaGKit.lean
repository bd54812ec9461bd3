/-
  Rows of structs as their cells one behind the other; copy into a new row.
  Rows of the call's own beside its blocks: what keeps them.
  A region that draws its order, as a row of steps: steady ones (V), taken first wherever they are ready, and others (K: a call that makes memory, an operation whose result is known by a fact alone), which come up one by one. One walk serves every order.
  What every walk over fonts imports.
-/
import Derived.Test.YtaloembfekdkoaaData
import Derived.Laws.CopyRow
import Derived.Laws.MakeOwn
import Derived.Tactics
import Derived.Test.YtaloembfekdkoaaGBase
import Derived.Laws.AppendOwn
import Derived.Test.YtaloembfekdkoaaChain
import Derived.Test.YtaloembfekdkoaaDoom
import Derived.Deep.LoopGhost
import Derived.Deep.QuietTactic
import Derived.BigQuiet
import Derived.RegionTactic
import Derived.IntWalk
import Derived.WalkLawsBesides
import Derived.Deep.DeepCutAuto

namespace Go.Proofs.Ytaloembfekdkoaa
open Go.RowKit
set_option linter.unusedVariables false
section
variable {α : Type} {k : Nat} {enc : α → List Value} {R : Nat → World → List Value → α → Prop} {B : Nat}
theorem flat_length (he : ∀ x, (enc x).length = k) : ∀ l : List α, (l.flatMap enc).length = l.length * k
  | [] => by simp
  | x :: r => by rw [List.flatMap_cons, List.length_append, he, flat_length he r, List.length_cons, Nat.add_mul, Nat.one_mul, Nat.add_comm]
theorem flat_at (he : ∀ x, (enc x).length = k) : ∀ (l : List α) (i j : Nat) (hi : i < l.length), j < k → (l.flatMap enc)[i * k + j]? = (enc l[i])[j]?
  | x :: r, 0, j, _, hj => by rw [List.flatMap_cons, Nat.zero_mul, Nat.zero_add, List.getElem?_append_left (by rw [he]; exact hj)]; rfl
  | x :: r, i + 1, j, hi, hj => by
    rw [List.flatMap_cons, List.getElem?_append_right (by rw [he, Nat.add_mul]; omega), he, show (i + 1) * k + j - k = i * k + j by rw [Nat.add_mul]; omega]
    exact flat_at he r i j (by simpa using hi) hj
theorem flat_split (he : ∀ x, (enc x).length = k) {l : List α} {q : Nat} {u : Value} (h : (l.flatMap enc)[q]? = some u) : ∃ i j, ∃ hi : i < l.length, j < k ∧ q = i * k + j ∧ (enc l[i])[j]? = some u := by
  have hq : q < l.length * k := by rw [← flat_length he]; exact (List.getElem?_eq_some_iff.1 h).1
  have hk : 0 < k := by rcases Nat.eq_zero_or_pos k with h0 | h0; · subst h0; simp at hq
                        · exact h0
  have hi : q / k < l.length := (Nat.div_lt_iff_lt_mul hk).2 hq
  have hj : q % k < k := Nat.mod_lt _ hk
  have e : q = q / k * k + q % k := by rw [Nat.mul_comm]; exact (Nat.div_add_mod q k).symm
  refine ⟨q / k, q % k, hi, hj, e, ?_⟩
  rw [← flat_at he l _ _ hi hj, ← e]; exact h
theorem addr_add_add (a : Addr) (x y : Nat) : (a.add x).add y = a.add (x + y) := by
  unfold Addr.add
  by_cases hx : x = 0 <;> by_cases hy : y = 0 <;> simp [hx, hy]
  · omega
theorem rows_flat (he : ∀ x, (enc x).length = k) (hR : ∀ B w cs x, R B w cs x → cs = enc x) {w : World} {oa : Option Addr} {n cap : Nat} {l : List α} (h : Rows k R B w (.slice oa n cap) l) :
    n = l.length ∧ n ≤ maxLen ∧ ∀ q u, (l.flatMap enc)[q]? = some u → ∃ a : Addr, oa = some a ∧ w.cell? (a.add q) = some u := by
  obtain ⟨oa', cap', hv, hl, h⟩ := h
  cases hv
  refine ⟨rfl, hl, fun q u hq => ?_⟩
  obtain ⟨i, j, hi, hj, rfl, hu⟩ := flat_split he hq
  obtain ⟨a, ha, _, cs, hk, hc, hr⟩ := h i hi
  have hcs := hR _ _ _ _ hr
  subst hcs
  refine ⟨a, ha, ?_⟩
  rw [← addr_add_add, hc j hj, hu]
theorem rows_blk (he : ∀ x, (enc x).length = k) {w : World} {b cap : Nat} {t : TypeId} {l : List α} {cs : List Value} (hl : l.length ≤ maxLen) (hR : ∀ x ∈ l, R B w (enc x) x) (hb : B ≤ b) (hB : Blk w b cs.toArray t) (hp : cs.take (l.length * k) = l.flatMap enc) :
    Rows k R B w (.slice (some ⟨b, 0, Option.none⟩) l.length cap) l := by
  refine ⟨_, cap, rfl, hl, fun i hi => ⟨_, rfl, hb, enc l[i], he _, fun j hj => ?_, hR _ (List.getElem_mem hi)⟩⟩
  rw [addr_add_add]
  have e : (⟨b, 0, Option.none⟩ : Addr).add (i * k + j) = ⟨b, i * k + j, Option.none⟩ := by unfold Addr.add; split <;> simp_all
  rw [e, hB.cell]
  have h1 := flat_at he l i j hi hj
  rw [← h1, ← hp, List.getElem?_take]
  have : i * k + j < l.length * k := by
    have : (i + 1) * k ≤ l.length * k := Nat.mul_le_mul_right _ hi
    rw [Nat.add_mul] at this; omega
  simp [this]
end
theorem run_copy_new {P : Program} (w : World) (dT sT ty elem : TypeId) (g n dCap : Nat) (a : Addr) (sCap k : Nat) (cur : Array Value) (t : TypeId) (cs : List Value)
    (hu : P.underlying dT = some (.slice elem)) (hs : (P.info? elem).map (·.size) = some k)
    (hg : w.heap[g]? = some (.cells cur t (0, 0))) (hn : cs.length = n * k) (hsz : cur.size = n * k)
    (hsrc : ∀ j v, cs[j]? = some v → w.cell? (a.add j) = some v) (h1 : ∀ v ∈ cs, v.oneCell' = true) :
    (Builtin.copy_ #[dT, sT] ty #[.slice (some ⟨g, 0, none⟩) n dCap, .slice (some a) n sCap]).run P w =
      .ok (goInt n) (w.setRow g cs.toArray) := by
  have hl := run_loadCells_list (P := P) w a cs hsrc
  have hst := run_storeCells_at P g 0 t cs 0 cur w hg (by simp; omega) h1
  cases hq : P.info? elem with
  | none => simp [hq] at hs
  | some i =>
    have hi : i.size = k := by simpa [hq] using hs
    have hd : cur.toList.drop cs.length = [] := List.drop_eq_nil_of_le (by simp; omega)
    simp [Builtin.copy_, run_underlying hu, Builtin.lenOf, Builtin.firstCells, sizeOf, typeInfo, hq, hi, ← hn, hl, hst, hd]
theorem setRow_mod {w0 w : World} {g : Nat} (m : Mod [] w0 w) (hg : w0.heap.size ≤ g) (cs : Array Value) : Mod [] w0 (w.setRow g cs) :=
  ⟨m.os, m.tape, m.output, Nat.le_trans m.size (by simp [World.setRow]), fun k hk hn => by rw [setRow_other w g k cs (by omega)]; exact m.block k hk hn⟩
theorem setRow_blk {w : World} {g : Nat} {cur : Array Value} {t : TypeId} (h : Blk w g cur t) (cs : Array Value) : Blk (w.setRow g cs) g cs t := setRow_heap w g cur _ t _ h
theorem size_made (z : Array Value) (n : Nat) : (madeCells z n).size = n := by simp [madeCells]
def setN (w : World) (b : Nat) : Nat → List Value → World
  | _, [] => w
  | i, v :: r => setN (w.setCell ⟨b, i, none⟩ v) b (i + 1) r
theorem setN_mod {w0 : World} {b : Nat} (hb : w0.heap.size ≤ b) : ∀ (vs : List Value) (i : Nat) (w : World), Mod [] w0 w → Mod [] w0 (setN w b i vs)
  | [], _, _, m => m
  | v :: r, i, w, m => setN_mod hb r (i + 1) _ (m.setNew (p := ⟨b, i, none⟩) hb v)
theorem setN_size {b : Nat} : ∀ (vs : List Value) (i : Nat) (w : World), (setN w b i vs).heap.size = w.heap.size
  | [], _, _ => rfl
  | v :: r, i, w => (setN_size r (i + 1) _).trans (setCell_size _ _ _)
theorem setN_above {b B : Nat} (hb : b < B) : ∀ (vs : List Value) (i : Nat) (w : World), Above B w (setN w b i vs)
  | [], _, _ => fun _ _ _ => rfl
  | v :: r, i, w => (Above.set w (p := ⟨b, i, none⟩) hb v).then (by rw [setCell_size]; exact Nat.le_refl _) (setN_above hb r (i + 1) _)
theorem setN_other {b b' : Nat} (hb : b' ≠ b) : ∀ (vs : List Value) (i : Nat) (w : World), (setN w b i vs).heap[b']? = w.heap[b']?
  | [], _, _ => rfl
  | v :: r, i, w => (setN_other hb r (i + 1) _).trans (Below.heap_setCell w ⟨b, i, none⟩ v b' hb)
def putN (c : Array Value) : Nat → List Value → Array Value
  | _, [] => c
  | i, v :: r => putN (c.setIfInBounds i v) (i + 1) r
theorem setN_blk {b : Nat} {t : TypeId} : ∀ (vs : List Value) (i : Nat) (w : World) (c : Array Value), Blk w b c t → Blk (setN w b i vs) b (putN c i vs) t
  | [], _, _, _, h => h
  | v :: r, i, w, c, h => setN_blk r (i + 1) _ _ (h.set i v)
theorem putN_size : ∀ (vs : List Value) (i : Nat) (c : Array Value), (putN c i vs).size = c.size
  | [], _, _ => rfl
  | v :: r, i, c => (putN_size r (i + 1) _).trans (by simp)
theorem putN_out : ∀ (vs : List Value) (i q : Nat) (c : Array Value), (q < i ∨ i + vs.length ≤ q) → (putN c i vs)[q]? = c[q]?
  | [], _, _, _, _ => rfl
  | v :: r, i, q, c, h => by
    simp only [List.length_cons] at h
    exact (putN_out r (i + 1) q _ (by omega)).trans (Array.getElem?_setIfInBounds_ne (by omega))
theorem putN_in : ∀ (vs : List Value) (i j : Nat) (c : Array Value), j < vs.length → i + vs.length ≤ c.size → (putN c i vs)[i + j]? = vs[j]?
  | v :: r, i, 0, c, _, h => by
    simp only [List.length_cons] at h
    show (putN (c.setIfInBounds i v) (i + 1) r)[i]? = _
    rw [putN_out r (i + 1) i _ (by omega)]
    simp [show i < c.size by omega]
  | v :: r, i, j + 1, c, hj, h => by
    simp only [List.length_cons] at h hj
    have := putN_in r (i + 1) j (c.setIfInBounds i v) (by omega) (by simp; omega)
    rw [show i + (j + 1) = i + 1 + j by omega]
    exact this
theorem putN_all (vs : List Value) (c : Array Value) (h : vs.length = c.size) : putN c 0 vs = vs.toArray := by
  apply Array.ext_getElem?
  intro q
  rcases Nat.lt_or_ge q vs.length with hq | hq
  · have := putN_in vs 0 q c hq (by omega)
    rw [Nat.zero_add] at this
    rw [this]; simp
  · rw [putN_out vs 0 q c (by omega), Array.getElem?_eq_none (by omega)]
    simp; omega
theorem Blk.over {w : World} {b : Nat} {c : Array Value} {t : TypeId} (h : Blk w b c t) (vs : List Value) (hl : vs.length = c.size) : Blk (setN w b 0 vs) b vs.toArray t := by
  have := setN_blk vs 0 w c h
  rwa [putN_all vs c hl] at this
theorem Own.off {w0 w w' : World} {l : List (Nat × Array Value × TypeId)} (S : Own w0 w l) (m : Mod [] w0 w') (h : ∀ p ∈ l, w'.heap[p.1]? = w.heap[p.1]?) : Own w0 w' l := ⟨m, fun p hp => ⟨(S.blk p hp).1, (h p hp).trans (S.blk p hp).2⟩, S.nodup⟩
def FRows {α : Type} (k : Nat) (R : Nat → World → List Value → α → Prop) (B : Nat) (l : List α) (v : Value) (w : World) : Prop := Rows k R B w v l
theorem FRows.stays {α : Type} {k : Nat} {R : Nat → World → List Value → α → Prop} {B : Nat} {l : List α} (hR : Stay R) (v : Value) : Stays (FRows k R B l v) := fun _ _ h m => Rows.mod hR h m
theorem FRows.form {α : Type} {k : Nat} {R : Nat → World → List Value → α → Prop} {B : Nat} {l : List α} {v : Value} {w : World} (h : FRows k R B l v w) : ∃ oa c, v = .slice oa l.length c := by
  obtain ⟨oa, c, h, _⟩ := Rows.form h
  exact ⟨oa, c, h⟩
def Fill {α : Type} (k : Nat) (R : Nat → World → List Value → α → Prop) (B : Nat) (w : World) (b : Nat) (t : TypeId) (l : List α) (i : Nat) : Prop :=
  ∃ c : Array Value, Blk w b c t ∧ c.size = l.length * k ∧ ∀ j (h : j < l.length), j < i → ∃ cs, cs.length = k ∧ (∀ q, q < k → c[j * k + q]? = cs[q]?) ∧ R B w cs l[j]
section
variable {α : Type} {k B : Nat} {R : Nat → World → List Value → α → Prop} {w w' : World} {b : Nat} {t : TypeId} {l : List α} {i : Nat}
theorem Fill.start {c : Array Value} (h : Blk w b c t) (hs : c.size = l.length * k) : Fill k R B w b t l 0 := ⟨c, h, hs, fun j _ h => absurd h (Nat.not_lt_zero j)⟩
theorem Fill.mod (hR : Stay R) (h : Fill k R B w b t l i) (m : Mod [] w w') : Fill k R B w' b t l i := by
  obtain ⟨c, h1, h2, h3⟩ := h
  refine ⟨c, h1.kept m (by simp), h2, fun j hj hi => ?_⟩
  obtain ⟨cs, h4, h5, h6⟩ := h3 j hj hi
  exact ⟨cs, h4, h5, hR _ _ _ _ _ h6 (m.above B)⟩
theorem Fill.cell (h : Fill k R B w b t l i) {q : Nat} (hq : q < l.length * k) : ∃ v, w.cell? ⟨b, q, none⟩ = some v ∧ w.frozen? ⟨b, q, none⟩ = false := by
  obtain ⟨c, h1, h2, _⟩ := h
  exact ⟨c[q], by rw [h1.cell, Array.getElem?_eq_getElem (by omega)], h1.frozen q⟩
theorem Fill.set1 (hR : Stay R) (h : Fill 1 R B w b t l i) (hi : i < l.length) {v : Value} (hv : R B w [v] l[i]) (hb : b < B) : Fill 1 R B (w.setCell ⟨b, i, none⟩ v) b t l (i + 1) := by
  obtain ⟨c, h1, h2, h3⟩ := h
  have ha : Above B w (w.setCell ⟨b, i, none⟩ v) := Above.set w hb v
  refine ⟨c.setIfInBounds i v, h1.set i v, by simpa using h2, fun j hj hji => ?_⟩
  by_cases he : j = i
  · subst he
    refine ⟨[v], rfl, fun q hq => ?_, hR _ _ _ _ _ hv ha⟩
    obtain rfl : q = 0 := by omega
    simp [show j < c.size by omega]
  · obtain ⟨cs, h4, h5, h6⟩ := h3 j hj (by omega)
    refine ⟨cs, h4, fun q hq => ?_, hR _ _ _ _ _ h6 ha⟩
    rw [← h5 q hq, Array.getElem?_setIfInBounds_ne (by omega)]
theorem Fill.setK (hR : Stay R) (h : Fill k R B w b t l i) (hi : i < l.length) {cs : List Value} (hk : cs.length = k) (hv : R B w cs l[i]) (hb : b < B) : Fill k R B (setN w b (i * k) cs) b t l (i + 1) := by
  obtain ⟨c, h1, h2, h3⟩ := h
  have ha : Above B w (setN w b (i * k) cs) := setN_above hb _ _ _
  have hik : i * k + k ≤ l.length * k := by
    have := Nat.mul_le_mul_right k (show i + 1 ≤ l.length by omega)
    rw [Nat.add_mul] at this; omega
  refine ⟨putN c (i * k) cs, setN_blk cs _ _ _ h1, by rw [putN_size]; exact h2, fun j hj hji => ?_⟩
  by_cases he : j = i
  · subst he
    exact ⟨cs, hk, fun q hq => putN_in cs (j * k) q c (by omega) (by omega), hR _ _ _ _ _ hv ha⟩
  · obtain ⟨cs', h4, h5, h6⟩ := h3 j hj (by omega)
    refine ⟨cs', h4, fun q hq => ?_, hR _ _ _ _ _ h6 ha⟩
    have hjk : j * k + k ≤ i * k := by
      have := Nat.mul_le_mul_right k (show j + 1 ≤ i by omega)
      rw [Nat.add_mul] at this; omega
    rw [putN_out cs (i * k) (j * k + q) c (by omega)]
    exact h5 q hq
theorem Fill.after {wk : World} {c : Array Value} {cs : List Value} (hR : Stay R) (hs : c.size = l.length * k) (h3 : ∀ j (h : j < l.length), j < i → ∃ cs, cs.length = k ∧ (∀ q, q < k → c[j * k + q]? = cs[q]?) ∧ R B wk cs l[j]) (hi : i < l.length)
    (hA : Above B wk w) (hb : Blk w b (putN c (i * k) cs) t) (hk : cs.length = k) (hv : R B w cs l[i]) : Fill k R B w b t l (i + 1) := by
  have hik : i * k + k ≤ l.length * k := by
    have := Nat.mul_le_mul_right k (show i + 1 ≤ l.length by omega)
    rw [Nat.add_mul] at this; omega
  refine ⟨putN c (i * k) cs, hb, by rw [putN_size]; exact hs, fun j hj hji => ?_⟩
  by_cases he : j = i
  · subst he
    exact ⟨cs, hk, fun q hq => putN_in cs (j * k) q c (by omega) (by omega), hv⟩
  · obtain ⟨cs', h4, h5, h6⟩ := h3 j hj (by omega)
    refine ⟨cs', h4, fun q hq => ?_, hR _ _ _ _ _ h6 hA⟩
    have hjk : j * k + k ≤ i * k := by
      have := Nat.mul_le_mul_right k (show j + 1 ≤ i by omega)
      rw [Nat.add_mul] at this; omega
    rw [putN_out cs (i * k) (j * k + q) c (by omega)]
    exact h5 q hq
theorem Fill.done {B' cap : Nat} (hR : Lower R) (h : Fill k R B w b t l l.length) (hl : l.length ≤ maxLen) (hb : B' ≤ b) (hB : B' ≤ B) : Rows k R B' w (.slice (some ⟨b, 0, none⟩) l.length cap) l := by
  obtain ⟨c, h1, h2, h3⟩ := h
  refine ⟨_, cap, rfl, hl, fun i hi => ⟨_, rfl, hb, ?_⟩⟩
  obtain ⟨cs, h4, h5, h6⟩ := h3 i hi hi
  refine ⟨cs, h4, fun j hj => ?_, hR _ _ _ _ _ h6 hB⟩
  rw [addr_add_add]
  have e : (⟨b, 0, Option.none⟩ : Addr).add (i * k + j) = ⟨b, i * k + j, Option.none⟩ := by unfold Addr.add; split <;> simp_all
  rw [e, h1.cell, h5 j hj]
end
end Go.Proofs.Ytaloembfekdkoaa

namespace Go.Proofs.Ytaloembfekdkoaa
open Go.RowKit
set_option linter.unusedVariables false
section
variable {w0 w w' : World} {B : Nat} {e : TypeId} {size : Nat} {v : Value} {n : Nat} {xs : List Value}
theorem own_form (h : w.ownsRow B e size v n xs) : ∃ oa c, v = .slice oa n c := by
  rcases h.2 with ⟨rfl, hn⟩ | ⟨g, cap, cur, rfl, _⟩
  · exact ⟨none, 0, by rw [hn]⟩
  · exact ⟨_, _, rfl⟩
theorem owns_mod (h : w.ownsRow B e size v n xs) (m : Mod [] w w') : w'.ownsRow B e size v n xs :=
  h.kept (row := none) ⟨m.os, m.tape, m.output, m.size, fun k hk _ => m.block k hk (by simp)⟩ (by cases v.ownBlock <;> simp)
theorem owns_set (h : w.ownsRow B e size v n xs) {p : Addr} (hp : p.block < B) (x : Value) : (w.setCell p x).ownsRow B e size v n xs := by
  refine h.kept (row := some p.block) ⟨rfl, rfl, rfl, by simp, fun k hk hn => Below.heap_setCell w p x k (fun he => hn (by rw [he]))⟩ ?_
  right
  intro he
  have := h.lt p.block he
  omega
theorem Own.grown {l : List (Nat × Array Value × TypeId)} {row : Option Nat} (S : Own w0 w l) (g : w.grownBy w' row) (hr : ∀ k, row = some k → B ≤ k) (hB : w0.heap.size ≤ B) (hl : ∀ p ∈ l, p.1 < B) : Own w0 w' l := by
  refine ⟨⟨g.os.trans S.mod.os, g.tape.trans S.mod.tape, g.output.trans S.mod.output, Nat.le_trans S.mod.size g.size, fun k hk hn => ?_⟩, fun p hp => ⟨(S.blk p hp).1, ?_⟩, S.nodup⟩
  · rw [g.block k (Nat.lt_of_lt_of_le hk S.mod.size) (fun he => by have := hr k he.symm; omega), S.mod.block k hk hn]
  · exact (g.block p.1 (S.blk p hp).2.lt (fun he => by have := hr _ he.symm; have := hl p hp; omega)).trans (S.blk p hp).2
end
def NewSl (B : Nat) (cs : Array Value) (t : TypeId) (n : Nat) (v : Value) (w : World) : Prop := ∃ b, v = .slice (some ⟨b, 0, none⟩) n n ∧ B ≤ b ∧ Blk w b cs t
theorem NewSl.stays (B : Nat) (cs : Array Value) (t : TypeId) (n : Nat) (v : Value) : Stays (NewSl B cs t n v) := fun _ _ ⟨b, h1, h2, h3⟩ m => ⟨b, h1, h2, h3.kept m (by simp)⟩
theorem late_slice {P : Program} {W : World} {o : Oper} {a : Act} {cs : Array Value} {t : TypeId} {n : Nat} (h : ∀ w, (execOp a.eval o).run P w = .ok (.value (.slice (some ⟨w.heap.size, 0, none⟩) n n)) (w.alloc (.cells cs t))) : Late P o a W (NewSl W.heap.size cs t n) := by
  intro w hw
  unfold Oper.wp
  rw [h w]
  exact ⟨_, rfl, (Mod.refl _ _).alloc _, w.heap.size, rfl, hw.size, Blk.new w cs t⟩
end Go.Proofs.Ytaloembfekdkoaa

namespace Go.Proofs.Ytaloembfekdkoaa
open Go.RowKit
set_option linter.unusedVariables false
namespace Sq
abbrev Fact := Value → World → Prop
section
variable {P : Program} {ops : Array Oper} {md : Region.Mode} {W : World} {L : Nat → Option Fact}
def mOp (P : Program) (ops : Array Oper) (W : World) (L : Nat → Option (Value → World → Prop)) (i : Nat) (K : Act → (World → Prop) → Prop) (a : Act) (F : World → Prop) : Prop :=
  match ops[i]?, L i with
  | some o, none => if Region.wanted o (yielded ops a.tmps) then ∃ v, Steady P o a W v ∧ K (a.put o.dst v) F else K (a.put o.dst undef) F
  | some o, some T => o.guard = none ∧ Ch.LateF P o a W F T ∧ ∀ v, (∃ w, F w ∧ T v w) → K (a.put o.dst v) (fun w => F w ∧ T v w)
  | none, _ => False
def wpAnyM (P : Program) (md : Region.Mode) (ops : Array Oper) (W : World) (L : Nat → Option (Value → World → Prop)) (n : Nat) (Fin : Array Bool → Act → (World → Prop) → Prop) : Nat → Array Bool → Act → (World → Prop) → Prop
  | 0, listed, a, F => Fin listed a F
  | f + 1, listed, a, F => Region.ready md ops listed ≠ [] ∧ ∀ i ∈ Region.ready md ops listed, i < n ∧ mOp P ops W L i (wpAnyM P md ops W L n Fin f (listed.setIfInBounds i true)) a F
theorem wpOp_of_mOp {i : Nat} {a : Act} {F : World → Prop} {K : Act → (World → Prop) → Prop} {K' : Act → World → Prop} {Q : Exit → Act → World → Prop} {w : World}
    (hT : ∀ i T, L i = some T → ∀ v, Stays (T v)) (hs : Stays F) (hw : Mod [] W w) (hF : F w) (h : ∀ a F w', Mod [] W w' → Stays F → F w' → K a F → K' a w') (hh : mOp P ops W L i K a F) : wpOp P ops Q i K' a w := by
  unfold mOp at hh
  unfold wpOp
  split at hh
  · rename_i o ho hl
    simp only [ho]
    split
    · rename_i hwn; simp only [hwn, if_true] at hh
      obtain ⟨v, h1, h2⟩ := hh
      exact .inl (wp_of_steady hw h1 fun w' m => h _ _ _ (hw.then m) hs (hs _ _ hF m) h2)
    · rename_i hwn; simp only [hwn] at hh; exact h _ _ _ hw hs hF hh
  · rename_i o T ho hl
    obtain ⟨hg, h1, h2⟩ := hh
    simp only [ho, Region.wanted, hg, if_true]
    exact .inl (Ch.wp_of_lateF hw hF h1 fun v w' m t => h _ _ _ (hw.then m) (fun x y hx hm => ⟨hs _ _ hx.1 hm, hT i T hl v _ _ hx.2 hm⟩) ⟨hs _ _ hF m, t⟩ (h2 v ⟨w', hs _ _ hF m, t⟩))
  · exact hh.elim
theorem wpAny_of_M {n g : Nat} {Fin : Array Bool → Act → (World → Prop) → Prop} {Q : Exit → Act → World → Prop} (hT : ∀ i T, L i = some T → ∀ v, Stays (T v))
    (hFin : ∀ listed a F w, Mod [] W w → F w → Fin listed a F → wpAny P md ops Q g listed a w) :
    ∀ (f : Nat) (listed : Array Bool) (a : Act) (F : World → Prop) (w : World), Stays F → Mod [] W w → F w → wpAnyM P md ops W L n Fin f listed a F → wpAny P md ops Q (f + g) listed a w
  | 0, listed, a, F, w, _, hw, hF, h => by rw [Nat.zero_add]; exact hFin _ _ _ _ hw hF h
  | f + 1, listed, a, F, w, hs, hw, hF, h => by
    rw [show f + 1 + g = (f + g) + 1 by omega]
    exact ⟨fun h0 => absurd h0 h.1, fun i hi => wpOp_of_mOp hT hs hw hF (fun a' F' w' hw' hs' hF' h' => wpAny_of_M hT hFin f _ a' F' w' hs' hw' hF' h') (h.2 i hi).2⟩
theorem YieldsS_mOp {i : Nat} {o : Oper} {v : Value} {a : Act} {F : World → Prop} (hi : ops[i]? = some o) (hl : L i = none) (hy : YieldsS P ops W o v a) {K : Act → (World → Prop) → Prop} (h : K (a.put o.dst v) F) : mOp P ops W L i K a F := by
  unfold mOp
  simp only [hi, hl]
  rcases hy with ⟨hw, hv⟩ | ⟨hw, rfl⟩
  · simp only [hw, if_true]; exact ⟨v, hv, h⟩
  · simp only [hw, Bool.false_eq_true, if_false]; exact h
theorem mOp_put {j : Nat} {oi oj : Oper} {v : Value} (hj : ops[j]? = some oj) (hap : oi.apart ops oj = true)
    (hsi : ∀ cs b, oi.op ≠ .select cs b) (hsj : ∀ cs b, oj.op ≠ .select cs b) {K : Act → (World → Prop) → Prop} {a : Act} {F : World → Prop}
    (hy : YieldsS P ops W oi v a) (h : mOp P ops W L j K (a.put oi.dst v) F) :
    mOp P ops W L j (fun a' F' => YieldsS P ops W oi v a' ∧ K (a'.put oi.dst v) F') a F := by
  obtain ⟨h1, h2, h3⟩ := Oper.apart_spec hap
  have h2' : ∀ d, oj.dst = some d → oi.dst ≠ some d := fun d hd hi' => h2 d hi' hd
  have keep : ∀ (a : Act), YieldsS P ops W oi v a → ∀ u, YieldsS P ops W oi v (a.put oj.dst u) := fun a hy u => by
    unfold YieldsS at *
    rw [wanted_put oi a oj.dst u h3]
    exact hy.imp (fun hh => ⟨hh.1, late_put' hsi h3 h2' hh.2⟩) id
  unfold mOp at *
  cases hl : L j with
  | none =>
    simp only [hj, hl] at h ⊢
    rw [wanted_put oj a oi.dst v h1] at h
    split
    · rename_i hw
      simp only [hw, if_true] at h
      obtain ⟨u, hu, hn⟩ := h
      exact ⟨u, late_put hsj h1 h2 hu, keep a hy u, by rw [← Act.put_comm a v u h2]; exact hn⟩
    · rename_i hw
      simp only [hw] at h
      exact ⟨keep a hy _, by rw [← Act.put_comm a v undef h2]; exact h⟩
  | some T =>
    simp only [hj, hl] at h ⊢
    exact ⟨h.1, Ch.lateF_put hsj h1 h2 h.2.1, fun u hu => ⟨keep a hy u, by rw [← Act.put_comm a v u h2]; exact h.2.2 u hu⟩⟩
theorem mOp_same {j : Nat} {a : Act} {F : World → Prop} {K K' : Act → (World → Prop) → Prop} (h : ∀ a F, K a F → K' a F) (hh : mOp P ops W L j K a F) : mOp P ops W L j K' a F := by
  unfold mOp at *
  split
  · rename_i o ho hl
    simp only [ho, hl] at hh
    split
    · rename_i hw; simp only [hw, if_true] at hh; obtain ⟨v, h1, h2⟩ := hh; exact ⟨v, h1, h _ _ h2⟩
    · rename_i hw; simp only [hw] at hh; exact h _ _ hh
  · rename_i o T ho hl
    simp only [ho, hl] at hh
    exact ⟨hh.1, hh.2.1, fun v hv => h _ _ (hh.2.2 v hv)⟩
  · rename_i ho
    simp only [ho] at hh
theorem wpAnyM_first {n i : Nat} {oi : Oper} {v : Value} {Fin : Array Bool → Act → (World → Prop) → Prop} (hi : ops[i]? = some oi) (hl : L i = none) (hsel : ∀ (j : Nat) (o : Oper) cs b, ops[j]? = some o → o.op ≠ .select cs b)
    (ht : Region.tailB md ops n = true) (hin : i < n) (hdone : ∀ listed a F, Fin listed a F → ∀ j ∈ Region.ready md ops listed, n ≤ j) :
    ∀ (f : Nat) (listed : Array Bool) (a : Act) (F : World → Prop), HeadInv md ops n listed →
      (∀ j oj, ops[j]? = some oj → j ≠ i → listed.getD j true = false → (∀ e ∈ oj.after, Region.binds md e = true → e.on ≠ i) → oi.apart ops oj = true) →
      i ∈ Region.ready md ops listed → YieldsS P ops W oi v a →
      wpAnyM P md ops W L n Fin f (listed.setIfInBounds i true) (a.put oi.dst v) F → wpAnyM P md ops W L n Fin (f + 1) listed a F := by
  intro f
  induction f with
  | zero =>
    intro listed a F inv _ hr hy H
    have hun := (mem_ready.1 hr).1
    refine ⟨fun h => (by rw [h] at hr; cases hr), fun j hj => ?_⟩
    have hjn := ready_lt ht inv hin hun hj
    refine ⟨hjn, ?_⟩
    by_cases hji : j = i
    · subst hji; exact YieldsS_mOp hi hl hy H
    · have := hdone _ _ _ H j (ready_mono hj hji)
      omega
  | succ f ih =>
    intro listed a F inv hfree hr hy H
    have hun := (mem_ready.1 hr).1
    refine ⟨fun h => (by rw [h] at hr; cases hr), fun j hj => ?_⟩
    have hjn := ready_lt ht inv hin hun hj
    refine ⟨hjn, ?_⟩
    by_cases hji : j = i
    · subst hji; exact YieldsS_mOp hi hl hy H
    · have h1 := (H.2 j (ready_mono hj hji)).2
      obtain ⟨hjun, oj, hoj, hall⟩ := mem_ready.1 hj
      have hnot : ∀ e ∈ oj.after, Region.binds md e = true → e.on ≠ i := fun e he hb heq => by
        have h1 := hall e he hb
        rw [heq, getD_both hun] at h1
        cases h1
      have h2 := mOp_put hoj (hfree j oj hoj hji hjun hnot) (fun cs b => hsel i oi cs b hi) (fun cs b => hsel j oj cs b hoj) hy h1
      have hfree' : ∀ k ok, ops[k]? = some ok → k ≠ i → (listed.setIfInBounds j true).getD k true = false →
          (∀ e ∈ ok.after, Region.binds md e = true → e.on ≠ i) → oi.apart ops ok = true := fun k ok hk hki hun hno => by
        refine hfree k ok hk hki ?_ hno
        by_cases hjk : j = k
        · subst hjk; exact hjun
        · rw [getD_set_ne true hjk] at hun; exact hun
      refine mOp_same (fun a' F' h3 => ih (listed.setIfInBounds j true) a' F' (inv.set hj hjn) hfree' (ready_mono hr (Ne.symm hji)) h3.1 ?_) h2
      rw [Array.setIfInBounds_comm _ _ hji]
      exact h3.2
def wpToks (P : Program) (ops : Array Oper) (W : World) (E : Act → (World → Prop) → Prop) : List (Nat × Option Fact) → Act → (World → Prop) → Prop
  | [], a, F => E a F
  | p :: l, a, F => match ops[p.1]?, p.2 with
    | none, _ => False
    | some o, none => if Region.wanted o (yielded ops a.tmps) then ∃ v, Steady P o a W v ∧ wpToks P ops W E l (a.put o.dst v) F else wpToks P ops W E l (a.put o.dst undef) F
    | some o, some T => o.guard = none ∧ Ch.LateF P o a W F T ∧ ∀ v, (∃ w, F w ∧ T v w) → wpToks P ops W E l (a.put o.dst v) (fun w => F w ∧ T v w)
def toksB (md : Region.Mode) (ops : Array Oper) (n : Nat) : List (Nat × Bool) → Array Bool → Bool
  | [], listed => Region.seqB md ops (ops.size - n) n listed
  | p :: l, listed => decide (p.1 < n) && (if p.2 then Region.ready md ops listed == [p.1] else (Region.ready md ops listed).contains p.1 && Region.free md ops listed p.1) && toksB md ops n l (listed.setIfInBounds p.1 true)
theorem wpAnyM_toks {n : Nat} {E : Act → (World → Prop) → Prop} (hsel : Region.noSelect ops = true) (ht : Region.tailB md ops n = true) :
    ∀ (l : List (Nat × Option Fact)) (listed : Array Bool) (a : Act) (F : World → Prop), HeadInv md ops n listed → toksB md ops n (l.map fun p => (p.1, p.2.isSome)) listed = true → (∀ p ∈ l, L p.1 = p.2) → wpToks P ops W E l a F →
      wpAnyM P md ops W L n (fun listed' a' F' => Region.seqB md ops (ops.size - n) n listed' = true ∧ E a' F') l.length listed a F
  | [], listed, a, F, inv, hB, hL, h => ⟨hB, h⟩
  | (i, none) :: l, listed, a, F, inv, hB, hL, h => by
    simp only [List.map_cons, toksB, Bool.and_eq_true, decide_eq_true_eq, Option.isSome_none, Bool.false_eq_true, if_false] at hB
    obtain ⟨⟨hin, hr, hf⟩, hB'⟩ := hB
    have hr' : i ∈ Region.ready md ops listed := by simpa using hr
    unfold wpToks at h
    cases ho : ops[i]? with
    | none => simp only [ho] at h
    | some o =>
      simp only [ho] at h
      obtain ⟨v, hy, hk⟩ : ∃ v, YieldsS P ops W o v a ∧ wpToks P ops W E l (a.put o.dst v) F := by
        by_cases hw : Region.wanted o (yielded ops a.tmps) = true
        · simp only [hw, if_true] at h
          obtain ⟨v, h1, h2⟩ := h
          exact ⟨v, .inl ⟨hw, h1⟩, h2⟩
        · simp only [hw] at h
          exact ⟨undef, .inr ⟨by simpa using hw, rfl⟩, h⟩
      exact wpAnyM_first ho (hL (i, none) (by simp)) (Region.noSelect_spec hsel) ht hin (fun listed a F hf => seqB_ready hf.1) l.length listed a F inv (Region.free_spec ho hf) hr' hy
        (wpAnyM_toks hsel ht l _ _ _ (inv.set hr' hin) hB' (fun p hp => hL p (List.mem_cons_of_mem _ hp)) hk)
  | (i, some T) :: l, listed, a, F, inv, hB, hL, h => by
    simp only [List.map_cons, toksB, Bool.and_eq_true, decide_eq_true_eq, Option.isSome_some, if_true] at hB
    obtain ⟨⟨hin, hr⟩, hB'⟩ := hB
    have hr' : Region.ready md ops listed = [i] := by simpa using hr
    unfold wpToks at h
    cases ho : ops[i]? with
    | none => simp only [ho] at h
    | some o =>
      simp only [ho] at h
      refine ⟨by rw [hr']; simp, fun j hj => ?_⟩
      rw [hr'] at hj
      obtain rfl := List.mem_singleton.1 hj
      refine ⟨hin, ?_⟩
      unfold mOp
      simp only [ho, hL (j, some T) (by simp)]
      exact ⟨h.1, h.2.1, fun v hv => wpAnyM_toks hsel ht l _ _ _ (inv.set (by rw [hr']; simp) hin) hB' (fun p hp => hL p (List.mem_cons_of_mem _ hp)) (h.2.2 v hv)⟩
def lookT (l : List (Nat × Option Fact)) (i : Nat) : Option Fact := (l.find? fun p => p.1 == i).bind (·.2)
theorem lookT_mem : ∀ (l : List (Nat × Option Fact)), (l.map (·.1)).Nodup → ∀ p ∈ l, lookT l p.1 = p.2
  | q :: l, hn, p, hp => by
    simp only [List.map_cons, List.nodup_cons] at hn
    unfold lookT
    by_cases hq : q.1 = p.1
    · rw [List.find?_cons_of_pos (by simpa using hq)]
      rcases List.mem_cons.1 hp with h | h
      · rw [h]; rfl
      · exact absurd (by rw [hq]; exact List.mem_map_of_mem h) hn.1
    · rw [List.find?_cons_of_neg (by simpa using hq)]
      rcases List.mem_cons.1 hp with h | h
      · exact absurd (by rw [h]) hq
      · exact lookT_mem l hn.2 p h
theorem lookT_some {l : List (Nat × Option Fact)} {i : Nat} {T : Fact} (h : lookT l i = some T) : (i, some T) ∈ l := by
  unfold lookT at h
  cases hf : l.find? (fun p => p.1 == i) with
  | none => rw [hf] at h; cases h
  | some p =>
    rw [hf] at h
    have h1 := List.find?_some hf
    have h2 := List.mem_of_find?_eq_some hf
    simp only [beq_iff_eq] at h1
    obtain ⟨q, r⟩ := p
    simp only at h1
    subst h1
    simp only [Option.bind_some] at h
    subst h
    exact h2
structure WToks (P : Program) (ops : Array Oper) (W : World) (E : Act → (World → Prop) → Prop) (l : List (Nat × Option Fact)) (a : Act) (F : World → Prop) : Prop where
  out : wpToks P ops W E l a F
def ndB : List Nat → Bool
  | [] => true
  | x :: l => !l.contains x && ndB l
theorem nodup_of : ∀ {l : List Nat}, ndB l = true → l.Nodup
  | [], _ => List.nodup_nil
  | x :: l, h => by
    simp only [ndB, Bool.and_eq_true, Bool.not_eq_true'] at h
    exact List.nodup_cons.2 ⟨by simpa using h.1, nodup_of h.2⟩
theorem wp_region_toks {id : Nat} {Q : Exit → Act → World → Prop} {a : Act} {w : World} {l : List Oper} (n : Nat) (toks : List (Nat × Option Fact))
    (hm : P.follows .mixedOrders = true) (hB : (Region.noSelect l.toArray && decide (n ≤ l.length) && decide (toks.length = n) && Region.tailB .any l.toArray n && toksB .any l.toArray n (toks.map fun p => (p.1, p.2.isSome)) (Array.replicate l.toArray.size false)) = true)
    (hn : (toks.map (·.1)).Nodup) (hT : ∀ p ∈ toks, ∀ T, p.2 = some T → ∀ v, Stays (T v))
    (h : WToks P l.toArray w (fun a' F => ∀ w', Mod [] w w' → F w' → wpList P l.toArray Q (l.drop n) a' w') toks a (fun _ => True)) :
    (Code.region id l.toArray true).wp P Q a w := by
  simp only [Bool.and_eq_true, decide_eq_true_eq] at hB
  obtain ⟨⟨⟨⟨hsel, hnl⟩, hlen⟩, ht⟩, hB'⟩ := hB
  have inv0 : HeadInv .any l.toArray n (Array.replicate l.toArray.size false) :=
    ⟨by simp, fun j oj _ hl => (by rw [getD_replicate_false] at hl; cases hl), fun t _ ht => getD_in (by simpa using ht) (getD_replicate_false _ _)⟩
  have H := wpAnyM_toks (P := P) (W := w) (L := lookT toks) hsel ht toks _ a _ inv0 hB' (lookT_mem toks hn) h.out
  refine wp_region_any hm ?_
  have hdl : (l.drop n).length = l.toArray.size - n := by simp
  have hfin := wpAny_of_M (P := P) (md := .any) (ops := l.toArray) (W := w) (Q := Q) (g := l.toArray.size - n) (fun i T hi v => hT _ (lookT_some hi) T rfl v) (fun listed a F w' hw hF hf => by
    have := wpAny_of_seq (md := .any) (Q' := Q) (l.drop n) n listed a w' (fun j => by simp [List.getElem?_drop]) (by rw [hdl]; exact hf.1) (hf.2 w' hw hF)
    rwa [hdl] at this) _ _ _ _ { w with drawn := w.drawn + 1 } (fun _ _ _ _ => trivial) ((Mod.refl [] w).drew) trivial H
  have hl2 : toks.length + (l.toArray.size - n) = l.toArray.size := by simp; omega
  rwa [hl2] at hfin
theorem nil_go {E : Act → (World → Prop) → Prop} {a : Act} {F : World → Prop} (h : E a F) : WToks P ops W E [] a F := ⟨h⟩
theorem v_go {E : Act → (World → Prop) → Prop} {l : List (Nat × Option Fact)} {a a' : Act} {F : World → Prop} {i : Nat} {o : Oper} (ho : ops[i]? = some o) (hg : Region.wanted o (yielded ops a.tmps) = true) (hd : a'.defers = a.defers)
    (h : ∀ w, Mod [] W w → ∀ (K : Act → World → Prop) (Q : Exit → Act → World → Prop), (∀ w', Mod [] w w' → K a' w') → o.wp P a w K Q) (hr : WToks P ops W E l a' F) : WToks P ops W E ((i, none) :: l) a F := by
  refine ⟨?_⟩
  obtain ⟨u, hu⟩ := put_of_wp (R := fun _ => True) hd (h W (Mod.refl _ _) _ _ fun w' _ => ⟨rfl, trivial⟩)
  unfold wpToks
  simp only [ho]
  rw [if_pos hg]
  refine ⟨u, fun w hw => h w hw _ _ fun w' m => ⟨u, hu.symm, m, rfl⟩, ?_⟩
  rw [hu]
  exact hr.out
theorem k_go {E : Act → (World → Prop) → Prop} {l : List (Nat × Option Fact)} {a : Act} {F : World → Prop} {T : Fact} {f : Value → Act} {i : Nat} {o : Oper} (ho : ops[i]? = some o) (hg : o.guard = none) (hf : ∀ v, f v = a.put o.dst v)
    (h : ∀ w, Mod [] W w → F w → ∀ (K : Act → World → Prop) (Q : Exit → Act → World → Prop), (∀ v w', Mod [] w w' → T v w' → K (f v) w') → o.wp P a w K Q)
    (hk : ∀ v, (∃ w, F w ∧ T v w) → WToks P ops W E l (f v) (fun w => F w ∧ T v w)) : WToks P ops W E ((i, some T) :: l) a F := by
  refine ⟨?_⟩
  unfold wpToks
  simp only [ho]
  refine ⟨hg, fun w hw hF => h w hw hF _ _ fun v w' m t => ⟨v, hf v, m, t⟩, fun v hv => ?_⟩
  rw [← hf v]
  exact (hk v hv).out
end
end Sq
end Go.Proofs.Ytaloembfekdkoaa

namespace Go.Proofs.Ytaloembfekdkoaa
end Go.Proofs.Ytaloembfekdkoaa
