/- H0, Bytes, Frame, Mono, Data, RowK, OwnRow, DataS, Grow, MkInfo, MkPlain. -/
import Derived.Test.YthheaflbbficgaaGreatProg
import Derived.Lib.Hide
import Derived.Test.YthheaflbbficgaaGreatRows
import Derived.WalkKit
import Derived.WalkSpells
import Derived.WalkLawsBesides
import Derived.Laws.IdiomStrings
import Derived.StillTail
import Derived.ProofKit
import Derived.OpenShut
import Derived.Lib.SmallJoins
import Derived.Laws.CopyRow
import Derived.Laws.MakeOwn
import Derived.Tactics
import Derived.Laws.AppendOwn
set_option linter.all false
namespace Go.Proofs.YthheaflbbficgaaGreat
theorem dT {p:Prop} [Decidable p] (h:p):decide p=true:=decide_eq_true h
theorem dF {p:Prop} [Decidable p] (h:¬p):decide p=false:=decide_eq_false h
theorem gZ {α:Type} {a:α} {l:List α}:(a::l)[0]?=some a:=List.getElem?_cons_zero
theorem gS {α:Type} {a:α} {l:List α} {i:Nat}:(a::l)[i+1]?=l[i]?:=List.getElem?_cons_succ
theorem gA {α:Type} {l:List α} {i:Nat}:l.toArray[i]?=l[i]?:=List.getElem?_toArray
theorem qS {α:Type} {a:α} {l:List α} {i:Nat}:(a::l).drop (i+1)=l.drop i:=List.drop_succ_cons
theorem qZ {α:Type} {l:List α}:l.drop 0=l:=List.drop_zero
theorem mI {α:Type} {a b:α}:a ∈ [b]↔a=b:=List.mem_singleton
theorem mM {α:Type} {β:Type} {f:α->β} {l:List α} {a:α} (h:a ∈ l):f a ∈ l.map f:=List.mem_map_of_mem h
theorem gE {α:Type} {l:List α} {i:Nat} (h:i<l.length):l[i]?=some l[i]:=List.getElem?_eq_getElem h
theorem gI {α:Type} {l:List α} {i:Nat} {a:α}:l[i]?=some a↔∃ h:i<l.length,l[i]=a:=List.getElem?_eq_some_iff
theorem nT {n m k:Nat} (h:n<=m) (h2:m<=k):n<=k:=Nat.le_trans h h2
theorem nR (n:Nat):n<=n:=Nat.le_refl n
theorem Hi {p:Prop} (h:p):RowKit.Hid p:=h
open Go.RowKit
def bcell (b:UInt8):Value:=.int .u8 b.toNat
def bs (l:List UInt8):ByteArray:=⟨l.toArray⟩
theorem foldl_push (ns:List UInt8):∀ (s:ByteArray),(ns.map fun b=>(b.toNat:Int)).foldl (fun r n=>r.push (UInt8.ofNat n.toNat)) s=⟨s.data++ns.toArray⟩:=by
 induction ns with
 | nil=>intro s;simp
 | cons b r ih =>
  intro s;simp only [List.map_cons,List.foldl_cons,Int.toNat_natCast,UInt8.ofNat_toNat];rw [ih]
  congr 1
  show s.data.push b++r.toArray=_;apply Array.ext';simp
theorem conv_bytes {P:Program} (w:World) (src dst e:TypeId) (a:Addr) (cap:Nat) (l:List UInt8)
  (hs:P.underlying src=some (.slice e)) (he:P.underlying e=some (.int .u8)) (hd:P.underlying dst=some .string)
  (h:∀ j u,l[j]?=some u->w.cell? (a.add j)=some (bcell u)) :
  (convert src dst (.slice (some a) l.length cap)).run P w=.ok (.string (bs l)) w:=by
 rw [run_convert_bytes_string w src dst e _ _ _ hs he hd]
 have hl:=run_loadCells_list (P:=P) w a (l.map bcell) (fun j v hv=>by
  rw [List.getElem?_map] at hv;cases hj:l[j]? with
  | none=>rw [hj] at hv;simp at hv
  | some u=>rw [hj] at hv;simp at hv;subst hv;exact h j u hj)
 rw [List.length_map] at hl;rw [run_bytesToString w a l.length cap (l.map fun b=>(b.toNat:Int)) (by rw [hl];simp only [List.map_map];rfl)];rw [foldl_push]
 congr 2
 show (⟨(#[]:Array UInt8)++l.toArray⟩:ByteArray)=_;simp [bs]
structure Mod (l:List Nat) (w w':World):Prop where
 os:w'.os=w.os
 tape:w'.tape=w.tape
 output:w'.output=w.output
 size:w.heap.size<=w'.heap.size
 block:∀ k,k<w.heap.size->k ∉ l->w'.heap[k]?=w.heap[k]?
theorem Mod.refl (l:List Nat) (w:World):Mod l w w:=⟨rfl,rfl,rfl,nR _,fun _ _ _=>rfl⟩
theorem mR {F:List Nat} {w:World}:Mod F w w:=Mod.refl F w
theorem Mod.trans {l l':List Nat} {a b c:World} (h:Mod l a b) (k:Mod l' b c) (hl:∀ x∈l',x<a.heap.size->x∈l):Mod l a c :=
 ⟨k.os.trans h.os,k.tape.trans h.tape,k.output.trans h.output,nT h.size k.size,fun x hx hn =>
  (k.block x (Nat.lt_of_lt_of_le hx h.size) (fun hm=>hn (hl x hm hx))).trans (h.block x hx hn)⟩
theorem Mod.then {l:List Nat} {a b c:World} (h:Mod l a b) (k:Mod l b c):Mod l a c:=h.trans k (fun _ hx _=>hx)
theorem Mod.more {l l':List Nat} {a b:World} (h:Mod l a b) (hl:∀ x∈l,x<a.heap.size->x∈l'):Mod l' a b :=
 ⟨h.os,h.tape,h.output,h.size,fun x hx hn=>h.block x hx (fun hm=>hn (hl x hm hx))⟩
theorem Mod.drew {l:List Nat} {a w:World} (h:Mod l a w):Mod l a w.drew:=⟨h.os,h.tape,h.output,h.size,h.block⟩
theorem Mod.drewN {l:List Nat} {a w:World} (n:Nat) (h:Mod l a w):Mod l a (w.drewN n):=⟨h.os,h.tape,h.output,h.size,h.block⟩
theorem Mod.alloc {l:List Nat} {a w:World} (h:Mod l a w) (o:Obj):Mod l a (w.alloc o):=by
 refine ⟨h.os,h.tape,h.output,nT h.size (by show _<=(w.heap.push o).size;simp),fun k hk hn=>?_⟩;rw [Below.heap_alloc w o k (Nat.lt_of_lt_of_le hk h.size)];exact h.block k hk hn
theorem setCell_size (w:World) (a:Addr) (u:Value):(w.setCell a u).heap.size=w.heap.size:=by simp
theorem Mod.setCell {l:List Nat} {a w:World} (h:Mod l a w) {p:Addr} (hp:p.block<a.heap.size->p.block∈l) (u:Value):Mod l a (w.setCell p u):=by
 refine ⟨h.os,h.tape,h.output,by rw [setCell_size];exact h.size,fun k hk hn=>?_⟩;rw [Below.heap_setCell w p u k (fun e=>hn (e ▸ hp (e ▸ hk)))];exact h.block k hk hn
theorem Mod.setNew {l:List Nat} {a w:World} (h:Mod l a w) {p:Addr} (hp:a.heap.size<=p.block) (u:Value):Mod l a (w.setCell p u) :=
 h.setCell (fun h=>absurd h (Nat.not_lt.2 hp)) u
theorem Mod.below {l:List Nat} {B:Nat} {w w':World} (h:Mod l w w') (hB:B<=w.heap.size) (hl:∀ k∈l,B<=k):Below B w w' :=
 ⟨h.os,h.tape,h.output,h.size,fun k hk=>h.block k (Nat.lt_of_lt_of_le hk hB) (fun hm=>absurd (hl k hm) (Nat.not_le.2 hk))⟩
theorem Mod.to_below {w w':World} (h:Mod [] w w'):Below w.heap.size w w':=h.below (nR _) (by simp)
theorem Mod.cell {l:List Nat} {w w':World} (h:Mod l w w') {p:Addr} (hp:p.block<w.heap.size) (hn:p.block ∉ l):w'.cell? p=w.cell? p :=
 World.cell?_of_block (w:=w) (h.block p.block hp hn)
def Blk (w:World) (b:Nat) (cs:Array Value) (t:TypeId):Prop:=w.heap[b]?=some (.cells cs t (0,0))
theorem Blk.lt {w:World} {b:Nat} {cs:Array Value} {t:TypeId} (h:Blk w b cs t):b<w.heap.size:=by
 rcases Nat.lt_or_ge b w.heap.size with h' | h'
 ·exact h'
 ·unfold Blk at h;rw [Array.getElem?_eq_none h'] at h;simp at h
theorem Blk.new (w:World) (cs:Array Value) (t:TypeId):Blk (w.alloc (.cells cs t)) w.heap.size cs t:=by
 show (w.heap.push _)[w.heap.size]?=_;simp
theorem Blk.alloc {w:World} {b:Nat} {cs:Array Value} {t:TypeId} (h:Blk w b cs t) (o:Obj):Blk (w.alloc o) b cs t :=
 (Below.heap_alloc w o b h.lt).trans h
theorem Blk.kept {w w':World} {b:Nat} {cs:Array Value} {t:TypeId} {l:List Nat} (h:Blk w b cs t) (m:Mod l w w') (hn:b ∉ l):Blk w' b cs t :=
 (m.block b h.lt hn).trans h
theorem Blk.cell {w:World} {b:Nat} {cs:Array Value} {t:TypeId} (h:Blk w b cs t) (i:Nat):w.cell? ⟨b,i,none⟩=cs[i]?:=by
 unfold Blk at h;simp [World.cell?,h]
theorem Blk.frozen {w:World} {b:Nat} {cs:Array Value} {t:TypeId} (h:Blk w b cs t) (i:Nat):w.frozen? ⟨b,i,none⟩=false:=by
 unfold Blk at h;simp [World.frozen?,h]
theorem Blk.set {w:World} {b:Nat} {cs:Array Value} {t:TypeId} (h:Blk w b cs t) (i:Nat) (v:Value):Blk (w.setCell ⟨b,i,none⟩ v) b (cs.setIfInBounds i v) t:=by
 unfold Blk at h ⊢;simp only [World.setCell];rw [Array.getElem?_modify];simp [h]
theorem Blk.three {w:World} {b:Nat} {x y z:Value} {t:TypeId} (h:Blk w b #[x,y,z] t) :
  w.cell? ⟨b,0,none⟩=some x/\w.cell? ⟨b,1,none⟩=some y/\w.cell? ⟨b,2,none⟩=some z/\w.frozen? ⟨b,0,none⟩=false/\w.frozen? ⟨b,1,none⟩=false/\w.frozen? ⟨b,2,none⟩=false :=
 ⟨h.cell 0,h.cell 1,h.cell 2,h.frozen 0,h.frozen 1,h.frozen 2⟩
theorem Blk.other {w:World} {b:Nat} {cs:Array Value} {t:TypeId} (h:Blk w b cs t) {a:Addr} (ha:a.block≠b) (v:Value):Blk (w.setCell a v) b cs t :=
 (Below.heap_setCell w a v b (fun e=>ha e.symm)).trans h
section
variable {P:Program} {ops:Array Oper} {md:Region.Mode} {W:World} {L:Nat->Option (Value->World->Prop)}
def Late (P:Program) (o:Oper) (a:Act) (W:World) (T:Value->World->Prop):Prop :=
 ∀ w,Mod [] W w->o.wp P a w (fun a' w'=>∃ v,a'=a.put o.dst v/\Mod [] w w'/\T v w') (fun _ _ _=>False)
def Steady (P:Program) (o:Oper) (a:Act) (W:World) (v:Value):Prop:=Late P o a W (fun u _=>u=v)
def Stays (T:World->Prop):Prop:=∀ w w',T w->Mod [] w w'->T w'
def mOp (P:Program) (ops:Array Oper) (W:World) (L:Nat->Option (Value->World->Prop)) (i:Nat) (K:Act->(World->Prop)->Prop) (a:Act) (F:World->Prop):Prop :=
 match ops[i]?,L i with
 | some o,none=>if Region.wanted o (yielded ops a.tmps) then ∃ v,Steady P o a W v/\K (a.put o.dst v) F else K (a.put o.dst undef) F
 | some o,some T=>o.guard=none/\Late P o a W T/\∀ v,K (a.put o.dst v) (fun w=>F w/\T v w)
 | none,_=>False
def wpAnyM (P:Program) (md:Region.Mode) (ops:Array Oper) (W:World) (L:Nat->Option (Value->World->Prop)) (n:Nat) (Fin:Array Bool->Act->(World->Prop)->Prop):Nat->Array Bool->Act->(World->Prop)->Prop
 | 0,listed,a,F=>Fin listed a F
 | f+1,listed,a,F=>Region.ready md ops listed≠[]/\∀ i∈Region.ready md ops listed,i<n/\mOp P ops W L i (wpAnyM P md ops W L n Fin f (listed.setIfInBounds i true)) a F
theorem wp_of_late {o:Oper} {a:Act} {T:Value->World->Prop} {K:Act->World->Prop} {Q:Exit->Act->World->Prop} {w:World} (hw:Mod [] W w) (h:Late P o a W T)
  (hK:∀ v w',Mod [] w w'->T v w'->K (a.put o.dst v) w'):o.wp P a w K Q:=by
 have h3:=h w hw;unfold Oper.wp at *
 generalize (execOp a.eval o).run P w=r at *
 cases r with
 | ok n w' =>
  cases n <;> simp only [Oper.upon] at h3 ⊢
  case value u=>obtain ⟨v,e,m,t⟩:=h3;rw [e];exact hK _ _ m t
  case skip=>obtain ⟨v,e,m,t⟩:=h3;rw [e];exact hK _ _ m t
  case defer d=>obtain ⟨v,e,m,t⟩:=h3;rw [e];exact hK _ _ m t
  case enter f args =>
   refine Calls.mono h3 fun e w'' he=>?_
   cases e with
   | returned u =>
    obtain ⟨v,e,m,t⟩:=he;show K (a.put o.dst u) w'';rw [e];exact hK _ _ m t
   | panicked c=>exact he.elim
   | outgrown=>obtain ⟨_,_,h⟩:=he;exact h.elim
  case row row args=>exact Rows.mono h3 fun u w'' he=>by obtain ⟨v,e,m,t⟩:=he;rw [e];exact hK _ _ m t
 | halt x w'=>cases x <;> simp only [Oper.upon] at h3
theorem wp_of_steady {o:Oper} {a:Act} {v:Value} {K:Act->World->Prop} {Q:Exit->Act->World->Prop} {w:World} (hw:Mod [] W w) (h:Steady P o a W v)
  (hK:∀ w',Mod [] w w'->K (a.put o.dst v) w'):o.wp P a w K Q :=
 wp_of_late hw h fun u w' m hu=>by rw [hu];exact hK w' m
theorem wpOp_of_mOp {i:Nat} {a:Act} {F:World->Prop} {K:Act->(World->Prop)->Prop} {K':Act->World->Prop} {Q:Exit->Act->World->Prop} {w:World}
  (hT:∀ i T,L i=some T->∀ v,Stays (T v)) (hs:Stays F) (hw:Mod [] W w) (hF:F w) (h:∀ a F w',Mod [] W w'->Stays F->F w'->K a F->K' a w') (hh:mOp P ops W L i K a F):wpOp P ops Q i K' a w:=by
 unfold mOp at hh;unfold wpOp
 split at hh
 ·rename_i o ho hl;simp only [ho]
  split
  ·rename_i hwn;simp only [hwn,if_true] at hh;obtain ⟨v,h1,h2⟩:=hh;exact .inl (wp_of_steady hw h1 fun w' m=>h _ _ _ (hw.then m) hs (hs _ _ hF m) h2)
  ·rename_i hwn;simp only [hwn] at hh;exact h _ _ _ hw hs hF hh
 ·rename_i o T ho hl;obtain ⟨hg,h1,h2⟩:=hh;simp only [ho,Region.wanted,hg,if_true];exact .inl (wp_of_late hw h1 fun v w' m t=>h _ _ _ (hw.then m) (fun x y hx hm=>⟨hs _ _ hx.1 hm,hT i T hl v _ _ hx.2 hm⟩) ⟨hs _ _ hF m,t⟩ (h2 v))
 ·exact hh.elim
theorem wpAny_of_M {n g:Nat} {Fin:Array Bool->Act->(World->Prop)->Prop} {Q:Exit->Act->World->Prop} (hT:∀ i T,L i=some T->∀ v,Stays (T v))
  (hFin:∀ listed a F w,Mod [] W w->F w->Fin listed a F->wpAny P md ops Q g listed a w) :
  ∀ (f:Nat) (listed:Array Bool) (a:Act) (F:World->Prop) (w:World),Stays F->Mod [] W w->F w->wpAnyM P md ops W L n Fin f listed a F->wpAny P md ops Q (f+g) listed a w
 | 0,listed,a,F,w,_,hw,hF,h=>by rw [Nat.zero_add];exact hFin _ _ _ _ hw hF h
 | f+1,listed,a,F,w,hs,hw,hF,h=>by
  rw [show f+1+g=(f+g)+1 by omega];exact ⟨fun h0=>absurd h0 h.1,fun i hi=>wpOp_of_mOp hT hs hw hF (fun a' F' w' hw' hs' hF' h'=>wpAny_of_M hT hFin f _ a' F' w' hs' hw' hF' h') (h.2 i hi).2⟩
def YieldsS (P:Program) (ops:Array Oper) (W:World) (o:Oper) (v:Value) (a:Act):Prop :=
 (Region.wanted o (yielded ops a.tmps)=true/\Steady P o a W v)∨(Region.wanted o (yielded ops a.tmps)=false/\v=undef)
theorem YieldsS.mOp {i:Nat} {o:Oper} {v:Value} {a:Act} {F:World->Prop} (hi:ops[i]?=some o) (hl:L i=none) (hy:YieldsS P ops W o v a) {K:Act->(World->Prop)->Prop} (h:K (a.put o.dst v) F):mOp P ops W L i K a F:=by
 unfold Proofs.YthheaflbbficgaaGreat.mOp;simp only [hi,hl];rcases hy with ⟨hw,hv⟩ | ⟨hw,rfl⟩
 ·simp only [hw,if_true];exact ⟨v,hv,h⟩
 ·simp only [hw,Bool.false_eq_true,if_false];exact h
theorem late_put {o:Oper} (hs:∀ cs b,o.op≠.select cs b) {a:Act} {d:Option Tmp} {v:Value} {T:Value->World->Prop} (h1:∀ t,d=some t->t ∉ o.looksAt ops) (h2:∀ t,d=some t->o.dst≠some t)
  (h:Late P o (a.put d v) W T):Late P o a W T:=by
 intro w hw;have h3:=h w hw;unfold Oper.wp at *
 rw [execOp_put o hs a d v h1] at h3;have key:∀ (x:Value) w',(∃ u,(a.put d v).put o.dst x=(a.put d v).put o.dst u/\Mod [] w w'/\T u w')->∃ u,a.put o.dst x=a.put o.dst u/\Mod [] w w'/\T u w':=by
  rintro x w' ⟨u,e,m,t⟩;refine ⟨u,?_,m,t⟩;rw [Act.put_comm a v x h2,Act.put_comm a v u h2] at e;cases d with
  | none=>exact e
  | some t =>
   cases ho:o.dst with
   | none=>rfl
   | some s =>
    rw [ho] at e;have hne:s≠t:=fun hst=>h2 t rfl (by rw [ho,hst])
    have e2:=congrArg Act.tmps e;simp only [Act.put] at e2 ⊢;have e3:a.tmps.setIfInBounds s x=a.tmps.setIfInBounds s u:=by
     apply Array.ext_getElem?;intro k;have:=congrArg (fun z=>z[k]?) e2
     by_cases hk:t=k
     ·subst hk;rw [Array.getElem?_setIfInBounds_ne hne,Array.getElem?_setIfInBounds_ne hne]
     ·rwa [Array.getElem?_setIfInBounds_ne hk,Array.getElem?_setIfInBounds_ne hk] at this
    rw [e3]
 generalize (execOp a.eval o).run P w=r at *
 cases r with
 | ok n w' =>
  cases n <;> simp only [Oper.upon] at h3 ⊢
  case value u=>exact key _ _ h3
  case skip=>exact key _ _ h3
  case defer x =>
   obtain ⟨u,e,m,t⟩:=h3;have e2:=congrArg Act.defers e;exfalso;have hl:∀ (b:Act) (d:Option Tmp) (v:Value),(b.put d v).defers=b.defers:=fun b d v=>by cases d <;> rfl
   have e3:x::a.defers=a.defers:=by simpa only [hl] using e2
   have:=congrArg List.length e3;simp at this
  case enter f args =>
   refine Calls.mono h3 fun e w'' he=>?_
   cases e with
   | returned u=>exact key _ _ he
   | panicked c=>exact he.elim
   | outgrown=>obtain ⟨_,_,h⟩:=he;exact h.elim
  case row row args=>exact Rows.mono h3 fun u w'' he=>key _ _ he
 | halt x w'=>cases x <;> simp only [Oper.upon] at h3
theorem late_put' {o:Oper} (hs:∀ cs b,o.op≠.select cs b) {a:Act} {d:Option Tmp} {v:Value} {T:Value->World->Prop} (h1:∀ t,d=some t->t ∉ o.looksAt ops) (h2:∀ t,d=some t->o.dst≠some t)
  (h:Late P o a W T):Late P o (a.put d v) W T:=by
 intro w hw;have h3:=h w hw;unfold Oper.wp at *
 rw [execOp_put o hs a d v h1];have key:∀ (x:Value) w',(∃ u,a.put o.dst x=a.put o.dst u/\Mod [] w w'/\T u w')->∃ u,(a.put d v).put o.dst x=(a.put d v).put o.dst u/\Mod [] w w'/\T u w':=by
  rintro x w' ⟨u,e,m,t⟩;exact ⟨u,by rw [Act.put_comm a v x h2,Act.put_comm a v u h2,e],m,t⟩
 generalize (execOp a.eval o).run P w=r at *
 cases r with
 | ok n w' =>
  cases n <;> simp only [Oper.upon] at h3 ⊢
  case value u=>exact key _ _ h3
  case skip=>exact key _ _ h3
  case defer x =>
   obtain ⟨u,e,m,t⟩:=h3;have e2:=congrArg Act.defers e;exfalso;have hl:∀ (b:Act) (d:Option Tmp) (v:Value),(b.put d v).defers=b.defers:=fun b d v=>by cases d <;> rfl
   have e3:x::a.defers=a.defers:=by simpa only [hl] using e2
   have:=congrArg List.length e3;simp at this
  case enter f args =>
   refine Calls.mono h3 fun e w'' he=>?_
   cases e with
   | returned u=>exact key _ _ he
   | panicked c=>exact he.elim
   | outgrown=>obtain ⟨_,_,h⟩:=he;exact h.elim
  case row row args=>exact Rows.mono h3 fun u w'' he=>key _ _ he
 | halt x w'=>cases x <;> simp only [Oper.upon] at h3
theorem mOp_put {j:Nat} {oi oj:Oper} {v:Value} (hj:ops[j]?=some oj) (hap:oi.apart ops oj=true)
  (hsi:∀ cs b,oi.op≠.select cs b) (hsj:∀ cs b,oj.op≠.select cs b) {K:Act->(World->Prop)->Prop} {a:Act} {F:World->Prop}
  (hy:YieldsS P ops W oi v a) (h:mOp P ops W L j K (a.put oi.dst v) F) :
  mOp P ops W L j (fun a' F'=>YieldsS P ops W oi v a'/\K (a'.put oi.dst v) F') a F:=by
 obtain ⟨h1,h2,h3⟩:=Oper.apart_spec hap;have h2':∀ d,oj.dst=some d->oi.dst≠some d:=fun d hd hi'=>h2 d hi' hd
 have keep:∀ (a:Act),YieldsS P ops W oi v a->∀ u,YieldsS P ops W oi v (a.put oj.dst u):=fun a hy u=>by
  unfold YieldsS at *
  rw [wanted_put oi a oj.dst u h3];exact hy.imp (fun hh=>⟨hh.1,late_put' hsi h3 h2' hh.2⟩) id
 unfold mOp at *
 cases hl:L j with
 | none =>
  simp only [hj,hl] at h ⊢;rw [wanted_put oj a oi.dst v h1] at h
  split
  ·rename_i hw;simp only [hw,if_true] at h;obtain ⟨u,hu,hn⟩:=h;exact ⟨u,late_put hsj h1 h2 hu,keep a hy u,by rw [<- Act.put_comm a v u h2];exact hn⟩
  ·rename_i hw;simp only [hw] at h;exact ⟨keep a hy _,by rw [<- Act.put_comm a v undef h2];exact h⟩
 | some T =>
  simp only [hj,hl] at h ⊢;exact ⟨h.1,late_put hsj h1 h2 h.2.1,fun u=>⟨keep a hy u,by rw [<- Act.put_comm a v u h2];exact h.2.2 u⟩⟩
def Region.tailB (md:Region.Mode) (ops:Array Oper) (n:Nat):Bool:=decide (n=ops.size) || (decide (n<ops.size) && Region.sinkB md ops n && Region.chainB md ops n)
theorem ready_lt {n i:Nat} {listed:Array Bool} (ht:Region.tailB md ops n=true) (inv:HeadInv md ops n listed) (hi:i<n) (hun:listed.getD i true=false) {j:Nat} (hj:j∈Region.ready md ops listed):j<n:=by
 simp only [Region.tailB,Bool.or_eq_true,Bool.and_eq_true,decide_eq_true_eq] at ht;rcases ht with ht | ⟨⟨hn,hs⟩,hc⟩
 ·obtain ⟨_,oj,hoj,_⟩:=mem_ready.1 hj;rw [ht];exact (Array.getElem?_eq_some_iff.1 hoj).1
 ·rcases Nat.lt_or_ge j n with h | h
  ·exact h
  ·exact absurd hj (tail_waits hs hc hn inv _ i rfl hi hun j h)
theorem mOp_same {j:Nat} {a:Act} {F:World->Prop} {K K':Act->(World->Prop)->Prop} (h:∀ a F,K a F->K' a F) (hh:mOp P ops W L j K a F):mOp P ops W L j K' a F:=by
 unfold mOp at *
 split
 ·rename_i o ho hl;simp only [ho,hl] at hh
  split
  ·rename_i hw;simp only [hw,if_true] at hh;obtain ⟨v,h1,h2⟩:=hh;exact ⟨v,h1,h _ _ h2⟩
  ·rename_i hw;simp only [hw] at hh;exact h _ _ hh
 ·rename_i o T ho hl;simp only [ho,hl] at hh;exact ⟨hh.1,hh.2.1,fun v=>h _ _ (hh.2.2 v)⟩
 ·rename_i ho;simp only [ho] at hh
theorem wpAnyM_first {n i:Nat} {oi:Oper} {v:Value} {Fin:Array Bool->Act->(World->Prop)->Prop} (hi:ops[i]?=some oi) (hl:L i=none) (hsel:∀ (j:Nat) (o:Oper) cs b,ops[j]?=some o->o.op≠.select cs b)
  (ht:Region.tailB md ops n=true) (hin:i<n) (hdone:∀ listed a F,Fin listed a F->∀ j∈Region.ready md ops listed,n<=j) :
  ∀ (f:Nat) (listed:Array Bool) (a:Act) (F:World->Prop),HeadInv md ops n listed ->
   (∀ j oj,ops[j]?=some oj->j≠i->listed.getD j true=false->(∀ e∈oj.after,Region.binds md e=true->e.on≠i)->oi.apart ops oj=true) ->
   i∈Region.ready md ops listed->YieldsS P ops W oi v a ->
   wpAnyM P md ops W L n Fin f (listed.setIfInBounds i true) (a.put oi.dst v) F->wpAnyM P md ops W L n Fin (f+1) listed a F:=by
 intro f
 induction f with
 | zero =>
  intro listed a F inv _ hr hy H;have hun:=(mem_ready.1 hr).1;refine ⟨fun h=>(by rw [h] at hr;cases hr),fun j hj=>?_⟩;have hjn:=ready_lt ht inv hin hun hj;refine ⟨hjn,?_⟩
  by_cases hji:j=i
  ·subst hji;exact hy.mOp hi hl H
  ·have:=hdone _ _ _ H j (ready_mono hj hji);omega
 | succ f ih =>
  intro listed a F inv hfree hr hy H;have hun:=(mem_ready.1 hr).1;refine ⟨fun h=>(by rw [h] at hr;cases hr),fun j hj=>?_⟩;have hjn:=ready_lt ht inv hin hun hj;refine ⟨hjn,?_⟩
  by_cases hji:j=i
  ·subst hji;exact hy.mOp hi hl H
  ·have h1:=(H.2 j (ready_mono hj hji)).2;obtain ⟨hjun,oj,hoj,hall⟩:=mem_ready.1 hj;have hnot:∀ e∈oj.after,Region.binds md e=true->e.on≠i:=fun e he hb heq=>by
    have h1:=hall e he hb;rw [heq,getD_both hun] at h1;cases h1
   have h2:=mOp_put hoj (hfree j oj hoj hji hjun hnot) (fun cs b=>hsel i oi cs b hi) (fun cs b=>hsel j oj cs b hoj) hy h1;have hfree':∀ k ok,ops[k]?=some ok->k≠i->(listed.setIfInBounds j true).getD k true=false ->
     (∀ e∈ok.after,Region.binds md e=true->e.on≠i)->oi.apart ops ok=true:=fun k ok hk hki hun hno=>by
    refine hfree k ok hk hki ?_ hno
    by_cases hjk:j=k
    ·subst hjk;exact hjun
    ·rw [getD_set_ne true hjk] at hun;exact hun
   refine mOp_same (fun a' F' h3=>ih (listed.setIfInBounds j true) a' F' (inv.set hj hjn) hfree' (ready_mono hr (Ne.symm hji)) h3.1 ?_) h2;rw [Array.setIfInBounds_comm _ _ hji];exact h3.2
def wpSteady (P:Program) (ops:Array Oper) (W:World) (K:Act->Prop):List Nat->Act->Prop
 | [],a=>K a
 | i::l,a=>match ops[i]? with
  | none=>False
  | some o=>if Region.wanted o (yielded ops a.tmps) then ∃ v,Steady P o a W v/\wpSteady P ops W K l (a.put o.dst v) else wpSteady P ops W K l (a.put o.dst undef)
def wpLates (P:Program) (ops:Array Oper) (W:World) (E:Act->(World->Prop)->Prop):List (Nat×(Value->World->Prop))->Act->(World->Prop)->Prop
 | [],a,F=>E a F
 | p::l,a,F=>match ops[p.1]? with
  | none=>False
  | some o=>o.guard=none/\Late P o a W p.2/\∀ v,wpLates P ops W E l (a.put o.dst v) (fun w=>F w/\p.2 v w)
theorem wpLates_mono {E:Act->(World->Prop)->Prop} (hE:∀ a F F',(∀ w,F' w->F w)->E a F->E a F'):∀ (l:List (Nat×(Value->World->Prop))) (a:Act) (F F':World->Prop),(∀ w,F' w->F w)->wpLates P ops W E l a F->wpLates P ops W E l a F'
 | [],_,_,_,hF,h=>hE _ _ _ hF h
 | p::l,a,F,F',hF,h=>by
  unfold wpLates at *
  split
  ·rename_i ho;simp only [ho] at h
  ·rename_i o ho;simp only [ho] at h;exact ⟨h.1,h.2.1,fun v=>wpLates_mono hE l _ _ _ (fun w hw=>⟨hF w hw.1,hw.2⟩) (h.2.2 v)⟩
def lateApart (ops:Array Oper):List Nat->Bool
 | []=>true
 | i::l=>!l.contains i && l.all (fun j=>match ops[i]?,ops[j]? with | some x,some y=>x.apart ops y | _,_=>false) && lateApart ops l
theorem lateApart_cons {i:Nat} {l:List Nat} (h:lateApart ops (i::l)=true):i ∉ l/\(∀ j∈l,∃ x y,ops[i]?=some x/\ops[j]?=some y/\x.apart ops y=true)/\lateApart ops l=true:=by
 simp only [lateApart,Bool.and_eq_true,List.all_eq_true] at h;refine ⟨by simpa using h.1.1,fun j hj=>?_,h.2⟩;have:=h.1.2 j hj
 split at this
 ·rename_i x y hx hy;exact ⟨x,y,hx,hy,this⟩
 ·cases this
theorem wpLates_take {E:Act->(World->Prop)->Prop} (hE:∀ a F F',(∀ w,F' w->F w)->E a F->E a F') (hsel:∀ (j:Nat) (o:Oper) cs b,ops[j]?=some o->o.op≠.select cs b) {i:Nat} {T:Value->World->Prop} :
  ∀ (l:List (Nat×(Value->World->Prop))) (a:Act) (F:World->Prop),lateApart ops (l.map (·.1))=true->(i,T)∈l->wpLates P ops W E l a F ->
   ∃ o,ops[i]?=some o/\o.guard=none/\Late P o a W T/\∀ v,wpLates P ops W E (l.filter fun p=>p.1 != i) (a.put o.dst v) (fun w=>F w/\T v w)
 | p::l,a,F,hap,hm,h=>by
  obtain ⟨hni,hall,hap'⟩:=lateApart_cons (by simpa using hap);unfold wpLates at h;cases ho:ops[p.1]? with
  | none=>simp only [ho] at h
  | some o =>
   simp only [ho] at h;obtain ⟨hg,hla,hK⟩:=h;rcases List.mem_cons.1 hm with he | hm'
   ·subst he;refine ⟨o,ho,hg,hla,fun v=>?_⟩;have hf:(((i,T)::l).filter fun p=>p.1 != i)=l:=by
     rw [List.filter_cons_of_neg (by simp),List.filter_eq_self.2 (fun q hq=>?_)];simp only [bne_iff_ne,ne_eq];intro heq;exact hni (by simpa [<- heq] using mM (f:=(·.1)) hq)
    rw [hf];exact hK v
   ·have hi:i∈l.map (·.1):=mM (f:=(·.1)) hm';have hne:p.1≠i:=fun e=>hni (e ▸ hi)
    obtain ⟨x,y,hx,hy,hxy⟩:=hall i hi;rw [ho] at hx;cases hx;obtain ⟨h1,h2,h3⟩:=Oper.apart_spec hxy;have h2':∀ d,y.dst=some d->o.dst≠some d:=fun d hd ho'=>h2 d ho' hd
    have ih:=fun u=>wpLates_take hE hsel l (a.put o.dst u) _ hap' hm' (hK u)
    obtain ⟨o',ho',hg',hl',_⟩:=ih undef;rw [hy] at ho';cases ho';refine ⟨y,hy,hg',late_put (hsel i y · · hy) h1 h2 hl',fun v=>?_⟩;rw [List.filter_cons_of_pos (by simpa using hne)];unfold wpLates;simp only [ho];refine ⟨hg,late_put' (hsel p.1 o · · ho) h3 h2' hla,fun u=>?_⟩;obtain ⟨o',ho',_,_,hk⟩:=ih u;rw [hy] at ho';cases ho';rw [Act.put_comm a v u h2'];exact wpLates_mono hE _ _ _ _ (fun w hw=>⟨⟨hw.1.1,hw.2⟩,hw.1.2⟩) (hk v)
def Region.canon (ops:Array Oper) (n:Nat):Array Bool:=((List.range ops.size).map fun i=>decide (i<n)).toArray
def Region.downB (md:Region.Mode) (ops:Array Oper):Bool:=(List.range ops.size).all fun i=>match ops[i]? with | some o=>o.after.all fun e=>!Region.binds md e || decide (e.on<i) | none=>true
theorem ready_some (hd:Region.downB md ops=true) {listed:Array Bool}:∀ (i:Nat),i<ops.size->listed.getD i true=false->Region.ready md ops listed≠[]:=by
 intro i
 induction i using Nat.strongRecOn with
 | _ i ih =>
  intro hi hun
  by_cases hex:∃ j,j<i/\listed.getD j true=false
  ·obtain ⟨j,hj,hjun⟩:=hex;exact ih j hj (by omega) hjun
  ·have hr:i∈Region.ready md ops listed:=by
    refine mem_ready.2 ⟨hun,ops[i],by simp [hi],fun e he hb=>?_⟩;have h1:=List.all_eq_true.1 hd i (List.mem_range.2 hi);simp only [hi,getElem?_pos] at h1;have h2:=Array.all_eq_true_iff_forall_mem.1 h1 e he;simp only [hb,Bool.not_true,Bool.false_or,decide_eq_true_eq] at h2;cases hl:listed.getD e.on false with
    | true=>rfl
    | false =>
     have hsz:e.on<listed.size:=by
      rcases Nat.lt_or_ge i listed.size with h | h
      ·omega
      ·simp [Array.getElem?_eq_none h] at hun
     exact absurd ⟨e.on,h2,getD_in hsz hl⟩ hex
   intro h;rw [h] at hr;cases hr
theorem lateApart_nodup:∀ {l:List Nat},lateApart ops l=true->l.Nodup
 | [],_=>List.nodup_nil
 | _::_,h=>let ⟨h1,_,h2⟩:=lateApart_cons h;List.nodup_cons.2 ⟨h1,lateApart_nodup h2⟩
theorem lateApart_filter {i:Nat}:∀ (l:List (Nat×(Value->World->Prop))),lateApart ops (l.map (·.1))=true->lateApart ops ((l.filter fun p=>p.1 != i).map (·.1))=true
 | [],_=>rfl
 | p::l,h=>by
  obtain ⟨h1,h2,h3⟩:=lateApart_cons (by simpa using h);have ih:=lateApart_filter (i:=i) l h3
  by_cases hp:p.1=i
  ·rw [List.filter_cons_of_neg (by simpa using hp)];exact ih
  ·rw [List.filter_cons_of_pos (by simpa using hp)];simp only [List.map_cons,lateApart,Bool.and_eq_true,List.all_eq_true];have hsub:∀ j,j∈(l.filter fun p=>p.1 != i).map (·.1)->j∈l.map (·.1):=fun j hj=>by
    obtain ⟨q,hq,rfl⟩:=List.mem_map.1 hj;exact mM (List.mem_filter.1 hq).1
   refine ⟨⟨?_,fun j hj=>?_⟩,ih⟩
   ·simp only [Bool.not_eq_true'];cases hc:((l.filter fun p=>p.1 != i).map (·.1)).contains p.1 with
    | false=>rfl
    | true=>exact absurd (hsub _ (by simpa using hc)) h1
   ·obtain ⟨x,y,hx,hy,hxy⟩:=h2 j (hsub j hj);simp only [hx,hy];exact hxy
theorem length_filter_ne:∀ (l:List (Nat×(Value->World->Prop))) (i:Nat),(l.map (·.1)).Nodup->i∈l.map (·.1)->(l.filter fun p=>p.1 != i).length+1=l.length
 | p::l,i,hn,hm=>by
  simp only [List.map_cons,List.nodup_cons] at hn
  by_cases hp:p.1=i
  ·rw [List.filter_cons_of_neg (by simpa using hp),List.filter_eq_self.2 (fun q hq=>?_)]
   ·simp
   ·simp only [bne_iff_ne,ne_eq];intro heq;exact hn.1 (by rw [hp,<- heq];exact mM hq)
  ·rw [List.filter_cons_of_pos (by simpa using hp)];have hm':i∈l.map (·.1):=by
    rcases List.mem_cons.1 hm with h | h
    ·exact absurd h.symm hp
    ·exact h
   simp [length_filter_ne l i hn.2 hm']
theorem lookup_late:∀ (l:List (Nat×(Value->World->Prop))) (p:Nat×(Value->World->Prop)),p∈l->(l.map (·.1)).Nodup->(l.find? fun q=>q.1 == p.1).map (·.2)=some p.2
 | q::l,p,hm,hn=>by
  simp only [List.map_cons,List.nodup_cons] at hn
  by_cases hq:q.1=p.1
  ·rw [List.find?_cons_of_pos (by simpa using hq)];rcases List.mem_cons.1 hm with h | h
   ·rw [h];rfl
   ·exact absurd (by rw [hq];exact mM h) hn.1
  ·rw [List.find?_cons_of_neg (by simpa using hq)];rcases List.mem_cons.1 hm with h | h
   ·exact absurd (by rw [h]) hq
   ·exact lookup_late l p h hn.2
theorem wpAnyM_lates {n g:Nat} {E:Act->(World->Prop)->Prop} (hE:∀ a F F',(∀ w,F' w->F w)->E a F->E a F') (hsel:∀ (j:Nat) (o:Oper) cs b,ops[j]?=some o->o.op≠.select cs b)
  (ht:Region.tailB md ops n=true) (hd:Region.downB md ops=true) (hn:n<=ops.size) (hseq:Region.seqB md ops g n (Region.canon ops n)=true) :
  ∀ (m:Nat) (l:List (Nat×(Value->World->Prop))) (listed:Array Bool) (a:Act) (F:World->Prop),l.length=m->HeadInv md ops n listed->lateApart ops (l.map (·.1))=true ->
   (∀ p∈l,L p.1=some p.2)->(∀ i,i<n->(listed.getD i true=false↔i∈l.map (·.1)))->(∀ p∈l,p.1<n)->wpLates P ops W E l a F ->
   wpAnyM P md ops W L n (fun listed' a' F'=>Region.seqB md ops g n listed'=true/\E a' F') m listed a F:=by
 intro m
 induction m with
 | zero =>
  intro l listed a F hlen inv _ _ hun _ h;obtain rfl:=List.length_eq_zero_iff.1 hlen;refine ⟨?_,h⟩;have:listed=Region.canon ops n:=by
   refine Array.ext (by simp [Region.canon,inv.size]) fun i hi hi'=>?_
   simp only [Region.canon,List.getElem_toArray,List.getElem_map,List.getElem_range]
   by_cases hin:i<n
   ·have:=(hun i hin).1;simp [hi] at this;simp [this,hin]
   ·have h2:=inv.tail i (by omega) (by rw [<- inv.size];exact hi);simp [hi] at h2;simp [h2,hin]
  rw [this];exact hseq
 | succ m ih =>
  intro l listed a F hlen inv hap hL hun hlt h;cases l with
  | nil=>simp at hlen
  | cons p0 l0 =>
   have hp0n:p0.1<n:=hlt p0 (by simp);have hp0:listed.getD p0.1 true=false:=(hun p0.1 hp0n).2 (by simp);refine ⟨ready_some hd p0.1 (by omega) hp0,fun j hj=>?_⟩;have hjn:=ready_lt ht inv hp0n hp0 hj;have hjl:=(hun j hjn).1 (mem_ready.1 hj).1;obtain ⟨⟨j',T⟩,hp,hpj⟩:=List.mem_map.1 hjl;simp only at hpj;subst hpj;obtain ⟨o,ho,hg,hla,hk⟩:=wpLates_take hE hsel _ _ _ hap hp h;refine ⟨hjn,?_⟩;unfold mOp;have hLj:L j'=some T:=hL _ hp;simp only [ho,hLj];refine ⟨hg,hla,fun v=>ih _ _ _ _ ?_ (inv.set hj hjn) ?_ ?_ ?_ ?_ (hk v)⟩
   ·have:=length_filter_ne (p0::l0) j' (lateApart_nodup hap) hjl;omega
   ·exact lateApart_filter _ hap
   ·exact fun p hp=>hL p (List.mem_filter.1 hp).1
   ·intro i hin
    by_cases hij:j'=i
    ·subst hij;have hsz:j'<listed.size:=by rw [inv.size];omega
     simp [hsz]
    ·rw [getD_set_ne true hij,hun i hin];simp only [List.mem_map,List.mem_filter,bne_iff_ne,ne_eq];constructor
     ·rintro ⟨q,hq,rfl⟩;exact ⟨q,⟨hq,fun h=>hij h.symm⟩,rfl⟩
     ·rintro ⟨q,⟨hq,_⟩,rfl⟩;exact ⟨q,hq,rfl⟩
   ·exact fun p hp=>hlt p (List.mem_filter.1 hp).1
def Region.ordB (md:Region.Mode) (ops:Array Oper) (n:Nat) (late:List Nat):List Nat->Array Bool->Bool
 | [],listed=>(List.range n).all fun i=>(listed.getD i true == false) == late.contains i
 | i::l,listed=>decide (i<n) && !late.contains i && (Region.ready md ops listed).contains i && Region.free md ops listed i && Region.ordB md ops n late l (listed.setIfInBounds i true)
theorem wpAnyM_ord {n m:Nat} {late:List Nat} {Fin:Array Bool->Act->(World->Prop)->Prop} {F:World->Prop} {K:Act->Prop} (hsel:Region.noSelect ops=true)
  (ht:Region.tailB md ops n=true) (hdone:∀ listed a F,Fin listed a F->∀ j∈Region.ready md ops listed,n<=j) (hL:∀ i,late.contains i=false->L i=none)
  (hK:∀ a listed,HeadInv md ops n listed->Region.ordB md ops n late [] listed=true->K a->wpAnyM P md ops W L n Fin m listed a F) :
  ∀ (l:List Nat) (listed:Array Bool) (a:Act),HeadInv md ops n listed->Region.ordB md ops n late l listed=true->wpSteady P ops W K l a ->
   wpAnyM P md ops W L n Fin (l.length+m) listed a F
 | [],listed,a,inv,hB,h=>by rw [List.length_nil,Nat.zero_add];exact hK _ _ inv hB h
 | i::l,listed,a,inv,hB,h=>by
  simp only [Region.ordB,Bool.and_eq_true,decide_eq_true_eq,Bool.not_eq_true'] at hB;obtain ⟨⟨⟨⟨hin,hnl⟩,hr⟩,hf⟩,hB'⟩:=hB;have hr':i∈Region.ready md ops listed:=by simpa using hr
  unfold wpSteady at h;cases ho:ops[i]? with
  | none=>simp only [ho] at h
  | some o =>
   simp only [ho] at h;obtain ⟨v,hy,hk⟩:∃ v,YieldsS P ops W o v a/\wpSteady P ops W K l (a.put o.dst v):=by
    by_cases hw:Region.wanted o (yielded ops a.tmps)=true
    ·simp only [hw,if_true] at h;obtain ⟨v,h1,h2⟩:=h;exact ⟨v,.inl ⟨hw,h1⟩,h2⟩
    ·simp only [hw] at h;exact ⟨undef,.inr ⟨by simpa using hw,rfl⟩,h⟩
   rw [List.length_cons,show l.length+1+m=(l.length+m)+1 by omega];exact wpAnyM_first ho (hL i hnl) (Region.noSelect_spec hsel) ht hin hdone (l.length+m) listed a F inv (Region.free_spec ho hf) hr' hy
    (wpAnyM_ord hsel ht hdone hL hK l _ _ (inv.set hr' hin) hB' hk)
def Region.monoB (md:Region.Mode) (ops:Array Oper) (n:Nat) (ord late:List Nat):Bool :=
 Region.noSelect ops && decide (n<=ops.size) && decide (ord.length+late.length=n) && late.all (fun i=>decide (i<n)) && Region.tailB md ops n && Region.downB md ops && Region.seqB md ops (ops.size - n) n (Region.canon ops n) &&
  lateApart ops late && Region.ordB md ops n late ord (Array.replicate ops.size false)
theorem wp_region_mono {id:Nat} {Q:Exit->Act->World->Prop} {a:Act} {w:World} {l:List Oper} (n:Nat) (ord:List Nat) (late:List (Nat×(Value->World->Prop)))
  (hm:P.follows .mixedOrders=true) (hB:Region.monoB .any l.toArray n ord (late.map (·.1))=true) (hT:∀ p∈late,∀ v,Stays (p.2 v))
  (h:wpSteady P l.toArray w (fun a'=>wpLates P l.toArray w (fun a'' F=>∀ w',Mod [] w w'->F w'->wpList P l.toArray Q (l.drop n) a'' w') late a' (fun _=>True)) ord a) :
  (Code.region id l.toArray true).wp P Q a w:=by
 simp only [Region.monoB,Bool.and_eq_true,decide_eq_true_eq] at hB;obtain ⟨⟨⟨⟨⟨⟨⟨⟨hsel,hn⟩,hlen⟩,hlt⟩,ht⟩,hd⟩,hseq⟩,hap⟩,hord⟩:=hB
 let L:Nat->Option (Value->World->Prop):=fun i=>(late.find? fun p=>p.1 == i).map (·.2)
 have hLn:∀ i,(late.map (·.1)).contains i=false->L i=none:=fun i hi=>by
  simp only [L,Option.map_eq_none_iff,List.find?_eq_none];intro p hp he;have:(late.map (·.1)).contains i=true:=by simpa using ⟨p.2,by simpa [<- (beq_iff_eq.1 he)] using hp⟩
  rw [hi] at this;cases this
 have hLs:∀ p∈late,L p.1=some p.2:=fun p hp=>lookup_late late p hp (lateApart_nodup hap)
 have hLT:∀ i T,L i=some T->∀ v,Stays (T v):=fun i T hi v=>by
  simp only [L,Option.map_eq_some_iff] at hi;obtain ⟨p,hp,rfl⟩:=hi;exact hT p (List.mem_of_find?_eq_some hp) v
 have inv0:HeadInv .any l.toArray n (Array.replicate l.toArray.size false) :=
  ⟨by simp,fun j oj _ hl=>(by rw [getD_replicate_false] at hl;cases hl),fun t _ ht=>getD_in (by simpa using ht) (getD_replicate_false _ _)⟩
 have hE:∀ (a:Act) (F F':World->Prop),(∀ w,F' w->F w)->(∀ w',Mod [] w w'->F w'->wpList P l.toArray Q (l.drop n) a w')->(∀ w',Mod [] w w'->F' w'->wpList P l.toArray Q (l.drop n) a w') :=
  fun a F F' hF h w' hw hf=>h w' hw (hF w' hf)
 have hdl:(l.drop n).length=l.toArray.size - n:=by simp
 have H:=wpAnyM_ord (P:=P) (W:=w) (L:=L) (m:=late.length) (late:=late.map (·.1)) (F:=fun _=>True)
  (Fin:=fun listed a F=>Region.seqB .any l.toArray (l.toArray.size - n) n listed=true/\∀ w',Mod [] w w'->F w'->wpList P l.toArray Q (l.drop n) a w')
  hsel ht (fun listed a F hf=>seqB_ready hf.1) hLn (fun a listed inv hB hk=>by
   refine wpAnyM_lates hE (Region.noSelect_spec hsel) ht hd hn hseq late.length late listed a _ rfl inv hap hLs (fun i hi=>?_) (fun p hp=>?_) hk
   ·have:=List.all_eq_true.1 hB i (List.mem_range.2 hi);simp only [beq_iff_eq] at this;rw [Bool.eq_iff_iff] at this;simp only [beq_iff_eq,List.contains_iff_mem] at this;exact this
   ·have:=List.all_eq_true.1 hlt p.1 (mM hp)
    simpa using this) ord _ a inv0 hord h
 refine wp_region_any hm ?_
 have hfin:=wpAny_of_M (P:=P) (md:=.any) (ops:=l.toArray) (W:=w) (Q:=Q) (g:=l.toArray.size - n) hLT (fun listed a F w' hw hF hf=>by
  have:=wpAny_of_seq (md:=.any) (Q':=Q) (l.drop n) n listed a w' (fun j=>by simp [List.getElem?_drop]) (by rw [hdl];exact hf.1) (hf.2 w' hw hF)
  rwa [hdl] at this) _ _ _ _ { w with drawn:=w.drawn+1 } (fun _ _ _ _=>trivial) ((Mod.refl [] w).drew) trivial H
 have hl2:ord.length+late.length+(l.toArray.size - n)=l.toArray.size:=by simp only [List.length_map] at hlen;omega
 rwa [hl2] at hfin
theorem lates_end {E:Act->(World->Prop)->Prop} {a:Act} {F:World->Prop} (h:E a F):wpLates P ops W E [] a F:=h
theorem calls_same {f:FuncId} {args:Array Value} {v:Value} (h:∀ w,Calls P f args w fun e w'=>e=.returned v/\w=w'):∀ w,Mod [] W w->Calls P f args w fun e w'=>e=.returned v/\Mod [] w w' :=
 fun w _=>(h w).mono fun _ _ ⟨he,hw⟩=>⟨he,hw ▸ mR⟩
theorem calls_mod {f:FuncId} {args:Array Value} {v:Value} (h:∀ w,Calls P f args w fun e w'=>e=.returned v/\Mod [] w w'):∀ w,Mod [] W w->Calls P f args w fun e w'=>e=.returned v/\Mod [] w w' :=
 fun w _=>h w
def wpSteadyL (P:Program) (ops:Array Oper) (W:World) (K:Act->Prop):List Oper->Act->Prop
 | [],a=>K a
 | o::l,a=>if Region.wanted o (yielded ops a.tmps) then ∃ v,Steady P o a W v/\wpSteadyL P ops W K l (a.put o.dst v) else wpSteadyL P ops W K l (a.put o.dst undef)
def pickM:List Oper->List Bool->List Oper
 | o::l,true::m=>o::pickM l m
 | _::l,false::m=>pickM l m
 | _,_=>[]
def idxM:Nat->List Bool->List Nat
 | k,true::m=>k::idxM (k+1) m
 | k,false::m=>idxM (k+1) m
 | _,[]=>[]
theorem steady_of_list {K:Act->Prop}:∀ (m:List Bool) (k:Nat) (l:List Oper) (a:Act),(∀ j,l[j]?=ops[k+j]?)->m.length<=l.length->wpSteadyL P ops W K (pickM l m) a->wpSteady P ops W K (idxM k m) a
 | [],_,l,_,_,_,h=>by cases l <;> exact h
 | b::m,k,[],_,_,hl,_=>by simp at hl
 | b::m,k,o::l,a,hj,hl,h=>by
  have h0:ops[k]?=some o:=by simpa using (hj 0).symm
  have hj':∀ j,l[j]?=ops[k+1+j]?:=fun j=>by have:=hj (j+1);simpa [Nat.add_assoc,Nat.add_comm 1 j] using this
  have hl':m.length<=l.length:=by simpa using hl
  cases b with
  | false=>exact steady_of_list m (k+1) l a hj' hl' h
  | true =>
   simp only [pickM,wpSteadyL] at h;simp only [idxM,wpSteady,h0]
   split
   ·rename_i hw;rw [if_pos hw] at h;obtain ⟨v,h1,h2⟩:=h;exact ⟨v,h1,steady_of_list m (k+1) l _ hj' hl' h2⟩
   ·rename_i hw;rw [if_neg hw] at h;exact steady_of_list m (k+1) l _ hj' hl' h
structure WSteady (P:Program) (ops:Array Oper) (W:World) (K:Act->Prop) (l:List Oper) (a:Act):Prop where
 out:wpSteadyL P ops W K l a
theorem wp_region_mask {id:Nat} {Q:Exit->Act->World->Prop} {a:Act} {w:World} {l:List Oper} (n:Nat) (mask:List Bool) (late:List (Nat×(Value->World->Prop)))
  (hm:P.follows .mixedOrders=true) (hB:(Region.monoB .any l.toArray n (idxM 0 mask) (late.map (·.1)) && decide (mask.length<=l.length))=true) (hT:∀ p∈late,∀ v,Stays (p.2 v))
  (h:WSteady P l.toArray w (fun a'=>wpLates P l.toArray w (fun a'' F=>∀ w',Mod [] w w'->F w'->wpList P l.toArray Q (l.drop n) a'' w') late a' (fun _=>True)) (pickM l mask) a) :
  (Code.region id l.toArray true).wp P Q a w:=by
 simp only [Bool.and_eq_true,decide_eq_true_eq] at hB;exact wp_region_mono n (idxM 0 mask) late hm hB.1 hT (steady_of_list mask 0 l a (by simp) hB.2 h.out)
theorem put_of_wp {o:Oper} {a a':Act} {w:World} {R:World->Prop} (hd:a'.defers=a.defers) (h:o.wp P a w (fun x y=>x=a'/\R y) (fun _ _ _=>False)):∃ u,a.put o.dst u=a':=by
 unfold Oper.wp at h;generalize (execOp a.eval o).run P w=r at *
 cases r with
 | ok n w' =>
  cases n <;> simp only [Oper.upon] at h
  case value u=>exact ⟨u,h.1⟩
  case skip=>exact ⟨_,h.1⟩
  case defer x =>
   exfalso;have hl:∀ (b:Act) (d:Option Tmp) (v:Value),(b.put d v).defers=b.defers:=fun b d v=>by cases d <;> rfl
   have e2:=congrArg Act.defers h.1;rw [hl,hd] at e2;have:=congrArg List.length e2;simp at this
  case enter f args =>
   obtain ⟨e,w'',fr,hR,_⟩:=h [];cases e with
   | returned u=>exact ⟨u,hR.1⟩
   | panicked c=>exact hR.elim
   | outgrown=>obtain ⟨_,_,h⟩:=hR;exact h.elim
  case row row args =>
   obtain ⟨v,w'',hR,_⟩:=h (default:Frame) [];exact ⟨v,hR.1⟩
 | halt x w'=>cases x <;> simp only [Oper.upon] at h
theorem steady_go {K:Act->Prop} {l:List Oper} {a a':Act} {o:Oper} (hg:Region.wanted o (yielded ops a.tmps)=true) (hd:a'.defers=a.defers)
  (h:∀ w,Mod [] W w->∀ (K:Act->World->Prop) (Q:Exit->Act->World->Prop),(∀ w',Mod [] w w'->K a' w')->o.wp P a w K Q) (hr:WSteady P ops W K l a'):WSteady P ops W K (o::l) a:=by
 refine ⟨?_⟩;obtain ⟨u,hu⟩:=put_of_wp (R:=fun _=>True) hd (h W mR _ _ fun w' _=>⟨rfl,trivial⟩);unfold wpSteadyL;rw [if_pos hg];refine ⟨u,fun w hw=>h w hw _ _ fun w' m=>⟨u,hu.symm,m,rfl⟩,?_⟩;rw [hu];exact hr.out
theorem steady_pass {K:Act->Prop} {l:List Oper} {a:Act} {o:Oper} (hg:Region.wanted o (yielded ops a.tmps)=false) (hp:a.put o.dst undef=a) (hr:WSteady P ops W K l a):WSteady P ops W K (o::l) a:=by
 refine ⟨?_⟩;unfold wpSteadyL;rw [if_neg (by rw [hg];exact Bool.false_ne_true),hp];exact hr.out
theorem steady_done {K:Act->Prop} {a:Act} (h:K a):WSteady P ops W K [] a:=⟨h⟩
structure Own (w0 w:World) (l:List (Nat×Array Value×TypeId)):Prop where
 mod:Mod [] w0 w
 blk:∀ p∈l,w0.heap.size<=p.1/\Blk w p.1 p.2.1 p.2.2
 nodup:(l.map (·.1)).Nodup
theorem Own.start (w:World):Own w w []:=⟨mR,by simp,List.nodup_nil⟩
theorem Own.new {w0 w w':World} {l:List (Nat×Array Value×TypeId)} {b:Nat} {cs:Array Value} {t:TypeId} (S:Own w0 w l) (m:Mod [] w w') (hb:w.heap.size<=b) (B:Blk w' b cs t):Own w0 w' (l++[(b,cs,t)]):=by
 refine ⟨S.mod.then m,fun p hp=>?_,?_⟩
 ·rcases List.mem_append.1 hp with hp | hp
  ·exact ⟨(S.blk p hp).1,(S.blk p hp).2.kept m (by simp)⟩
  ·obtain rfl:=mI.1 hp;exact ⟨nT S.mod.size hb,B⟩
 ·rw [List.map_append,List.nodup_append];refine ⟨S.nodup,by simp,fun x hx y hy hxy=>?_⟩;obtain ⟨p,hp,rfl⟩:=List.mem_map.1 hx;have:=(S.blk p hp).2.lt;simp only [List.map_cons,List.map_nil,mI] at hy;omega
theorem Own.alloc {w0 w:World} {l:List (Nat×Array Value×TypeId)} (S:Own w0 w l) (cs:Array Value) (t:TypeId):Own w0 (w.alloc (.cells cs t)) (l++[(w.heap.size,cs,t)]) :=
 S.new (mR.alloc _) (nR _) (Blk.new w cs t)
theorem own1 (w:World) (c1:Array Value) (t1:TypeId):Own w (w.alloc (.cells c1 t1)) [(w.heap.size,c1,t1)]:=(Own.start w).alloc c1 t1
theorem own2 (w:World) (c1:Array Value) (t1:TypeId) (c2:Array Value) (t2:TypeId):Own w ((w.alloc (.cells c1 t1)).alloc (.cells c2 t2)) [(w.heap.size,c1,t1),(w.heap.size+1,c2,t2)]:=by
 have:=(own1 w c1 t1).alloc c2 t2;simpa using this
theorem own3 (w:World) (c1:Array Value) (t1:TypeId) (c2:Array Value) (t2:TypeId) (c3:Array Value) (t3:TypeId) :
  Own w (((w.alloc (.cells c1 t1)).alloc (.cells c2 t2)).alloc (.cells c3 t3)) [(w.heap.size,c1,t1),(w.heap.size+1,c2,t2),(w.heap.size+1+1,c3,t3)]:=by
 have:=(own2 w c1 t1 c2 t2).alloc c3 t3;simpa using this
theorem Own.call {w0 w w':World} {l:List (Nat×Array Value×TypeId)} (S:Own w0 w l) (m:Mod [] w w'):Own w0 w' l :=
 ⟨S.mod.then m,fun p hp=>⟨(S.blk p hp).1,(S.blk p hp).2.kept m (by simp)⟩,S.nodup⟩
theorem Own.at {w0 w:World} {l:List (Nat×Array Value×TypeId)} {b:Nat} {cs:Array Value} {t:TypeId} (S:Own w0 w l) (k:Nat) (hk:l[k]?=some (b,cs,t)):Blk w b cs t:=(S.blk _ (List.mem_of_getElem? hk)).2
theorem Own.ge {w0 w:World} {l:List (Nat×Array Value×TypeId)} {b:Nat} {cs:Array Value} {t:TypeId} (S:Own w0 w l) (k:Nat) (hk:l[k]?=some (b,cs,t)):w0.heap.size<=b:=(S.blk _ (List.mem_of_getElem? hk)).1
theorem nodup_get {l:List Nat} (h:l.Nodup) (i j:Nat) (hij:i<j) (hj:j<l.length):l[i]?≠l[j]?:=by
 have:=List.pairwise_iff_getElem.1 h i j (by omega) hj hij;rw [gE (by omega),gE hj];exact fun he=>this (Option.some.inj he)
theorem Own.set {w0 w:World} {l:List (Nat×Array Value×TypeId)} {b:Nat} {cs:Array Value} {t:TypeId} (S:Own w0 w l) (k:Nat) (hk:l[k]?=some (b,cs,t)) (i:Nat) (v:Value) :
  Own w0 (w.setCell ⟨b,i,none⟩ v) (l.set k (b,cs.setIfInBounds i v,t)):=by
 obtain ⟨hkl,hke⟩:=gI.1 hk;have hmap:(l.set k (b,cs.setIfInBounds i v,t)).map (·.1)=l.map (·.1):=by
  rw [List.map_set];apply List.ext_getElem?;intro j;rw [List.getElem?_set]
  split
  ·rename_i hj;subst hj;simp [hkl,hke]
  ·rfl
 refine ⟨S.mod.setNew (S.ge k hk) v,fun p hp=>?_,by rw [hmap];exact S.nodup⟩;obtain ⟨j,hj⟩:=List.getElem?_of_mem hp;rw [List.getElem?_set] at hj
 split at hj
 ·rename_i hkj;subst hkj;simp only [Option.some.injEq] at hj;subst hj;exact ⟨S.ge k hk,(S.at k hk).set i v⟩
 ·rename_i hkj;have hm:=List.mem_of_getElem? hj;refine ⟨(S.blk p hm).1,(S.blk p hm).2.other (fun he=>?_) v⟩;have hjl:j<l.length:=(gI.1 hj).1;have hje:l[j]=p:=(gI.1 hj).2;have:=nodup_get S.nodup;rcases Nat.lt_or_ge k j with h | h
  ·exact this k j h (by simpa using hjl) (by simp only [List.getElem?_map,hk,hj,Option.map_some];rw [<- he])
  ·exact this j k (by omega) (by simpa using hkl) (by simp only [List.getElem?_map,hk,hj,Option.map_some];rw [<- he])
theorem Own.lt {w0 w:World} {l:List (Nat×Array Value×TypeId)} {b:Nat} {cs:Array Value} {t:TypeId} (S:Own w0 w l) (k:Nat) (hk:l[k]?=some (b,cs,t)):b<w.heap.size:=(S.at k hk).lt
theorem Blk.every {b:Nat} {cs:Array Value} {t:TypeId} (h:Blk W b cs t):∀ w,Mod [] W w->∀ i,w.cell? ⟨b,i,none⟩=cs[i]?:=fun _ hw i=>(h.kept hw (by simp)).cell i
end
def I64 (x:Int):Prop:=-9223372036854775808<=x/\x<=9223372036854775807
def Rows {α:Type} (k:Nat) (R:Nat->World->List Value->α->Prop) (B:Nat) (w:World) (v:Value) (l:List α):Prop :=
 ∃ oa cap,v=.slice oa l.length cap/\l.length<=maxLen/\∀ i (h:i<l.length),∃ a:Addr,oa=some a/\B<=a.block/\∃ cs,cs.length=k/\(∀ j,j<k->w.cell? ((a.add (i*k)).add j)=cs[j]?)/\R B w cs l[i]
def Above (B:Nat) (w w':World):Prop:=∀ k,B<=k->k<w.heap.size->w'.heap[k]?=w.heap[k]?
theorem Mod.above {w w':World} (m:Mod [] w w') (B:Nat):Above B w w':=fun k _ hk=>m.block k hk (by simp)
def Stay {α:Type} (R:Nat->World->List Value->α->Prop):Prop:=∀ B w w' cs x,R B w cs x->Above B w w'->R B w' cs x
def Lower {α:Type} (R:Nat->World->List Value->α->Prop):Prop:=∀ B B' w cs x,R B w cs x->B'<=B->R B' w cs x
theorem cell_lt {w:World} {a:Addr} {v:Value} (h:w.cell? a=some v):a.block<w.heap.size:=by
 rcases Nat.lt_or_ge a.block w.heap.size with h' | h'
 ·exact h'
 ·exfalso;have:w.cell? a=none:=by unfold World.cell?;rw [show w.heap[a.block]?=none by simp;exact h']
  rw [this] at h;cases h
theorem cell_above {B:Nat} {w w':World} {a:Addr} {v:Value} (m:Above B w w') (hB:B<=a.block) (h:w.cell? a=some v):w'.cell? a=some v:=by
 have e:=m a.block hB (cell_lt h);have:w'.cell? a=w.cell? a:=World.cell?_of_block e;rw [this,h]
theorem cell_stays {w w':World} {a:Addr} {v:Value} (m:Mod [] w w') (h:w.cell? a=some v):w'.cell? a=some v:=cell_above (m.above 0) (Nat.zero_le _) h
theorem add_block (a:Addr) (n:Nat):(a.add n).block=a.block:=by unfold Addr.add;split <;> rfl
theorem Rows.above {α:Type} {k B:Nat} {R:Nat->World->List Value->α->Prop} (hR:Stay R) {w w':World} {v:Value} {l:List α} (h:Rows k R B w v l) (m:Above B w w'):Rows k R B w' v l:=by
 obtain ⟨oa,cap,hv,hl,h⟩:=h;refine ⟨oa,cap,hv,hl,fun i hi=>?_⟩;obtain ⟨a,ha,hB,cs,hk,hc,hr⟩:=h i hi;refine ⟨a,ha,hB,cs,hk,fun j hj=>?_,hR _ _ _ _ _ hr m⟩;have h2:=hc j hj;rw [gE (by omega)] at h2 ⊢;exact cell_above m (by rw [add_block,add_block];exact hB) h2
theorem Rows.mod {α:Type} {k B:Nat} {R:Nat->World->List Value->α->Prop} (hR:Stay R) {w w':World} {v:Value} {l:List α} (h:Rows k R B w v l) (m:Mod [] w w'):Rows k R B w' v l:=h.above hR (m.above B)
theorem Rows.lower {α:Type} {k B B':Nat} {R:Nat->World->List Value->α->Prop} (hR:Lower R) {w:World} {v:Value} {l:List α} (h:Rows k R B w v l) (hB:B'<=B):Rows k R B' w v l:=by
 obtain ⟨oa,cap,hv,hl,h⟩:=h;refine ⟨oa,cap,hv,hl,fun i hi=>?_⟩;obtain ⟨a,ha,hb,cs,hk,hc,hr⟩:=h i hi;exact ⟨a,ha,nT hB hb,cs,hk,hc,hR _ _ _ _ _ hr hB⟩
theorem Rows.nil {α:Type} {k B:Nat} {R:Nat->World->List Value->α->Prop} (w:World):Rows k R B w (.slice Option.none 0 0) []:=⟨Option.none,0,rfl,by show (0:Nat)<=maxLen;decide,fun i hi=>absurd hi (Nat.not_lt_zero i)⟩
theorem Rows.at {α:Type} {k B:Nat} {R:Nat->World->List Value->α->Prop} {w:World} {oa:Option Addr} {n cap:Nat} {l:List α} (h:Rows k R B w (.slice oa n cap) l) (i:Nat) (hl:i<l.length) :
  ∃ a:Addr,oa=some a/\B<=a.block/\∃ cs,cs.length=k/\(0<k->w.cell? (a.add (i*k))=cs[0]?)/\(∀ j,0<j->j<k->w.cell? ⟨(a.add (i*k)).block,(a.add (i*k)).off+j,Option.none⟩=cs[j]?)/\R B w cs l[i]:=by
 obtain ⟨oa',cap',hv,_,h⟩:=h;cases hv;obtain ⟨a,ha,hB,cs,hk,hc,hr⟩:=h i hl;refine ⟨a,ha,hB,cs,hk,fun h0=>?_,fun j h0 hj=>?_,hr⟩
 ·have:=hc 0 h0;simpa [Addr.add] using this
 ·have:=hc j hj;rw [show ((a.add (i*k)).add j)=⟨(a.add (i*k)).block,(a.add (i*k)).off+j,Option.none⟩ by simp [Addr.add,Nat.ne_of_gt h0]] at this;exact this
theorem Rows.form {α:Type} {k B:Nat} {R:Nat->World->List Value->α->Prop} {w:World} {v:Value} {l:List α} (h:Rows k R B w v l):∃ oa cap,v=.slice oa l.length cap/\l.length<=maxLen:=by
 obtain ⟨oa,cap,hv,hl,_⟩:=h;exact ⟨oa,cap,hv,hl⟩
def RInt (B:Nat) (w:World) (cs:List Value) (x:Int):Prop:=cs=[.int .i64 x]/\I64 x
theorem RInt.stay:Stay RInt:=fun _ _ _ _ _ h _=>h
theorem RInt.lower:Lower RInt:=fun _ _ _ _ _ h _=>h
def RSet (B:Nat) (w:World) (cs:List Value) (l:List Int):Prop:=∃ v,cs=[v]/\Rows 1 RInt B w v l
theorem RSet.stay:Stay RSet:=fun _ _ _ _ _ ⟨v,h,hr⟩ m=>⟨v,h,hr.above RInt.stay m⟩
structure DPoint where
 x:Int
 y:Int
 on:Bool
def RPoint (B:Nat) (w:World) (cs:List Value) (d:DPoint):Prop:=cs=[.int .i64 d.x,.int .i64 d.y,.bool d.on]/\I64 d.x/\I64 d.y
theorem RPoint.stay:Stay RPoint:=fun _ _ _ _ d ⟨hc,h0,h1⟩ m=>⟨hc,h0,h1⟩
theorem RPoint.lower:Lower RPoint:=fun _ _ _ _ d ⟨hc,h0,h1⟩ m=>⟨hc,h0,h1⟩
structure DPart where
 glyph:Int
 x:Int
 y:Int
def RPart (B:Nat) (w:World) (cs:List Value) (d:DPart):Prop:=cs=[.int .i64 d.glyph,.int .i64 d.x,.int .i64 d.y]/\I64 d.glyph/\I64 d.x/\I64 d.y
theorem RPart.stay:Stay RPart:=fun _ _ _ _ d ⟨hc,h0,h1,h2⟩ m=>⟨hc,h0,h1,h2⟩
theorem RPart.lower:Lower RPart:=fun _ _ _ _ d ⟨hc,h0,h1,h2⟩ m=>⟨hc,h0,h1,h2⟩
structure DAnchor where
 kind:Int
 cls:Int
 x:Int
 y:Int
def RAnchor (B:Nat) (w:World) (cs:List Value) (d:DAnchor):Prop:=cs=[.int .i64 d.kind,.int .i64 d.cls,.int .i64 d.x,.int .i64 d.y]/\I64 d.kind/\I64 d.cls/\I64 d.x/\I64 d.y
theorem RAnchor.stay:Stay RAnchor:=fun _ _ _ _ d ⟨hc,h0,h1,h2,h3⟩ m=>⟨hc,h0,h1,h2,h3⟩
theorem RAnchor.lower:Lower RAnchor:=fun _ _ _ _ d ⟨hc,h0,h1,h2,h3⟩ m=>⟨hc,h0,h1,h2,h3⟩
structure DDelta where
 region:Int
 point:Int
 x:Int
 y:Int
def RDelta (B:Nat) (w:World) (cs:List Value) (d:DDelta):Prop:=cs=[.int .i64 d.region,.int .i64 d.point,.int .i64 d.x,.int .i64 d.y]/\I64 d.region/\I64 d.point/\I64 d.x/\I64 d.y
theorem RDelta.stay:Stay RDelta:=fun _ _ _ _ d ⟨hc,h0,h1,h2,h3⟩ m=>⟨hc,h0,h1,h2,h3⟩
theorem RDelta.lower:Lower RDelta:=fun _ _ _ _ d ⟨hc,h0,h1,h2,h3⟩ m=>⟨hc,h0,h1,h2,h3⟩
structure DIns where
 op:Int
 a:Int
def RIns (B:Nat) (w:World) (cs:List Value) (d:DIns):Prop:=cs=[.int .i64 d.op,.int .i64 d.a]/\I64 d.op/\I64 d.a
theorem RIns.stay:Stay RIns:=fun _ _ _ _ d ⟨hc,h0,h1⟩ m=>⟨hc,h0,h1⟩
theorem RIns.lower:Lower RIns:=fun _ _ _ _ d ⟨hc,h0,h1⟩ m=>⟨hc,h0,h1⟩
def RCode (B:Nat) (w:World) (cs:List Value) (l:List DIns):Prop:=∃ v,cs=[v]/\Rows 2 RIns B w v l
theorem RCode.stay:Stay RCode:=fun _ _ _ _ _ ⟨v,h,hr⟩ m=>⟨v,h,hr.above RIns.stay m⟩
structure DChar where
 rune:Int
 glyph:Int
def RChar (B:Nat) (w:World) (cs:List Value) (d:DChar):Prop:=cs=[.int .i64 d.rune,.int .i64 d.glyph]/\I64 d.rune/\I64 d.glyph
theorem RChar.stay:Stay RChar:=fun _ _ _ _ d ⟨hc,h0,h1⟩ m=>⟨hc,h0,h1⟩
structure DCall where
 pos:Int
 lookup:Int
def RCall (B:Nat) (w:World) (cs:List Value) (d:DCall):Prop:=cs=[.int .i64 d.pos,.int .i64 d.lookup]/\I64 d.pos/\I64 d.lookup
theorem RCall.stay:Stay RCall:=fun _ _ _ _ d ⟨hc,h0,h1⟩ m=>⟨hc,h0,h1⟩
structure DTent where
 start:Int
 peak:Int
 stop:Int
def RTent (B:Nat) (w:World) (cs:List Value) (d:DTent):Prop:=cs=[.int .i64 d.start,.int .i64 d.peak,.int .i64 d.stop]/\I64 d.start/\I64 d.peak/\I64 d.stop
theorem RTent.stay:Stay RTent:=fun _ _ _ _ d ⟨hc,h0,h1,h2⟩ m=>⟨hc,h0,h1,h2⟩
structure DAxis where
 name:ByteArray
 min:Int
 dflt:Int
 max:Int
def RAxis (B:Nat) (w:World) (cs:List Value) (d:DAxis):Prop:=cs=[.string d.name,.int .i64 d.min,.int .i64 d.dflt,.int .i64 d.max]/\d.name.size<=maxLen/\I64 d.min/\I64 d.dflt/\I64 d.max
theorem RAxis.stay:Stay RAxis:=fun _ _ _ _ d ⟨hc,h0,h1,h2,h3⟩ m=>⟨hc,h0,h1,h2,h3⟩
structure DOutline where
 pts:List (DPoint)
 ends:List (Int)
structure DFeature where
 name:ByteArray
 lookups:List (Int)
def RFeature (B:Nat) (w:World) (cs:List Value) (d:DFeature):Prop:=∃ v1,cs=[.string d.name,v1]/\d.name.size<=maxLen/\Rows 1 RInt B w v1 d.lookups
theorem RFeature.stay:Stay RFeature:=fun _ _ _ _ d ⟨v1,hc,h0,h1⟩ m=>⟨v1,hc,h0,h1.above RInt.stay m⟩
structure DRule where
 back:List (List Int)
 ins:List (List Int)
 ahead:List (List Int)
 out:List (Int)
 calls:List (DCall)
 x:Int
def RRule (B:Nat) (w:World) (cs:List Value) (d:DRule):Prop:=∃ v0 v1 v2 v3 v4,cs=[v0,v1,v2,v3,v4,.int .i64 d.x]/\Rows 1 RSet B w v0 d.back/\Rows 1 RSet B w v1 d.ins/\Rows 1 RSet B w v2 d.ahead/\Rows 1 RInt B w v3 d.out/\Rows 2 RCall B w v4 d.calls/\I64 d.x
theorem RRule.stay:Stay RRule:=fun _ _ _ _ d ⟨v0,v1,v2,v3,v4,hc,h0,h1,h2,h3,h4,h5⟩ m=>⟨v0,v1,v2,v3,v4,hc,h0.above RSet.stay m,h1.above RSet.stay m,h2.above RSet.stay m,h3.above RInt.stay m,h4.above RCall.stay m,h5⟩
structure DLookup where
 kind:Int
 ignore:Bool
 rules:List (DRule)
def RLookup (B:Nat) (w:World) (cs:List Value) (d:DLookup):Prop:=∃ v2,cs=[.int .i64 d.kind,.bool d.ignore,v2]/\I64 d.kind/\Rows 6 RRule B w v2 d.rules
theorem RLookup.stay:Stay RLookup:=fun _ _ _ _ d ⟨v2,hc,h0,h1⟩ m=>⟨v2,hc,h0,h1.above RRule.stay m⟩
structure DGlyph where
 name:ByteArray
 adv:Int
 mark:Bool
 pts:List DPoint
 ends:List Int
 parts:List (DPart)
 anchors:List (DAnchor)
 deltas:List (DDelta)
 hint:List (DIns)
def RGlyph (B:Nat) (w:World) (cs:List Value) (d:DGlyph):Prop:=∃ v3 v4 v5 v6 v7 v8,cs=[.string d.name,.int .i64 d.adv,.bool d.mark,v3,v4,v5,v6,v7,v8]/\d.name.size<=maxLen/\I64 d.adv/\Rows 3 RPoint B w v3 d.pts/\Rows 1 RInt B w v4 d.ends/\Rows 3 RPart B w v5 d.parts/\Rows 4 RAnchor B w v6 d.anchors/\Rows 4 RDelta B w v7 d.deltas/\Rows 2 RIns B w v8 d.hint
theorem RGlyph.stay:Stay RGlyph:=fun _ _ _ _ d ⟨v3,v4,v5,v6,v7,v8,hc,h0,h1,h2,h3,h4,h5,h6,h7⟩ m=>⟨v3,v4,v5,v6,v7,v8,hc,h0,h1,h2.above RPoint.stay m,h3.above RInt.stay m,h4.above RPart.stay m,h5.above RAnchor.stay m,h6.above RDelta.stay m,h7.above RIns.stay m⟩
theorem RGlyph.lower:Lower RGlyph:=fun _ _ _ _ d ⟨v3,v4,v5,v6,v7,v8,hc,h0,h1,h2,h3,h4,h5,h6,h7⟩ m=>⟨v3,v4,v5,v6,v7,v8,hc,h0,h1,h2.lower RPoint.lower m,h3.lower RInt.lower m,h4.lower RPart.lower m,h5.lower RAnchor.lower m,h6.lower RDelta.lower m,h7.lower RIns.lower m⟩
structure DRegion where
 tents:List (DTent)
def RRegion (B:Nat) (w:World) (cs:List Value) (d:DRegion):Prop:=∃ v0,cs=[v0]/\Rows 3 RTent B w v0 d.tents
theorem RRegion.stay:Stay RRegion:=fun _ _ _ _ d ⟨v0,hc,h0⟩ m=>⟨v0,hc,h0.above RTent.stay m⟩
structure DFont where
 unit:Int
 glyphs:List (DGlyph)
 chars:List (DChar)
 lookups:List (DLookup)
 features:List (DFeature)
 axes:List (DAxis)
 regions:List (DRegion)
 funcs:List (List DIns)
 cvt:List (Int)
section
open Go.ChangeShapes Go.WideShapes Go.ChangeAt Go.Joins
variable {H:Type} {enc:TypeId×Value->H} {W:World} {base:Nat} {sp:Nat->Bool} {held:Bool}
theorem rowsOf {α:Type} {t e:TypeId} {k:Nat} {R:Nat->World->List Value->α->Prop} (ht:Tryz.prog.underlying t=some (.slice e)) (hk:Tryz.prog.cellsOf e=k)
  (hR:∀ (fuel:Nat) (cs:List Value) (x:DataW H×List MemPlace),DataW.trod enc Tryz.prog W 0 sp held fuel e cs=some x->∃ d,R 0 W cs d)
  {fuel:Nat} {v:Value} {x:DataW H×List MemPlace} (h:DataW.trod enc Tryz.prog W 0 sp held fuel t [v]=some x):∃ l,Rows k R 0 W v l:=by
 subst hk;rcases DataW.trod_slice ht h with ⟨h0,_⟩ | ⟨a,len,cap,el,rest,m,_,hc,_,_,h1,h2,h3,h4,_⟩
 ·obtain rfl:v=.slice Option.none 0 0:=by simpa using h0
  exact ⟨[],Rows.nil W⟩
 ·obtain rfl:v=.slice (some a) len cap:=by simpa using hc
  have each:∀ i,i<len->∃ d:α,∃ cs,cs.length=Tryz.prog.cellsOf e/\(∀ j,j<Tryz.prog.cellsOf e->W.cell? ((a.add (i*Tryz.prog.cellsOf e)).add j)=cs[j]?)/\R 0 W cs d:=fun i hi=>by
   have h5:=h4 i hi;rw [gE (by omega)] at h5;simp only [Option.bind_eq_some_iff] at h5;obtain ⟨cs,hcs,hy⟩:=h5;obtain ⟨-,hlen,hcell⟩:=World.cells?_some hcs;obtain ⟨d,hd⟩:=hR _ _ _ hy;exact ⟨d,cs,hlen,hcell,hd⟩
  refine ⟨List.ofFn fun i:Fin len=>Classical.choose (each i.1 i.2),some a,cap,by rw [List.length_ofFn],by rw [List.length_ofFn];omega,fun i hi=>?_⟩;rw [List.length_ofFn] at hi;rw [List.getElem_ofFn];obtain ⟨cs,h6,h7,h8⟩:=Classical.choose_spec (each i hi);exact ⟨a,rfl,Nat.zero_le _,cs,h6,h7,h8⟩
theorem int_open {fuel:Nat} {cs:List Value} {x:DataW H×List MemPlace} (h:DataW.trod enc Tryz.prog W 0 sp held fuel 3 cs=some x):∃ d,RInt 0 W cs d:=by
 obtain ⟨u,e0,_,w0⟩:=DataW.trod_int Tryz.underlying3 h;exact ⟨u,e0,bounds_i64 w0⟩
theorem cells_int:Tryz.prog.cellsOf 3=1:=by kernel_rfl
end
section
variable {α:Type} {k:Nat} {enc:α->List Value} {R:Nat->World->List Value->α->Prop} {B:Nat}
theorem addr_add_add (a:Addr) (x y:Nat):(a.add x).add y=a.add (x+y):=by
 unfold Addr.add
 by_cases hx:x=0 <;> by_cases hy:y=0 <;> simp [hx,hy]
 ·omega
end
def setN (w:World) (b:Nat):Nat->List Value->World
 | _,[]=>w
 | i,v::r=>setN (w.setCell ⟨b,i,none⟩ v) b (i+1) r
theorem setN_mod {w0:World} {b:Nat} (hb:w0.heap.size<=b):∀ (vs:List Value) (i:Nat) (w:World),Mod [] w0 w->Mod [] w0 (setN w b i vs)
 | [],_,_,m=>m
 | v::r,i,w,m=>setN_mod hb r (i+1) _ (m.setNew (p:=⟨b,i,none⟩) hb v)
theorem setN_other {b b':Nat} (hb:b'≠b):∀ (vs:List Value) (i:Nat) (w:World),(setN w b i vs).heap[b']?=w.heap[b']?
 | [],_,_=>rfl
 | v::r,i,w=>(setN_other hb r (i+1) _).trans (Below.heap_setCell w ⟨b,i,none⟩ v b' hb)
def putN (c:Array Value):Nat->List Value->Array Value
 | _,[]=>c
 | i,v::r=>putN (c.setIfInBounds i v) (i+1) r
theorem setN_blk {b:Nat} {t:TypeId}:∀ (vs:List Value) (i:Nat) (w:World) (c:Array Value),Blk w b c t->Blk (setN w b i vs) b (putN c i vs) t
 | [],_,_,_,h=>h
 | v::r,i,w,c,h=>setN_blk r (i+1) _ _ (h.set i v)
theorem putN_size:∀ (vs:List Value) (i:Nat) (c:Array Value),(putN c i vs).size=c.size
 | [],_,_=>rfl
 | v::r,i,c=>(putN_size r (i+1) _).trans (by simp)
theorem putN_out:∀ (vs:List Value) (i q:Nat) (c:Array Value),(q<i∨i+vs.length<=q)->(putN c i vs)[q]?=c[q]?
 | [],_,_,_,_=>rfl
 | v::r,i,q,c,h=>by
  simp only [List.length_cons] at h;exact (putN_out r (i+1) q _ (by omega)).trans (Array.getElem?_setIfInBounds_ne (by omega))
theorem putN_in:∀ (vs:List Value) (i j:Nat) (c:Array Value),j<vs.length->i+vs.length<=c.size->(putN c i vs)[i+j]?=vs[j]?
 | v::r,i,0,c,_,h=>by
  simp only [List.length_cons] at h;show (putN (c.setIfInBounds i v) (i+1) r)[i]?=_;rw [putN_out r (i+1) i _ (by omega)];simp [show i<c.size by omega]
 | v::r,i,j+1,c,hj,h=>by
  simp only [List.length_cons] at h hj;have:=putN_in r (i+1) j (c.setIfInBounds i v) (by omega) (by simp;omega);rw [show i+(j+1)=i+1+j by omega];exact this
theorem putN_all (vs:List Value) (c:Array Value) (h:vs.length=c.size):putN c 0 vs=vs.toArray:=by
 apply Array.ext_getElem?;intro q;rcases Nat.lt_or_ge q vs.length with hq | hq
 ·have:=putN_in vs 0 q c hq (by omega);rw [Nat.zero_add] at this;rw [this];simp
 ·rw [putN_out vs 0 q c (by omega),Array.getElem?_eq_none (by omega)];simp;omega
theorem Blk.over {w:World} {b:Nat} {c:Array Value} {t:TypeId} (h:Blk w b c t) (vs:List Value) (hl:vs.length=c.size):Blk (setN w b 0 vs) b vs.toArray t:=by
 have:=setN_blk vs 0 w c h;rwa [putN_all vs c hl] at this
theorem Own.off {w0 w w':World} {l:List (Nat×Array Value×TypeId)} (S:Own w0 w l) (m:Mod [] w0 w') (h:∀ p∈l,w'.heap[p.1]?=w.heap[p.1]?):Own w0 w' l:=⟨m,fun p hp=>⟨(S.blk p hp).1,(h p hp).trans (S.blk p hp).2⟩,S.nodup⟩
def Fill {α:Type} (k:Nat) (R:Nat->World->List Value->α->Prop) (B:Nat) (w:World) (b:Nat) (t:TypeId) (l:List α) (i:Nat):Prop :=
 ∃ c:Array Value,Blk w b c t/\c.size=l.length*k/\∀ j (h:j<l.length),j<i->∃ cs,cs.length=k/\(∀ q,q<k->c[j*k+q]?=cs[q]?)/\R B w cs l[j]
section
variable {α:Type} {k B:Nat} {R:Nat->World->List Value->α->Prop} {w w':World} {b:Nat} {t:TypeId} {l:List α} {i:Nat}
theorem Fill.after {wk:World} {c:Array Value} {cs:List Value} (hR:Stay R) (hs:c.size=l.length*k) (h3:∀ j (h:j<l.length),j<i->∃ cs,cs.length=k/\(∀ q,q<k->c[j*k+q]?=cs[q]?)/\R B wk cs l[j]) (hi:i<l.length)
  (hA:Above B wk w) (hb:Blk w b (putN c (i*k) cs) t) (hk:cs.length=k) (hv:R B w cs l[i]):Fill k R B w b t l (i+1):=by
 have hik:i*k+k<=l.length*k:=by
  have:=Nat.mul_le_mul_right k (show i+1<=l.length by omega);rw [Nat.add_mul] at this;omega
 refine ⟨putN c (i*k) cs,hb,by rw [putN_size];exact hs,fun j hj hji=>?_⟩
 by_cases he:j=i
 ·subst he;exact ⟨cs,hk,fun q hq=>putN_in cs (j*k) q c (by omega) (by omega),hv⟩
 ·obtain ⟨cs',h4,h5,h6⟩:=h3 j hj (by omega);refine ⟨cs',h4,fun q hq=>?_,hR _ _ _ _ _ h6 hA⟩;have hjk:j*k+k<=i*k:=by
   have:=Nat.mul_le_mul_right k (show j+1<=i by omega);rw [Nat.add_mul] at this;omega
  rw [putN_out cs (i*k) (j*k+q) c (by omega)];exact h5 q hq
end
section
variable {w0 w w':World} {B:Nat} {e:TypeId} {size:Nat} {v:Value} {n:Nat} {xs:List Value}
theorem own_form (h:w.ownsRow B e size v n xs):∃ oa c,v=.slice oa n c:=by
 rcases h.2 with ⟨rfl,hn⟩ | ⟨g,cap,cur,rfl,_⟩
 ·exact ⟨none,0,by rw [hn]⟩
 ·exact ⟨_,_,rfl⟩
theorem owns_mod (h:w.ownsRow B e size v n xs) (m:Mod [] w w'):w'.ownsRow B e size v n xs :=
 h.kept (row:=none) ⟨m.os,m.tape,m.output,m.size,fun k hk _=>m.block k hk (by simp)⟩ (by cases v.ownBlock <;> simp)
theorem Own.grown {l:List (Nat×Array Value×TypeId)} {row:Option Nat} (S:Own w0 w l) (g:w.grownBy w' row) (hr:∀ k,row=some k->B<=k) (hB:w0.heap.size<=B) (hl:∀ p∈l,p.1<B):Own w0 w' l:=by
 refine ⟨⟨g.os.trans S.mod.os,g.tape.trans S.mod.tape,g.output.trans S.mod.output,nT S.mod.size g.size,fun k hk hn=>?_⟩,fun p hp=>⟨(S.blk p hp).1,?_⟩,S.nodup⟩
 ·rw [g.block k (Nat.lt_of_lt_of_le hk S.mod.size) (fun he=>by have:=hr k he.symm;omega),S.mod.block k hk hn]
 ·exact (g.block p.1 (S.blk p hp).2.lt (fun he=>by have:=hr _ he.symm;have:=hl p hp;omega)).trans (S.blk p hp).2
theorem owns_lower {B':Nat} (h:w.ownsRow B e size v n xs) (hB:B'<=B):w.ownsRow B' e size v n xs:=by
 refine ⟨h.1,?_⟩;rcases h.2 with h | ⟨g,cap,cur,h1,h2,h3⟩
 ·exact .inl h
 ·exact .inr ⟨g,cap,cur,h1,nT hB h2,h3⟩
end
def NewSl (B:Nat) (cs:Array Value) (t:TypeId) (n:Nat) (v:Value) (w:World):Prop:=∃ b,v=.slice (some ⟨b,0,none⟩) n n/\B<=b/\Blk w b cs t
theorem NewSl.stays (B:Nat) (cs:Array Value) (t:TypeId) (n:Nat) (v:Value):Stays (NewSl B cs t n v):=fun _ _ ⟨b,h1,h2,h3⟩ m=>⟨b,h1,h2,h3.kept m (by simp)⟩
abbrev Bl:=Nat->Prop
def SRows {α:Type} (k:Nat) (R:Bl->World->List Value->α->Prop) (S:Bl) (w:World) (v:Value) (l:List α):Prop :=
 ∃ oa cap,v=.slice oa l.length cap/\l.length<=maxLen/\∀ i (h:i<l.length),∃ a:Addr,oa=some a/\S a.block/\∃ cs,cs.length=k/\(∀ j,j<k->w.cell? ((a.add (i*k)).add j)=cs[j]?)/\R S w cs l[i]
def SameB (S:Bl) (w w':World):Prop:=∀ k,S k->k<w.heap.size->w'.heap[k]?=w.heap[k]?
theorem Mod.sameB {F:List Nat} {w w':World} (m:Mod F w w') {S:Bl} (h:∀ k∈F,¬ S k):SameB S w w':=fun k hk hlt=>m.block k hlt (fun hm=>h k hm hk)
theorem Mod.same0 {w w':World} (m:Mod [] w w') (S:Bl):SameB S w w':=m.sameB (by simp)
theorem SameB.set {S:Bl} (w:World) {p:Addr} (hp:¬ S p.block) (v:Value):SameB S w (w.setCell p v):=fun k hk _=>Below.heap_setCell w p v k (fun he=>hp (he ▸ hk))
theorem SameB.grown {S:Bl} {w w':World} {row:Option Nat} (g:w.grownBy w' row) (h:∀ k,row=some k->¬ S k):SameB S w w':=fun k hk hlt=>g.block k hlt (fun he=>h k he.symm hk)
def SStay {α:Type} (R:Bl->World->List Value->α->Prop):Prop:=∀ S w w' cs x,R S w cs x->SameB S w w'->R S w' cs x
def SWeak {α:Type} (R:Bl->World->List Value->α->Prop):Prop:=∀ S S' w cs x,R S w cs x->(∀ b,b<w.heap.size->S b->S' b)->R S' w cs x
def SOld {α:Type} (R:Bl->World->List Value->α->Prop) (R':Nat->World->List Value->α->Prop):Prop:=∀ S B w cs x,R S w cs x->(∀ b,b<w.heap.size->S b->B<=b)->R' B w cs x
def SNew {α:Type} (R':Nat->World->List Value->α->Prop) (R:Bl->World->List Value->α->Prop):Prop:=∀ B w cs x,R' B w cs x->R (fun b=>B<=b) w cs x
section
variable {α:Type} {k:Nat} {R:Bl->World->List Value->α->Prop} {S S':Bl} {w w':World} {v:Value} {l:List α}
theorem cell_sameB {a:Addr} {v:Value} (m:SameB S w w') (hB:S a.block) (h:w.cell? a=some v):w'.cell? a=some v:=by
 have e:=m a.block hB (cell_lt h);have:w'.cell? a=w.cell? a:=World.cell?_of_block e;rw [this,h]
theorem SRows.same (hR:SStay R) (h:SRows k R S w v l) (m:SameB S w w'):SRows k R S w' v l:=by
 obtain ⟨oa,cap,hv,hl,h⟩:=h;refine ⟨oa,cap,hv,hl,fun i hi=>?_⟩;obtain ⟨a,ha,hB,cs,hk,hc,hr⟩:=h i hi;refine ⟨a,ha,hB,cs,hk,fun j hj=>?_,hR _ _ _ _ _ hr m⟩;have h2:=hc j hj;rw [gE (by omega)] at h2 ⊢;exact cell_sameB m (by rw [add_block,add_block];exact hB) h2
theorem SRows.mod (hR:SStay R) (h:SRows k R S w v l) (m:Mod [] w w'):SRows k R S w' v l:=h.same hR (m.same0 S)
theorem SRows.weak (hk0:0<k) (hR:SWeak R) (h:SRows k R S w v l) (hS:∀ b,b<w.heap.size->S b->S' b):SRows k R S' w v l:=by
 obtain ⟨oa,cap,hv,hl,h⟩:=h;refine ⟨oa,cap,hv,hl,fun i hi=>?_⟩;obtain ⟨a,ha,hB,cs,hk,hc,hr⟩:=h i hi;have h2:=hc 0 hk0;rw [gE (by omega)] at h2;have h3:=cell_lt h2;rw [add_block,add_block] at h3;exact ⟨a,ha,hS _ h3 hB,cs,hk,hc,hR _ _ _ _ _ hr hS⟩
theorem SRows.old (hk0:0<k) {R':Nat->World->List Value->α->Prop} {B:Nat} (hR:SOld R R') (h:SRows k R S w v l) (hS:∀ b,b<w.heap.size->S b->B<=b):Rows k R' B w v l:=by
 obtain ⟨oa,cap,hv,hl,h⟩:=h;refine ⟨oa,cap,hv,hl,fun i hi=>?_⟩;obtain ⟨a,ha,hB,cs,hk,hc,hr⟩:=h i hi;have h2:=hc 0 hk0;rw [gE (by omega)] at h2;have h3:=cell_lt h2;rw [add_block,add_block] at h3;exact ⟨a,ha,hS _ h3 hB,cs,hk,hc,hR _ _ _ _ _ hr hS⟩
theorem Rows.new {R':Nat->World->List Value->α->Prop} {B:Nat} (hR:SNew R' R) (h:Rows k R' B w v l):SRows k R (fun b=>B<=b) w v l:=by
 obtain ⟨oa,cap,hv,hl,h⟩:=h;refine ⟨oa,cap,hv,hl,fun i hi=>?_⟩;obtain ⟨a,ha,hB,cs,hk,hc,hr⟩:=h i hi;exact ⟨a,ha,hB,cs,hk,hc,hR _ _ _ _ hr⟩
theorem SRows.nil (w:World):SRows k R S w (.slice Option.none 0 0) []:=⟨Option.none,0,rfl,by show (0:Nat)<=maxLen;decide,fun i hi=>absurd hi (Nat.not_lt_zero i)⟩
theorem SRows.at {oa:Option Addr} {n cap:Nat} (h:SRows k R S w (.slice oa n cap) l) (i:Nat) (hl:i<l.length) :
  ∃ a:Addr,oa=some a/\S a.block/\∃ cs,cs.length=k/\(0<k->w.cell? (a.add (i*k))=cs[0]?)/\(∀ j,0<j->j<k->w.cell? ⟨(a.add (i*k)).block,(a.add (i*k)).off+j,Option.none⟩=cs[j]?)/\R S w cs l[i]:=by
 obtain ⟨oa',cap',hv,_,h⟩:=h;cases hv;obtain ⟨a,ha,hB,cs,hk,hc,hr⟩:=h i hl;refine ⟨a,ha,hB,cs,hk,fun h0=>?_,fun j h0 hj=>?_,hr⟩
 ·have:=hc 0 h0;simpa [Addr.add] using this
 ·have:=hc j hj;rw [show ((a.add (i*k)).add j)=⟨(a.add (i*k)).block,(a.add (i*k)).off+j,Option.none⟩ by simp [Addr.add,Nat.ne_of_gt h0]] at this;exact this
theorem SRows.form (h:SRows k R S w v l):∃ oa cap,v=.slice oa l.length cap/\l.length<=maxLen:=by
 obtain ⟨oa,cap,hv,hl,_⟩:=h;exact ⟨oa,cap,hv,hl⟩
end
def SInt (S:Bl) (w:World) (cs:List Value) (x:Int):Prop:=cs=[.int .i64 x]/\I64 x
theorem SInt.stay:SStay SInt:=fun _ _ _ _ _ h _=>h
theorem SInt.weak:SWeak SInt:=fun _ _ _ _ _ h _=>h
theorem SInt.old:SOld SInt RInt:=fun _ _ _ _ _ h _=>h
theorem SInt.new:SNew RInt SInt:=fun _ _ _ _ h=>h
def SSet (S:Bl) (w:World) (cs:List Value) (l:List Int):Prop:=∃ v,cs=[v]/\SRows 1 SInt S w v l
theorem SSet.stay:SStay SSet:=fun _ _ _ _ _ ⟨v,h,hr⟩ m=>⟨v,h,hr.same SInt.stay m⟩
theorem SSet.weak:SWeak SSet:=fun _ _ _ _ _ ⟨v,h,hr⟩ m=>⟨v,h,hr.weak (by decide) SInt.weak m⟩
theorem SSet.old:SOld SSet RSet:=fun _ _ _ _ _ ⟨v,h,hr⟩ m=>⟨v,h,hr.old (by decide) SInt.old m⟩
def SPoint (S:Bl) (w:World) (cs:List Value) (d:DPoint):Prop:=cs=[.int .i64 d.x,.int .i64 d.y,.bool d.on]/\I64 d.x/\I64 d.y
theorem SPoint.stay:SStay SPoint:=fun _ _ _ _ d ⟨hc,h0,h1⟩ m=>⟨hc,h0,h1⟩
theorem SPoint.weak:SWeak SPoint:=fun _ _ _ _ d ⟨hc,h0,h1⟩ m=>⟨hc,h0,h1⟩
theorem SPoint.old:SOld SPoint RPoint:=fun _ _ _ _ d ⟨hc,h0,h1⟩ m=>⟨hc,h0,h1⟩
def SPart (S:Bl) (w:World) (cs:List Value) (d:DPart):Prop:=cs=[.int .i64 d.glyph,.int .i64 d.x,.int .i64 d.y]/\I64 d.glyph/\I64 d.x/\I64 d.y
theorem SPart.stay:SStay SPart:=fun _ _ _ _ d ⟨hc,h0,h1,h2⟩ m=>⟨hc,h0,h1,h2⟩
theorem SPart.weak:SWeak SPart:=fun _ _ _ _ d ⟨hc,h0,h1,h2⟩ m=>⟨hc,h0,h1,h2⟩
theorem SPart.old:SOld SPart RPart:=fun _ _ _ _ d ⟨hc,h0,h1,h2⟩ m=>⟨hc,h0,h1,h2⟩
def SAnchor (S:Bl) (w:World) (cs:List Value) (d:DAnchor):Prop:=cs=[.int .i64 d.kind,.int .i64 d.cls,.int .i64 d.x,.int .i64 d.y]/\I64 d.kind/\I64 d.cls/\I64 d.x/\I64 d.y
theorem SAnchor.stay:SStay SAnchor:=fun _ _ _ _ d ⟨hc,h0,h1,h2,h3⟩ m=>⟨hc,h0,h1,h2,h3⟩
theorem SAnchor.weak:SWeak SAnchor:=fun _ _ _ _ d ⟨hc,h0,h1,h2,h3⟩ m=>⟨hc,h0,h1,h2,h3⟩
theorem SAnchor.old:SOld SAnchor RAnchor:=fun _ _ _ _ d ⟨hc,h0,h1,h2,h3⟩ m=>⟨hc,h0,h1,h2,h3⟩
def SDelta (S:Bl) (w:World) (cs:List Value) (d:DDelta):Prop:=cs=[.int .i64 d.region,.int .i64 d.point,.int .i64 d.x,.int .i64 d.y]/\I64 d.region/\I64 d.point/\I64 d.x/\I64 d.y
theorem SDelta.stay:SStay SDelta:=fun _ _ _ _ d ⟨hc,h0,h1,h2,h3⟩ m=>⟨hc,h0,h1,h2,h3⟩
theorem SDelta.weak:SWeak SDelta:=fun _ _ _ _ d ⟨hc,h0,h1,h2,h3⟩ m=>⟨hc,h0,h1,h2,h3⟩
theorem SDelta.old:SOld SDelta RDelta:=fun _ _ _ _ d ⟨hc,h0,h1,h2,h3⟩ m=>⟨hc,h0,h1,h2,h3⟩
def SIns (S:Bl) (w:World) (cs:List Value) (d:DIns):Prop:=cs=[.int .i64 d.op,.int .i64 d.a]/\I64 d.op/\I64 d.a
theorem SIns.stay:SStay SIns:=fun _ _ _ _ d ⟨hc,h0,h1⟩ m=>⟨hc,h0,h1⟩
theorem SIns.weak:SWeak SIns:=fun _ _ _ _ d ⟨hc,h0,h1⟩ m=>⟨hc,h0,h1⟩
theorem SIns.old:SOld SIns RIns:=fun _ _ _ _ d ⟨hc,h0,h1⟩ m=>⟨hc,h0,h1⟩
def SCode (S:Bl) (w:World) (cs:List Value) (l:List DIns):Prop:=∃ v,cs=[v]/\SRows 2 SIns S w v l
theorem SCode.stay:SStay SCode:=fun _ _ _ _ _ ⟨v,h,hr⟩ m=>⟨v,h,hr.same SIns.stay m⟩
theorem SCode.weak:SWeak SCode:=fun _ _ _ _ _ ⟨v,h,hr⟩ m=>⟨v,h,hr.weak (by decide) SIns.weak m⟩
theorem SCode.old:SOld SCode RCode:=fun _ _ _ _ _ ⟨v,h,hr⟩ m=>⟨v,h,hr.old (by decide) SIns.old m⟩
def SChar (S:Bl) (w:World) (cs:List Value) (d:DChar):Prop:=cs=[.int .i64 d.rune,.int .i64 d.glyph]/\I64 d.rune/\I64 d.glyph
theorem SChar.stay:SStay SChar:=fun _ _ _ _ d ⟨hc,h0,h1⟩ m=>⟨hc,h0,h1⟩
theorem SChar.weak:SWeak SChar:=fun _ _ _ _ d ⟨hc,h0,h1⟩ m=>⟨hc,h0,h1⟩
theorem SChar.old:SOld SChar RChar:=fun _ _ _ _ d ⟨hc,h0,h1⟩ m=>⟨hc,h0,h1⟩
def SCall (S:Bl) (w:World) (cs:List Value) (d:DCall):Prop:=cs=[.int .i64 d.pos,.int .i64 d.lookup]/\I64 d.pos/\I64 d.lookup
theorem SCall.stay:SStay SCall:=fun _ _ _ _ d ⟨hc,h0,h1⟩ m=>⟨hc,h0,h1⟩
theorem SCall.weak:SWeak SCall:=fun _ _ _ _ d ⟨hc,h0,h1⟩ m=>⟨hc,h0,h1⟩
theorem SCall.old:SOld SCall RCall:=fun _ _ _ _ d ⟨hc,h0,h1⟩ m=>⟨hc,h0,h1⟩
def STent (S:Bl) (w:World) (cs:List Value) (d:DTent):Prop:=cs=[.int .i64 d.start,.int .i64 d.peak,.int .i64 d.stop]/\I64 d.start/\I64 d.peak/\I64 d.stop
theorem STent.stay:SStay STent:=fun _ _ _ _ d ⟨hc,h0,h1,h2⟩ m=>⟨hc,h0,h1,h2⟩
theorem STent.weak:SWeak STent:=fun _ _ _ _ d ⟨hc,h0,h1,h2⟩ m=>⟨hc,h0,h1,h2⟩
theorem STent.old:SOld STent RTent:=fun _ _ _ _ d ⟨hc,h0,h1,h2⟩ m=>⟨hc,h0,h1,h2⟩
def SAxis (S:Bl) (w:World) (cs:List Value) (d:DAxis):Prop:=cs=[.string d.name,.int .i64 d.min,.int .i64 d.dflt,.int .i64 d.max]/\d.name.size<=maxLen/\I64 d.min/\I64 d.dflt/\I64 d.max
theorem SAxis.stay:SStay SAxis:=fun _ _ _ _ d ⟨hc,h0,h1,h2,h3⟩ m=>⟨hc,h0,h1,h2,h3⟩
theorem SAxis.weak:SWeak SAxis:=fun _ _ _ _ d ⟨hc,h0,h1,h2,h3⟩ m=>⟨hc,h0,h1,h2,h3⟩
theorem SAxis.old:SOld SAxis RAxis:=fun _ _ _ _ d ⟨hc,h0,h1,h2,h3⟩ m=>⟨hc,h0,h1,h2,h3⟩
def SOutline (S:Bl) (w:World) (cs:List Value) (d:DOutline):Prop:=∃ v0 v1,cs=[v0,v1]/\SRows 3 SPoint S w v0 d.pts/\SRows 1 SInt S w v1 d.ends
def SFeature (S:Bl) (w:World) (cs:List Value) (d:DFeature):Prop:=∃ v1,cs=[.string d.name,v1]/\d.name.size<=maxLen/\SRows 1 SInt S w v1 d.lookups
theorem SFeature.stay:SStay SFeature:=fun _ _ _ _ d ⟨v1,hc,h0,h1⟩ m=>⟨v1,hc,h0,h1.same SInt.stay m⟩
theorem SFeature.weak:SWeak SFeature:=fun _ _ _ _ d ⟨v1,hc,h0,h1⟩ m=>⟨v1,hc,h0,h1.weak (by decide) SInt.weak m⟩
theorem SFeature.old:SOld SFeature RFeature:=fun _ _ _ _ d ⟨v1,hc,h0,h1⟩ m=>⟨v1,hc,h0,h1.old (by decide) SInt.old m⟩
def SRule (S:Bl) (w:World) (cs:List Value) (d:DRule):Prop:=∃ v0 v1 v2 v3 v4,cs=[v0,v1,v2,v3,v4,.int .i64 d.x]/\SRows 1 SSet S w v0 d.back/\SRows 1 SSet S w v1 d.ins/\SRows 1 SSet S w v2 d.ahead/\SRows 1 SInt S w v3 d.out/\SRows 2 SCall S w v4 d.calls/\I64 d.x
theorem SRule.stay:SStay SRule:=fun _ _ _ _ d ⟨v0,v1,v2,v3,v4,hc,h0,h1,h2,h3,h4,h5⟩ m=>⟨v0,v1,v2,v3,v4,hc,h0.same SSet.stay m,h1.same SSet.stay m,h2.same SSet.stay m,h3.same SInt.stay m,h4.same SCall.stay m,h5⟩
theorem SRule.weak:SWeak SRule:=fun _ _ _ _ d ⟨v0,v1,v2,v3,v4,hc,h0,h1,h2,h3,h4,h5⟩ m=>⟨v0,v1,v2,v3,v4,hc,h0.weak (by decide) SSet.weak m,h1.weak (by decide) SSet.weak m,h2.weak (by decide) SSet.weak m,h3.weak (by decide) SInt.weak m,h4.weak (by decide) SCall.weak m,h5⟩
theorem SRule.old:SOld SRule RRule:=fun _ _ _ _ d ⟨v0,v1,v2,v3,v4,hc,h0,h1,h2,h3,h4,h5⟩ m=>⟨v0,v1,v2,v3,v4,hc,h0.old (by decide) SSet.old m,h1.old (by decide) SSet.old m,h2.old (by decide) SSet.old m,h3.old (by decide) SInt.old m,h4.old (by decide) SCall.old m,h5⟩
def SLookup (S:Bl) (w:World) (cs:List Value) (d:DLookup):Prop:=∃ v2,cs=[.int .i64 d.kind,.bool d.ignore,v2]/\I64 d.kind/\SRows 6 SRule S w v2 d.rules
theorem SLookup.stay:SStay SLookup:=fun _ _ _ _ d ⟨v2,hc,h0,h1⟩ m=>⟨v2,hc,h0,h1.same SRule.stay m⟩
theorem SLookup.weak:SWeak SLookup:=fun _ _ _ _ d ⟨v2,hc,h0,h1⟩ m=>⟨v2,hc,h0,h1.weak (by decide) SRule.weak m⟩
theorem SLookup.old:SOld SLookup RLookup:=fun _ _ _ _ d ⟨v2,hc,h0,h1⟩ m=>⟨v2,hc,h0,h1.old (by decide) SRule.old m⟩
def SGlyph (S:Bl) (w:World) (cs:List Value) (d:DGlyph):Prop:=∃ v3 v4 v5 v6 v7 v8,cs=[.string d.name,.int .i64 d.adv,.bool d.mark,v3,v4,v5,v6,v7,v8]/\d.name.size<=maxLen/\I64 d.adv/\SRows 3 SPoint S w v3 d.pts/\SRows 1 SInt S w v4 d.ends/\SRows 3 SPart S w v5 d.parts/\SRows 4 SAnchor S w v6 d.anchors/\SRows 4 SDelta S w v7 d.deltas/\SRows 2 SIns S w v8 d.hint
theorem SGlyph.stay:SStay SGlyph:=fun _ _ _ _ d ⟨v3,v4,v5,v6,v7,v8,hc,h0,h1,h2,h3,h4,h5,h6,h7⟩ m=>⟨v3,v4,v5,v6,v7,v8,hc,h0,h1,h2.same SPoint.stay m,h3.same SInt.stay m,h4.same SPart.stay m,h5.same SAnchor.stay m,h6.same SDelta.stay m,h7.same SIns.stay m⟩
theorem SGlyph.weak:SWeak SGlyph:=fun _ _ _ _ d ⟨v3,v4,v5,v6,v7,v8,hc,h0,h1,h2,h3,h4,h5,h6,h7⟩ m=>⟨v3,v4,v5,v6,v7,v8,hc,h0,h1,h2.weak (by decide) SPoint.weak m,h3.weak (by decide) SInt.weak m,h4.weak (by decide) SPart.weak m,h5.weak (by decide) SAnchor.weak m,h6.weak (by decide) SDelta.weak m,h7.weak (by decide) SIns.weak m⟩
theorem SGlyph.old:SOld SGlyph RGlyph:=fun _ _ _ _ d ⟨v3,v4,v5,v6,v7,v8,hc,h0,h1,h2,h3,h4,h5,h6,h7⟩ m=>⟨v3,v4,v5,v6,v7,v8,hc,h0,h1,h2.old (by decide) SPoint.old m,h3.old (by decide) SInt.old m,h4.old (by decide) SPart.old m,h5.old (by decide) SAnchor.old m,h6.old (by decide) SDelta.old m,h7.old (by decide) SIns.old m⟩
def SRegion (S:Bl) (w:World) (cs:List Value) (d:DRegion):Prop:=∃ v0,cs=[v0]/\SRows 3 STent S w v0 d.tents
theorem SRegion.stay:SStay SRegion:=fun _ _ _ _ d ⟨v0,hc,h0⟩ m=>⟨v0,hc,h0.same STent.stay m⟩
theorem SRegion.weak:SWeak SRegion:=fun _ _ _ _ d ⟨v0,hc,h0⟩ m=>⟨v0,hc,h0.weak (by decide) STent.weak m⟩
theorem SRegion.old:SOld SRegion RRegion:=fun _ _ _ _ d ⟨v0,hc,h0⟩ m=>⟨v0,hc,h0.old (by decide) STent.old m⟩
def SFont (S:Bl) (w:World) (cs:List Value) (d:DFont):Prop:=∃ v1 v2 v3 v4 v5 v6 v7 v8,cs=[.int .i64 d.unit,v1,v2,v3,v4,v5,v6,v7,v8]/\I64 d.unit/\SRows 9 SGlyph S w v1 d.glyphs/\SRows 2 SChar S w v2 d.chars/\SRows 3 SLookup S w v3 d.lookups/\SRows 2 SFeature S w v4 d.features/\SRows 4 SAxis S w v5 d.axes/\SRows 1 SRegion S w v6 d.regions/\SRows 1 SCode S w v7 d.funcs/\SRows 1 SInt S w v8 d.cvt
theorem SFont.stay:SStay SFont:=fun _ _ _ _ d ⟨v1,v2,v3,v4,v5,v6,v7,v8,hc,h0,h1,h2,h3,h4,h5,h6,h7,h8⟩ m=>⟨v1,v2,v3,v4,v5,v6,v7,v8,hc,h0,h1.same SGlyph.stay m,h2.same SChar.stay m,h3.same SLookup.stay m,h4.same SFeature.stay m,h5.same SAxis.stay m,h6.same SRegion.stay m,h7.same SCode.stay m,h8.same SInt.stay m⟩
theorem SFont.weak:SWeak SFont:=fun _ _ _ _ d ⟨v1,v2,v3,v4,v5,v6,v7,v8,hc,h0,h1,h2,h3,h4,h5,h6,h7,h8⟩ m=>⟨v1,v2,v3,v4,v5,v6,v7,v8,hc,h0,h1.weak (by decide) SGlyph.weak m,h2.weak (by decide) SChar.weak m,h3.weak (by decide) SLookup.weak m,h4.weak (by decide) SFeature.weak m,h5.weak (by decide) SAxis.weak m,h6.weak (by decide) SRegion.weak m,h7.weak (by decide) SCode.weak m,h8.weak (by decide) SInt.weak m⟩
theorem Blk.grew {w w':World} {b:Nat} {cs:Array Value} {t:TypeId} {row:Option Nat} (h:Blk w b cs t) (g:w.grownBy w' row) (hn:row≠some b):Blk w' b cs t:=by
 have:w'.heap[b]?=w.heap[b]?:=g.block b h.lt (fun he=>hn he.symm);unfold Blk at h ⊢;rw [this,h]
theorem Mod.grew {F:List Nat} {w a b:World} {row:Option Nat} (h:Mod F w a) (g:a.grownBy b row) (hr:∀ k,row=some k->w.heap.size<=k):Mod F w b :=
 ⟨g.os.trans h.os,g.tape.trans h.tape,g.output.trans h.output,nT h.size g.size,fun k hk hn=>(g.block k (Nat.lt_of_lt_of_le hk h.size) (fun he=>by have:=hr k he.symm;omega)).trans (h.block k hk hn)⟩
section
variable {P:Program} {w w':World} {base k:Nat} {e:TypeId} {v v':Value}
theorem append_block (t ty e:TypeId) (i:TypeInfo) (z:Value) (size bytes:Nat) (ht:P.underlying t=some (.slice e)) (hi:P.info? e=some i) (hz:i.zero=some z)
  (hsize:i.size=size) (hby:i.bytes=bytes) (hzs:z.cells.size=size)
  (v:Value) (n:Nat) (xs:List Value) (hown:w.ownsRow base e size v n xs)
  (a:Addr) (m c:Nat) (news:List Value) (hl:news.length=m*size) (hnews:∀ j u,news[j]?=some u->w.cell? (a.add j)=some u) (h1:∀ u∈news,u.oneCell'=true)
  (h63:n+m<=maxLen) (hbytes:(n+m)*bytes<=140737488355328) (hr:(Builtin.append_ #[t,t] ty #[v,.slice (some a) m c]).run P w=.ok v' w') :
  v'.ownBlock=v.ownBlock∨v'.ownBlock=some w.heap.size:=by
 subst hsize;subst hby;have hsmall:n+m<=9223372036854775807:=by simp only [maxLen] at h63;omega
 rcases hown.2 with ⟨rfl,rfl⟩ | ⟨g,cap,cur,rfl,hbg,hg,hnc,hcm,hcs,htake⟩
 ·by_cases hm:m=0
  ·subst hm;have hn:news=[]:=List.eq_nil_of_length_eq_zero (by simpa using hl);subst hn;left;have h2:(Builtin.append_ #[t,t] ty #[.slice none 0 0,.slice (some a) 0 c]).run P w=.ok (.slice none 0 0) w:=by
    simp [Builtin.append_,run_underlying ht,sizeOf,typeInfo,hi,Builtin.lenOf,Builtin.firstCells,loadCells,loadCellsFrom]
   rw [h2] at hr;cases hr;rfl
  ·right;have h2:=run_append_nil (P:=P) w t ty e i z ht hi hz a m c news hl hnews (by omega) (by omega) (by have hb:=hbytes;simp only [Nat.zero_add] at hb;omega);rw [h2] at hr;cases hr;rfl
 ·by_cases hroom:n+m<=cap
  ·left;have hfit:n*i.size+news.length<=cur.size:=by rw [hl,hcs,<- Nat.add_mul];exact Nat.mul_le_mul_right _ hroom
   have h2:=run_append_room (P:=P) w t ty e i ht hi g n cap cur hg a m c news hl hnews h1 hroom hfit;rw [h2] at hr;cases hr;rfl
  ·right;have holds:∀ j u,xs[j]?=some u->w.cell? ((⟨g,0,none⟩:Addr).add j)=some u:=hown.cells (g:=g) rfl;have h2:=run_append_grow (P:=P) w t ty e i z ht hi hz ⟨g,0,none⟩ n cap xs hown.1 holds a m c news hl hnews (by omega) (by omega) (growslice_fits (by omega) hbytes);rw [h2] at hr;cases hr;rfl
def Elems {α:Type} (k:Nat) (R:Bl->World->List Value->α->Prop) (S:Bl) (w:World) (css:List (List Value)) (l:List α):Prop :=
 css.length=l.length/\∀ i (h:i<css.length) (h':i<l.length),css[i].length=k/\R S w css[i] l[i]
section
variable {α:Type} {R:Bl->World->List Value->α->Prop} {S S':Bl} {css css':List (List Value)} {l l':List α}
theorem Elems.nil:Elems k R S w [] []:=⟨rfl,fun i h=>absurd h (Nat.not_lt_zero i)⟩
theorem Elems.one {cs:List Value} {x:α} (hk:cs.length=k) (h:R S w cs x):Elems k R S w [cs] [x]:=⟨rfl,fun i h1 h2=>by
 obtain rfl:i=0:=by simpa using h1
 exact ⟨hk,h⟩⟩
theorem Elems.append (h:Elems k R S w css l) (h':Elems k R S w css' l'):Elems k R S w (css++css') (l++l'):=by
 refine ⟨by rw [List.length_append,List.length_append,h.1,h'.1],fun i h1 h2=>?_⟩
 by_cases hi:i<css.length
 ·have:=h.2 i hi (by have:=h.1;omega);rw [List.getElem_append_left hi,List.getElem_append_left (by have:=h.1;omega)];exact this
 ·have he:=h.1;rw [List.getElem_append_right (by omega),List.getElem_append_right (by omega)];have h3:=h'.2 (i - css.length) (by simp at h1;omega) (by simp at h2;omega);refine ⟨h3.1,?_⟩;have h4:i - l.length=i - css.length:=by omega
  simp only [h4];exact h3.2
theorem Elems.same (hR:SStay R) (h:Elems k R S w css l) (m:SameB S w w'):Elems k R S w' css l:=⟨h.1,fun i h1 h2=>⟨(h.2 i h1 h2).1,hR _ _ _ _ _ (h.2 i h1 h2).2 m⟩⟩
theorem Elems.weak (hR:SWeak R) (h:Elems k R S w css l) (hS:∀ b,b<w.heap.size->S b->S' b):Elems k R S' w css l:=⟨h.1,fun i h1 h2=>⟨(h.2 i h1 h2).1,hR _ _ _ _ _ (h.2 i h1 h2).2 hS⟩⟩
theorem Elems.flat (h:Elems k R S w css l):css.flatten.length=l.length*k:=by
 rw [<- h.1];have:∀ (c:List (List Value)),(∀ i (h:i<c.length),c[i].length=k)->c.flatten.length=c.length*k:=by
  intro c
  induction c with
  | nil=>simp
  | cons x r ih =>
   intro hc;have h0:=hc 0 (by simp);have h1:=ih (fun i hi=>by have:=hc (i+1) (by simpa using hi);simpa using this);rw [List.flatten_cons,List.length_append,h1,List.length_cons,Nat.add_mul];simp only [List.getElem_cons_zero] at h0;omega
 exact this css fun i hi=>(h.2 i hi (by have:=h.1;omega)).1
end
theorem flatten_at {css:List (List Value)} (hk:∀ i (h:i<css.length),css[i].length=k):∀ (i j:Nat) (hi:i<css.length),j<k->css.flatten[i*k+j]?=(css[i])[j]?:=by
 induction css with
 | nil=>intro i j hi;simp at hi
 | cons x r ih =>
  intro i j hi hj;have h0:=hk 0 (by simp);simp only [List.getElem_cons_zero] at h0;cases i with
  | zero=>rw [List.flatten_cons,List.getElem?_append_left (by omega)];simp
  | succ i =>
   rw [List.flatten_cons,List.getElem?_append_right (by rw [h0,Nat.add_mul];omega),h0,show (i+1)*k+j - k=i*k+j by rw [Nat.add_mul];omega];exact ih (fun q hq=>by have:=hk (q+1) (by simpa using hq);simpa using this) i j (by simpa using hi) hj
def Grow {α:Type} (base:Nat) (e:TypeId) (k:Nat) (R:Bl->World->List Value->α->Prop) (S:Bl) (v:Value) (l:List α) (w:World):Prop :=
 ∃ css,w.ownsRow base e k v l.length css.flatten/\Elems k R (fun b=>S b/\v.ownBlock≠some b) w css l
section
variable {α:Type} {R:Bl->World->List Value->α->Prop} {S S':Bl} {l l':List α}
theorem Grow.nil:Grow base e k R S (.slice none 0 0) ([]:List α) w:=⟨[],World.ownsRow_nil w base e k,Elems.nil⟩
theorem Grow.form (h:Grow base e k R S v l w):∃ oa c,v=.slice oa l.length c:=by
 obtain ⟨css,h,_⟩:=h;exact own_form h
theorem Grow.lt (h:Grow base e k R S v l w):∀ g,v.ownBlock=some g->base<=g/\g<w.heap.size:=by
 obtain ⟨css,h,_⟩:=h;exact h.lt
theorem Grow.kept (hR:SStay R) (h:Grow base e k R S v l w) {F:List Nat} (m:Mod F w w') (h1:∀ b∈F,v.ownBlock≠some b) (h2:∀ b∈F,¬ S b):Grow base e k R S v l w':=by
 obtain ⟨css,ho,he⟩:=h;refine ⟨css,?_,he.same hR (m.sameB fun b hb hs=>h2 b hb hs.1)⟩;refine ⟨ho.1,?_⟩;rcases ho.2 with h | ⟨g,cap,cur,hv,hb,hg,h3⟩
 ·exact .inl h
 ·refine .inr ⟨g,cap,cur,hv,hb,?_,h3⟩;rw [m.block g (ho.lt g (by rw [hv];rfl)).2 (fun hm=>h1 g hm (by rw [hv];rfl))];exact hg
theorem Grow.mod (hR:SStay R) (h:Grow base e k R S v l w) (m:Mod [] w w'):Grow base e k R S v l w':=h.kept hR m (by simp) (by simp)
theorem Grow.keptB (hR:SStay R) (h:Grow base e k R S v l w) {F:List Nat} (m:Mod F w w') (h1:∀ b∈F,b<base) (h2:∀ b,S b->base<=b):Grow base e k R S v l w' :=
 h.kept hR m (fun b hb he=>by have:=(h.lt b he).1;have:=h1 b hb;omega) (fun b hb hs=>by have:=h1 b hb;have:=h2 b hs;omega)
theorem Grow.set (hR:SStay R) (h:Grow base e k R S v l w) {p:Addr} (hp:v.ownBlock≠some p.block) (hS:¬ S p.block) (u:Value):Grow base e k R S v l (w.setCell p u):=by
 obtain ⟨css,ho,he⟩:=h;refine ⟨css,⟨ho.1,?_⟩,he.same hR (SameB.set w (fun hs=>hS hs.1) u)⟩;rcases ho.2 with h | ⟨g,cap,cur,hv,hb,hg,h3⟩
 ·exact .inl h
 ·refine .inr ⟨g,cap,cur,hv,hb,?_,h3⟩;rw [Below.heap_setCell w p u g (fun he=>hp (by rw [hv,<- he];rfl))];exact hg
theorem Grow.made {b:Nat} {cs:Array Value} {css:List (List Value)} (hR:SWeak R) (hb:base<=b) (hB:Blk w b cs e) (hcs:cs.toList=css.flatten) (hE:Elems k R S w css l) (hS:∀ x,x<w.heap.size->S x->x≠b) (hl:l.length<=maxLen) :
  Grow base e k R S (.slice (some ⟨b,0,none⟩) l.length l.length) l w:=by
 have hf:=hE.flat;refine ⟨css,⟨hf,.inr ⟨b,l.length,cs,rfl,hb,hB,nR _,hl,?_,?_⟩⟩,hE.weak hR fun x hx hs=>⟨hs,fun he=>hS x hx hs (by simpa [Value.ownBlock] using he.symm)⟩⟩
 ·rw [<- Array.length_toList,hcs];exact hf
 ·rw [hcs,<- hf];exact List.take_length
theorem Grow.push (hR:SStay R) (hW:SWeak R) {css':List (List Value)} (h:Grow base e k R S v l w) (hE:Elems k R (fun b=>S b/\v.ownBlock≠some b) w css' l')
  (ho:∀ xs,w.ownsRow base e k v l.length xs->w'.ownsRow base e k v' (l.length+l'.length) (xs++css'.flatten)) (g:w.grownBy w' v.ownBlock) (hb:v'.ownBlock=v.ownBlock∨v'.ownBlock=some w.heap.size):Grow base e k R S v' (l++l') w':=by
 obtain ⟨css,h1,h2⟩:=h;refine ⟨css++css',by rw [List.length_append,List.flatten_append];exact ho _ h1,?_⟩;have h3:=((h2.append hE).weak (S':=fun b=>(S b/\v.ownBlock≠some b)/\b<w.heap.size) hW fun b hb hs=>⟨hs,hb⟩)
 have h4:=h3.same hR (w':=w') fun b hb hlt=>g.block b hlt (fun he=>hb.1.2 he.symm)
 refine h4.weak hW fun b _ hs=>⟨hs.1.1,fun he=>?_⟩
 rcases hb with hb | hb
 ·exact hs.1.2 (hb ▸ he)
 ·rw [hb] at he;have:=hs.2;simp at he;omega
theorem Grow.other {u:Value} (hR:SStay R) (h:Grow base e k R S v l w) (g:w.grownBy w' u.ownBlock) (h1:v.ownBlock=none∨v.ownBlock≠u.ownBlock) (h2:∀ b,u.ownBlock=some b->¬ S b):Grow base e k R S v l w':=by
 obtain ⟨css,ho,he⟩:=h;exact ⟨css,ho.kept g h1,he.same hR fun b hb hlt=>g.block b hlt fun hx=>h2 b hx.symm hb.1⟩
theorem Grow.ne {β:Type} {base' k':Nat} {e':TypeId} {R':Bl->World->List Value->β->Prop} {S':Bl} {u:Value} {l':List β} (h:Grow base e k R S v l w) (h':Grow base' e' k' R' S' u l' w) (hne:e≠e'):v.ownBlock=none∨v.ownBlock≠u.ownBlock:=by
 obtain ⟨_,h,_⟩:=h;obtain ⟨_,h',_⟩:=h';rcases h.2 with ⟨rfl,_⟩ | ⟨g,cap,cur,rfl,_,hg,_⟩
 ·exact .inl rfl
 ·rcases h'.2 with ⟨rfl,_⟩ | ⟨g',cap',cur',rfl,_,hg',_⟩
  ·exact .inr (by simp [Value.ownBlock])
  ·refine .inr fun he=>?_
   simp only [Value.ownBlock,Option.some.injEq] at he;subst he;rw [hg] at hg';cases hg';exact hne rfl
theorem Grow.done (hk0:0<k) (hW:SWeak R) (h:Grow base e k R S v l w) (hS:∀ b,b<w.heap.size->S b->S' b) (h1:∀ b,v.ownBlock=some b->S' b):SRows k R S' w v l:=by
 obtain ⟨css,ho,he⟩:=h;rcases ho.2 with ⟨rfl,hn⟩ | ⟨g,cap,cur,rfl,hb,hg,hc,hcm,hcs,ht⟩
 ·obtain rfl:=List.eq_nil_of_length_eq_zero hn;exact SRows.nil w
 ·refine ⟨_,cap,rfl,nT hc hcm,fun i hi=>⟨_,rfl,h1 g rfl,css[i]'(by rw [he.1];exact hi),(he.2 i (by rw [he.1];exact hi) hi).1,fun j hj=>?_,hW _ _ _ _ _ (he.2 i (by rw [he.1];exact hi) hi).2 fun b hb hs=>hS b hb hs.1⟩⟩;rw [addr_add_add];have e1:(⟨g,0,Option.none⟩:Addr).add (i*k+j)=⟨g,i*k+j,Option.none⟩:=by unfold Addr.add;split <;> simp_all
  have hB:Blk w g cur e:=hg;rw [e1,hB.cell];have h5:=flatten_at (css:=css) (fun q hq=>(he.2 q hq (by have:=he.1;omega)).1) i j (by rw [he.1];exact hi) hj;rw [<- h5,<- ht,List.getElem?_take];have:i*k+j<l.length*k:=by
   have:(i+1)*k<=l.length*k:=Nat.mul_le_mul_right _ hi;rw [Nat.add_mul] at this;omega
  simp [this]
theorem Grow.weak (hW:SWeak R) (h:Grow base e k R S v l w) (hS:∀ b,b<w.heap.size->S b->S' b):Grow base e k R S' v l w:=by
 obtain ⟨css,ho,he⟩:=h;exact ⟨css,ho,he.weak hW fun b hb hs=>⟨hS b hb hs.1,hs.2⟩⟩
theorem Grow.at (h:Grow base e k R S v l w) (i:Nat) (hi:i<l.length):∃ g c cs,v=.slice (some ⟨g,0,none⟩) l.length c/\cs.length=k/\R (fun b=>S b/\g≠b) w cs l[i]/\∀ j,j<k->w.cell? ⟨g,i*k+j,none⟩=cs[j]?:=by
 obtain ⟨css,ho,he⟩:=h;rcases ho.2 with ⟨rfl,hn⟩ | ⟨g,cap,cur,rfl,hb,hg,hc,hcm,hcs,ht⟩
 ·omega
 ·have hic:i<css.length:=by rw [he.1];exact hi
  refine ⟨g,cap,css[i],rfl,(he.2 i hic hi).1,?_,fun j hj=>?_⟩
  ·have h2:=(he.2 i hic hi).2;simpa [Value.ownBlock] using h2
  ·have hB:Blk w g cur e:=hg;rw [hB.cell];have h5:=flatten_at (css:=css) (fun q hq=>(he.2 q hq (by have:=he.1;omega)).1) i j hic hj;rw [<- h5,<- ht,List.getElem?_take];have:i*k+j<l.length*k:=by
    have:(i+1)*k<=l.length*k:=Nat.mul_le_mul_right _ hi;rw [Nat.add_mul] at this;omega
   simp [this]
theorem wpList_push {ops:Array Oper} {rest:List Oper} {o:Oper} {a:Act} {Q:Exit->Act->World->Prop} (hgd:o.guard=none) (s x:Operand) (t:TypeId)
  (ho:o.op=.call { callee:=.builtin .append,args:=#[s,x],argTypes:=#[t,t] })
  (i:TypeInfo) (z:Value) (bytes:Nat) (ht:P.underlying t=some (.slice e)) (hi:P.info? e=some i) (hz:i.zero=some z)
  (hsize:i.size=k) (hby:i.bytes=bytes) (hzs:z.cells.size=k) (hsz:0<k)
  (hR:SStay R) (hW:SWeak R) (hs:a.eval s=v) (h:Grow base e k R S v l w)
  (ad:Addr) (m c:Nat) (css':List (List Value)) (hx:a.eval x=.slice (some ad) m c) (hm:m=l'.length) (hE:Elems k R (fun b=>S b/\v.ownBlock≠some b) w css' l') (hnews:∀ j u,css'.flatten[j]?=some u->w.cell? (ad.add j)=some u) (h1:∀ u∈css'.flatten,u.oneCell'=true)
  (h63:l.length+m<=maxLen) (hbytes:(l.length+m)*bytes<=140737488355328) (hbase:base<=w.heap.size)
  (hK:∀ v' w',Grow base e k R S v' (l++l') w'->w.grownBy w' v.ownBlock->(v'.ownBlock=v.ownBlock∨v'.ownBlock=some w.heap.size)->wpList P ops Q rest (a.put o.dst v') w'):wpList P ops Q (o::rest) a w:=by
 obtain ⟨css,hown,hE0⟩:=id h;have hl:css'.flatten.length=m*k:=by rw [hE.flat,hm]
 refine wpList_plain hgd fun K hKK=>?_
 obtain ⟨v',w',hr,h2,h3,_⟩:=run_append_own (P:=P) w base t o.type e i z k bytes ht hi hz hsize hby hzs hsz v l.length css.flatten hown ad m c css'.flatten hl hnews h1 h63 hbytes hbase;have hbk:=append_block (P:=P) t o.type e i z k bytes ht hi hz hsize hby hzs v l.length css.flatten hown ad m c css'.flatten hl hnews h1 h63 hbytes hr;have hg:Grow base e k R S v' (l++l') w':=by
  refine h.push hR hW (css':=css') hE (fun xs hxs=>?_) h3 hbk;have:xs=css.flatten:=by
   rcases hown.2 with ⟨rfl,hn⟩ | ⟨g,cap,cur,rfl,_,hg,_,_,_,hq⟩
   ·have h5:=hxs.1;have h6:=hown.1;rw [hn] at h5 h6;have h7:xs=[]:=List.eq_nil_of_length_eq_zero (by simpa using h5);have h8:css.flatten=[]:=List.eq_nil_of_length_eq_zero (by rw [h6];simp);rw [h7,h8]
   ·rcases hxs.2 with ⟨hv,_⟩ | ⟨g',cap',cur',hv,_,hg',_,_,_,hq'⟩
    ·cases hv
    ·cases hv;rw [hg] at hg';cases hg';rw [<- hq,<- hq']
  rw [this,<- hm];exact h2
 unfold Oper.wp execOp;simp only [ho,resolve,invoke,builtin,Sem.run_bind,Sem.run_pure,Result.andThen_ok,List.map_toArray,List.map_cons,List.map_nil,hs,hx,hr];exact hKK _ _ (hK v' w' hg h3 hbk)
end
end
theorem inf_Int:(Tryz.prog.info? 3).map (fun i=>(i.zero,i.size,i.bytes))=some (some (.int .i64 0),1,8):=by kernel_rfl
theorem inf_Ins:(Tryz.prog.info? 48).map (fun i=>(i.zero,i.size,i.bytes))=some (some (.agg #[.int .i64 0,.int .i64 0]),2,16):=by kernel_rfl
theorem inf_Point:(Tryz.prog.info? 97).map (fun i=>(i.zero,i.size,i.bytes))=some (some (.agg #[.int .i64 0,.int .i64 0,.bool false]),3,24):=by kernel_rfl
theorem inf_Part:(Tryz.prog.info? 69).map (fun i=>(i.zero,i.size,i.bytes))=some (some (.agg #[.int .i64 0,.int .i64 0,.int .i64 0]),3,24):=by kernel_rfl
theorem inf_Anchor:(Tryz.prog.info? 145).map (fun i=>(i.zero,i.size,i.bytes))=some (some (.agg #[.int .i64 0,.int .i64 0,.int .i64 0,.int .i64 0]),4,32):=by kernel_rfl
theorem inf_Delta:(Tryz.prog.info? 147).map (fun i=>(i.zero,i.size,i.bytes))=some (some (.agg #[.int .i64 0,.int .i64 0,.int .i64 0,.int .i64 0]),4,32):=by kernel_rfl
theorem inf_Char:(Tryz.prog.info? 37).map (fun i=>(i.zero,i.size,i.bytes))=some (some (.agg #[.int .i64 0,.int .i64 0]),2,16):=by kernel_rfl
theorem inf_Call:(Tryz.prog.info? 51).map (fun i=>(i.zero,i.size,i.bytes))=some (some (.agg #[.int .i64 0,.int .i64 0]),2,16):=by kernel_rfl
theorem inf_Tent:(Tryz.prog.info? 81).map (fun i=>(i.zero,i.size,i.bytes))=some (some (.agg #[.int .i64 0,.int .i64 0,.int .i64 0]),3,24):=by kernel_rfl
theorem inf_Axis:(Tryz.prog.info? 76).map (fun i=>(i.zero,i.size,i.bytes))=some (some (.agg #[.string ByteArray.empty,.int .i64 0,.int .i64 0,.int .i64 0]),4,40):=by kernel_rfl
theorem inf_Region:(Tryz.prog.info? 79).map (fun i=>(i.zero,i.size,i.bytes))=some (some (.agg #[.slice none 0 0]),1,24):=by kernel_rfl
theorem inf_Set:(Tryz.prog.info? 22).map (fun i=>(i.zero,i.size,i.bytes))=some (some (.slice none 0 0),1,24):=by kernel_rfl
theorem inf_Code:(Tryz.prog.info? 44).map (fun i=>(i.zero,i.size,i.bytes))=some (some (.slice none 0 0),1,24):=by kernel_rfl
theorem inf_Rule:(Tryz.prog.info? 54).map (fun i=>(i.zero,i.size,i.bytes))=some (some (.agg #[.slice none 0 0,.slice none 0 0,.slice none 0 0,.slice none 0 0,.slice none 0 0,.int .i64 0]),6,128):=by kernel_rfl
theorem inf_Lookup:(Tryz.prog.info? 57).map (fun i=>(i.zero,i.size,i.bytes))=some (some (.agg #[.int .i64 0,.bool false,.slice none 0 0]),3,40):=by kernel_rfl
theorem inf_Feature:(Tryz.prog.info? 88).map (fun i=>(i.zero,i.size,i.bytes))=some (some (.agg #[.string ByteArray.empty,.slice none 0 0]),2,40):=by kernel_rfl
theorem inf_Glyph:(Tryz.prog.info? 46).map (fun i=>(i.zero,i.size,i.bytes))=some (some (.agg #[.string ByteArray.empty,.int .i64 0,.bool false,.slice none 0 0,.slice none 0 0,.slice none 0 0,.slice none 0 0,.slice none 0 0,.slice none 0 0]),9,176):=by kernel_rfl
namespace Mk
structure S where
 r:List Int
 lp:Int
abbrev M (α:Type):=S->α×S
def next (n:Int) (s:S):Int×S:=match s.r with | []=>(0,s) | x::r=>(x % n,⟨r,s.lp⟩)
def rep {α:Type} (n:Nat) (f:Nat->α->M α) (a:α) (s:S):α×S:=match n with | 0=>(a,s) | n+1=>f n (rep n f a s).1 (rep n f a s).2
theorem rep_zero {α:Type} (f:Nat->α->M α) (a:α) (s:S):rep 0 f a s=(a,s):=rfl
theorem rep_succ {α:Type} (n:Nat) (f:Nat->α->M α) (a:α) (s:S):rep (n+1) f a s=f n (rep n f a s).1 (rep n f a s).2:=rfl
def bind {α β:Type} (x:α×S) (f:α->M β):β×S:=f x.1 x.2
def point (p:Nat) (s:S):DPoint×S :=
 bind (next 21 s) fun x s=>bind (next 21 s) fun y s=>if p=0 then (⟨x*50 - 100,y*50 - 200,true⟩,s) else bind (next 4 s) fun z s=>(⟨x*50 - 100,y*50 - 200,decide (0<z)⟩,s)
def contour (o:DOutline) (s:S):DOutline×S :=
 bind (next 4 s) fun k s=>bind (rep (2+k).toNat (fun p l s=>bind (point p s) fun d s=>(l++[d],s)) o.pts s) fun pts s=>(⟨pts,o.ends++[(pts.length:Int) - 1]⟩,s)
def outline (s:S):DOutline×S:=bind (next 3 s) fun n s=>rep n.toNat (fun _ o s=>contour o s) ⟨[],[]⟩ s
def rest (q:Int):List DIns:=[⟨39,0⟩,⟨1,16⟩,⟨17,0⟩,⟨36,2⟩,⟨1,q⟩,⟨2,0⟩]
def pieceC (p q a funcs c:Int) (s:S):List DIns×S :=
 if c=0 then ([⟨22,a⟩,⟨23,a⟩],s) else if c=1 then bind (next 6 s) fun v s=>([⟨24,v⟩],s)
 else if c=2 then ([⟨1,p⟩,⟨1,p⟩,⟨29,0⟩,⟨15,0⟩,⟨32,0⟩],s)
 else if c=3 then ([⟨1,p⟩,⟨1,p⟩,⟨29,0⟩,⟨15,0⟩,⟨32,0⟩],s)
 else if c=4 then bind (next 200 s) fun v s=>([⟨1,p⟩,⟨1,v - 100⟩,⟨31,0⟩],s)
 else if c=5 then ([⟨1,p⟩,⟨1,q⟩,⟨33,0⟩],s)
 else if c=6 then ([⟨34,a⟩],s)
 else if c=7 then ([⟨1,a⟩,⟨1,q⟩,⟨25,0⟩,⟨1,3⟩,⟨5,0⟩,⟨26,0⟩],s)
 else if c=8 then (if 0<funcs then bind (next funcs s) fun v s=>([⟨37,v⟩],s) else (rest q,s))
 else if c=9 then (if 0<funcs/\0<s.lp then bind (next 5 ⟨s.r,s.lp - 1⟩) fun v s=>bind (next funcs s) fun u s=>([⟨1,v⟩,⟨38,u⟩],s) else (rest q,s))
 else if c=10 then ([⟨1,p⟩,⟨30,0⟩,⟨1,q⟩,⟨29,0⟩,⟨16,0⟩,⟨36,3⟩,⟨1,q⟩,⟨1,64⟩,⟨31,0⟩],s)
 else (rest q,s)
def piece (n funcs:Int) (s:S):List DIns×S :=
 bind (next (n+1) s) fun p s=>bind (next (n+1) s) fun q s=>bind (next 2 s) fun a s=>bind (next 12 s) fun c s=>pieceC p q a funcs c s
def hint (n funcs most:Int) (s:S):List DIns×S:=bind (next most s) fun k s=>rep k.toNat (fun _ l s=>bind (piece n funcs s) fun x s=>(l++x,s)) [] s
def setL (n:Int):Nat->Int->List Int->S->List Int×S
 | 0,_,l,s=>(l,s)
 | f+1,i,l,s=>if i<n/\l.length<4 then bind (next 3 s) fun z s=>setL n f (i+1) (if z=0 then l++[i] else l) s else (l,s)
def set (n:Int) (s:S):List Int×S:=bind (next n s) fun a s=>setL n (n - 1 - a).toNat (a+1) [a] s
def row (n most:Int) (s:S):List (List Int)×S:=bind (next (most+1) s) fun k s=>rep k.toNat (fun _ l s=>bind (set n s) fun x s=>(l++[x],s)) [] s
def nexts (n:Int) (k:Nat) (s:S):List Int×S:=rep k (fun _ l s=>bind (next n s) fun x s=>(l++[x],s)) [] s
def rule (n kind:Int) (calls:List Int) (s:S):DRule×S :=
 bind (set n s) fun a s =>
 if kind=6 then bind (set n s) fun b s=>bind (next 41 s) fun x s=>(⟨[],[a,b],[],[],[],x*10 - 200⟩,s)
 else bind (next 2 s) fun z s=>bind (if z=0 then row n 2 s else ([],s)) fun back s=>bind (if z=0 then row n 2 s else ([],s)) fun ahead s =>
 if kind=1∨kind=5 then bind (nexts n a.length s) fun out s=>(⟨back,[a],ahead,out,[],0⟩,s)
 else if kind=2 then bind (next 4 s) fun k s=>bind (nexts n k.toNat s) fun out s=>(⟨back,[a],ahead,out,[],0⟩,s)
 else if kind=3 then bind (row n 2 s) fun more s=>bind (next n s) fun x s=>(⟨back,a::more,ahead,[x],[],0⟩,s)
 else bind (row n 2 s) fun more s=>bind (next 3 s) fun k s =>
  bind (if calls.length=0 then ([],s) else rep k.toNat (fun _ l s=>bind (next ((a::more).length:Int) s) fun p s=>bind (next (calls.length:Int) s) fun q s=>(l++[(⟨p,calls.getD q.toNat 0⟩:DCall)],s)) [] s) fun cs s =>
  (⟨back,a::more,ahead,[],cs,0⟩,s)
def kinds:List Int:=[1,2,3,4,4,5,6,7,8,1]
def lookups1 (s:S):(List DLookup×List Int)×S :=
 bind (next 7 s) fun n s=>rep n.toNat (fun i l s=>bind (next 10 s) fun k s=>bind (next 3 s) fun z s =>
  ((l.1++[⟨kinds.getD k.toNat 0,decide (z=0),[]⟩],if kinds.getD k.toNat 0<=4 then l.2++[(i:Int)] else l.2),s)) ([],[]) s
def lookups (n:Int) (s:S):List DLookup×S :=
 bind (lookups1 s) fun lc s=>rep lc.1.length (fun i l s=>match lc.1[i]? with
  | none=>(l,s)
  | some d=>if 7<=d.kind then (l++[d],s) else bind (next 3 s) fun k s=>bind (rep (1+k).toNat (fun _ rs s=>bind (rule n d.kind lc.2 s) fun x s=>(rs++[x],s)) [] s) fun rs s=>(l++[⟨d.kind,d.ignore,rs⟩],s)) [] s
def letter (n:Nat):ByteArray:=⟨#[UInt8.ofNat (97+n)]⟩
def gname (n:Nat):ByteArray:=(⟨#[103]⟩:ByteArray)++letter n
def anchors (mark:Bool) (s:S):List DAnchor×S :=
 bind (next 2 s) fun c s=>rep 5 (fun i l s=>bind (next 3 s) fun z s =>
  let k:Int×Int:=[(1,0),(1,1),(3,0),(4,0),(2,c)].getD i (0,0)
  if z=0/\(k.1≠2∨mark=true) then bind (next 21 s) fun x s=>bind (next 21 s) fun y s=>(l++[⟨k.1,k.2,x*50,y*50 - 200⟩],s) else (l,s)) [] s
def deltas (regions pts:Nat) (s:S):List DDelta×S :=
 rep regions (fun r l s=>rep (pts+1) (fun p l s=>bind (next 3 s) fun z s=>if z=0 then bind (next 41 s) fun x s =>
  (if p=0 then (l++[⟨r,-1,x - 20,0⟩],s) else bind (next 41 s) fun y s=>(l++[⟨r,(p:Int) - 1,x - 20,y - 20⟩],s)) else (l,s)) l s) [] s
def partsY (s:S):List DPart×S:=bind (next 9 s) fun x s=>bind (next 5 s) fun y s=>([(⟨1,x*50 - 200,y*50⟩:DPart)],s)
def parts (n:Nat) (s:S):List DPart×S:=if 1<n then bind (next 4 s) fun z s=>(if z=0 then partsY s else ([],s)) else ([],s)
def glyph (n regions funcs:Nat) (s:S):DGlyph×S :=
 bind (next 19 s) fun adv s=>bind (next 4 s) fun mk s=>bind (outline s) fun o s=>bind (parts n s) fun parts s =>
 let mark:=decide (n≠0) && decide (mk=0)
 bind (anchors mark s) fun an s=>bind (deltas regions o.pts.length s) fun de s=>bind (hint o.pts.length funcs 6 ⟨s.r,2⟩) fun h s =>
 (⟨if n=0 then (⟨#[46,110,111,116,100,101,102]⟩:ByteArray) else gname n,100+adv*50,mark,o.pts,o.ends,parts,an,de,h⟩,s)
def axes (k:Nat) (s:S):List DAxis×S:=rep k (fun i l s=>bind (next 3 s) fun a s=>bind (next 4 s) fun b s=>(l++[⟨(⟨#[97,120]⟩:ByteArray)++letter i,0 - a*100,0,b*100⟩],s)) [] s
def tents:List DTent:=[⟨0,64,64⟩,⟨0,32,64⟩,⟨-64,-64,0⟩,⟨-1,0,5⟩,⟨10,32,50⟩]
def region (k:Nat) (s:S):DRegion×S:=bind (rep k (fun _ l s=>bind (next 5 s) fun t s=>(l++[tents.getD t.toNat ⟨0,0,0⟩],s)) [] s) fun l s=>(⟨l⟩,s)
def regions (k:Nat) (s:S):List DRegion×S:=if 0<k then bind (next 4 s) fun n s=>rep n.toNat (fun _ l s=>bind (region k s) fun x s=>(l++[x],s)) [] s else ([],s)
def funcs (k:Nat) (s:S):List (List DIns)×S:=rep k (fun i l s=>bind (hint 6 i 4 ⟨s.r,0⟩) fun h s=>(l++[h],s)) [] s
def cvt (k:Nat) (s:S):List Int×S:=rep k (fun _ l s=>bind (next 500 s) fun x s=>(l++[x - 100],s)) [] s
def runes:List Int:=[97,98,99,102,105,108,0xe001,0xe002,0xe101,0xe102,0xe103,0xe201,0xe205,0xe301,0xe302,0xe401]
def chars (n:Int) (s:S):List DChar×S:=rep 16 (fun i l s=>bind (next 4 s) fun z s=>if 0<z then bind (next n s) fun g s=>(l++[⟨runes.getD i 0,g⟩],s) else (l,s)) [] s
def names:List ByteArray:=[(⟨#[108,105,103,97]⟩:ByteArray),(⟨#[105,115,111,108]⟩:ByteArray),(⟨#[105,110,105,116]⟩:ByteArray),(⟨#[109,101,100,105]⟩:ByteArray),(⟨#[102,105,110,97]⟩:ByteArray),(⟨#[107,101,114,110]⟩:ByteArray),(⟨#[109,97,114,107]⟩:ByteArray),(⟨#[99,97,108,116]⟩:ByteArray)]
def features (n:Nat) (s:S):List DFeature×S :=
 rep 8 (fun i l s=>bind (rep n (fun k row s=>bind (next 3 s) fun z s=>(if z=0 then row++[(k:Int)] else row,s)) [] s) fun row s=>bind (next 2 s) fun z s =>
  (if z=0 then l++[⟨names.getD i ByteArray.empty,row⟩] else l,s)) [] s
def units:List Int:=[1000,1024,100,2048]
def made (l:List Int):DFont :=
 (bind (next 4 ⟨l,0⟩) fun u s=>bind (next 3 s) fun k s=>bind (axes k.toNat s) fun ax s=>bind (regions k.toNat s) fun rg s=>bind (next 3 s) fun kf s=>bind (funcs kf.toNat s) fun fn s =>
  bind (next 4 s) fun kc s=>bind (cvt kc.toNat s) fun cv s=>bind (next 9 s) fun kg s =>
  bind (rep (2+kg).toNat (fun i l s=>bind (glyph i rg.length fn.length s) fun g s=>(l++[g],s)) [] s) fun gl s =>
  bind (chars gl.length s) fun ch s=>bind (lookups gl.length s) fun lk s=>bind (features lk.length s) fun ft s =>
  (⟨units.getD u.toNat 0,gl,ch,lk,ft,ax,rg,fn,cv⟩,s)).1
end Mk
end Go.Proofs.YthheaflbbficgaaGreat
