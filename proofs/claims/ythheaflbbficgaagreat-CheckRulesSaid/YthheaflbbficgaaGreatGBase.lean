/- H0, Bytes, Mac, Frame, Mono, Data, RowK, OwnRow, DataS, Grow, MkInfo, MkPlain. -/
import Derived.Test.YthheaflbbficgaaGreatProg
import Derived.Lib.Hide
import Derived.Test.YthheaflbbficgaaGreatRows
import Derived.WalkKit
import Derived.WalkSpells
import Derived.WalkLawsBesides
import Derived.Laws.IdiomStrings
import Derived.StillTail
import Derived.ProofKit
import Derived.OpenShut
import Derived.Lib.SmallJoins
import Derived.Laws.CopyRow
import Derived.Laws.MakeOwn
import Derived.Tactics
import Derived.Laws.AppendOwn
set_option linter.all false
namespace Go.Proofs.YthheaflbbficgaaGreat
theorem dT {p:Prop} [Decidable p] (h:p):decide p=true:=decide_eq_true h
theorem dF {p:Prop} [Decidable p] (h:¬p):decide p=false:=decide_eq_false h
theorem gZ {α:Type} {a:α} {l:List α}:(a::l)[0]?=some a:=List.getElem?_cons_zero
theorem gS {α:Type} {a:α} {l:List α} {i:Nat}:(a::l)[i+1]?=l[i]?:=List.getElem?_cons_succ
theorem gA {α:Type} {l:List α} {i:Nat}:l.toArray[i]?=l[i]?:=List.getElem?_toArray
theorem qS {α:Type} {a:α} {l:List α} {i:Nat}:(a::l).drop (i+1)=l.drop i:=List.drop_succ_cons
theorem qZ {α:Type} {l:List α}:l.drop 0=l:=List.drop_zero
theorem mI {α:Type} {a b:α}:a ∈ [b]↔a=b:=List.mem_singleton
theorem mM {α:Type} {β:Type} {f:α->β} {l:List α} {a:α} (h:a ∈ l):f a ∈ l.map f:=List.mem_map_of_mem h
theorem gE {α:Type} {l:List α} {i:Nat} (h:i<l.length):l[i]?=some l[i]:=List.getElem?_eq_getElem h
theorem gI {α:Type} {l:List α} {i:Nat} {a:α}:l[i]?=some a↔∃ h:i<l.length,l[i]=a:=List.getElem?_eq_some_iff
theorem nT {n m k:Nat} (h:n<=m) (h2:m<=k):n<=k:=Nat.le_trans h h2
theorem nR (n:Nat):n<=n:=Nat.le_refl n
def Hy (p:Prop):Prop:=p
theorem Hy.o {p:Prop} (h:Hy p):p:=h
theorem Hi {p:Prop} (h:p):Hy p:=h
open Go.RowKit
def bcell (b:UInt8):Value:=.int .u8 b.toNat
def bs (l:List UInt8):ByteArray:=⟨l.toArray⟩
theorem wu (ns:List UInt8):∀ (s:ByteArray),(ns.map λb=>(b.toNat:Int)).foldl (λr n=>r.push (UInt8.ofNat n.toNat)) s=⟨s.data++ns.toArray⟩:=by
 induction ns with
 | nil=>intro s;simp
 | cons b r ih =>
  intro s;simp only [List.map_cons,List.foldl_cons,Int.toNat_natCast,UInt8.ofNat_toNat];rw [ih]
  congr 1
  show s.data.push b++r.toArray=_;apply Array.ext';simp
theorem wH {P:Program} (w:World) (src dst e:TypeId) (a:Addr) (cap:Nat) (l:List UInt8)
  (hs:P.underlying src=some (.slice e)) (he:P.underlying e=some (.int .u8)) (hd:P.underlying dst=some .string)
  (h:∀ j u,l[j]?=some u->w.cell? (a.add j)=some (bcell u)) :
  (convert src dst (.slice (some a) l.length cap)).run P w=.ok (.string (bs l)) w:=by
 rw [run_convert_bytes_string w src dst e _ _ _ hs he hd]
 have hl:=run_loadCells_list (P:=P) w a (l.map bcell) (λj v hv=>by
  rw [List.getElem?_map] at hv;cases hj:l[j]? with
  | none=>rw [hj] at hv;simp at hv
  | some u=>rw [hj] at hv;simp at hv;subst hv;exact h j u hj)
 rw [List.length_map] at hl;rw [run_bytesToString w a l.length cap (l.map λb=>(b.toNat:Int)) (by rw [hl];simp only [List.map_map];rfl)];rw [wu]
 congr 2
 show (⟨(#[]:Array UInt8)++l.toArray⟩:ByteArray)=_;simp [bs]
theorem zo {P:Prop} (h:P:=by omega):P:=h
theorem zd {P:Prop} (h:P:=by decide):P:=h
theorem zk {P:Prop} (h:P:=by simp):P:=h
theorem zt {P:Prop} (h:P:=by kernel_rfl):P:=h
theorem zqa {P:Prop} (h:P:=by (simp;omega)):P:=h
theorem zqb {P:Prop} (h:P:=by simp [Value.oneCell']):P:=h
theorem zqc {P:Prop} (h:P:=by (have:=HL.o;omega)):P:=h
theorem zqd {P:Prop} (h:P:=by (have:=HP.o.length_eq;have:=HN.o.2.2;have:=HA.o;have:=HJ.o;omega)):P:=h
theorem zqe {P:Prop} (h:P:=by (simp only [Act.put];(try simp only [List.setIfInBounds_toArray]);(try simp only [List.set_cons_succ,List.set_cons_zero]);exact rfl)):P:=h
theorem zqf {P:Prop} (h:P:=by (have:=HN.o;omega)):P:=h
theorem zqg {P:Prop} (h:P:=by (simp only;omega)):P:=h
theorem zqh {P:Prop} (h:P:=by (have:=HML.o;omega)):P:=h
theorem zqi {P:Prop} (h:P:=by (have:=HP.o.length_eq;have:=HN.o.2.2;have:=HA.o;omega)):P:=h
theorem zqj {P:Prop} (h:P:=by (simp only [Ch.waitsFor,eK,List.modify_succ_cons,List.modify_zero_cons];exact rfl)):P:=h
theorem zqk {P:Prop} (h:P:=by (rw [getD_replicate_false] at hl;cases hl)):P:=h
theorem zql {P:Prop} (h:P:=by simpa using hi):P:=h
theorem zqm {P:Prop} (h:P:=by (rintro _ _ _ _ ⟨_,_,_,_,_,_,rfl,-,-,h3,h4,h5,h6,h7,h8⟩;simp [oS,oI,oB,h3.one,h4.one,h5.one,h6.one,h7.one,h8.one])):P:=h
theorem zqn {P:Prop} (h:P:=by (intro hm;rcases List.mem_cons.1 hm with hm | hm;exact HUB.o.2 hm;exact HNO.o hm)):P:=h
theorem zqo {P:Prop} (h:P:=by (refine ⟨?_,?_,?_,?_,?_,?_,?_,?_,?_⟩ <;> (try simp only) <;> (try intro _) <;> omega)):P:=h
theorem zqp {P:Prop} (h:P:=by (have:=HS.o.st.ord;simp;omega)):P:=h
theorem zqq {P:Prop} (h:P:=by simpa using hm):P:=h
theorem zqr {P:Prop} (h:P:=by (have:=HL2.o;have:=HL.o.1;have:=HQ.o.1;have:=HK0.o;have:=HIN.o;omega)):P:=h
theorem zqs {P:Prop} (h:P:=by (rw [h] at hr;cases hr)):P:=h
theorem zqt {P:Prop} (h:P:=by (rw [Cr,show (up toks).length=toks.length by simp [up]];exact hB)):P:=h
theorem zqu {P:Prop} (h:P:=by (rw [gR];omega)):P:=h
theorem zqv {P:Prop} (h:P:=by (intro x hx hs;simp at hx;omega)):P:=h
theorem zqw {P:Prop} (h:P:=by (have:=HK.o;omega)):P:=h
theorem zqx {P:Prop} (h:P:=by (have:=HQ.o;omega)):P:=h
theorem zqy {P:Prop} (h:P:=by (unfold maxLen;omega)):P:=h
theorem zqz {P:Prop} (h:P:=by (rw [hdl];exact hf.1)):P:=h
theorem zpa {P:Prop} (h:P:=by (show W.heap.size<=ob;omega)):P:=h
theorem zpb {P:Prop} (h:P:=by (have:=hll.o;simp;omega)):P:=h
theorem zpc {P:Prop} (h:P:=by simpa using ht):P:=h
theorem zpd {P:Prop} (h:P:=by simpa using hq):P:=h
theorem zpe {P:Prop} (h:P:=by (have:=hx.o;have:=HNN.o;omega)):P:=h
theorem zpf {P:Prop} (h:P:=by (rw [World.size_alloc];exact hb9)):P:=h
theorem zpg {P:Prop} (h:P:=by simpa using hne):P:=h
theorem zph {P:Prop} (h:P:=by (have:=h.1;omega)):P:=h
structure Mod (l:List Nat) (w w':World):Prop where
 os:w'.os=w.os
 tape:w'.tape=w.tape
 output:w'.output=w.output
 size:w.heap.size<=w'.heap.size
 block:∀ k,k<w.heap.size->k ∉ l->w'.heap[k]?=w.heap[k]?
theorem Mod.refl (l:List Nat) (w:World):Mod l w w:=⟨rfl,rfl,rfl,nR _,λ_ _ _=>rfl⟩
theorem mR {F:List Nat} {w:World}:Mod F w w:=Mod.refl F w
theorem Mod.trans {l l':List Nat} {a b c:World} (h:Mod l a b) (k:Mod l' b c) (hl:∀ x∈l',x<a.heap.size->x∈l):Mod l a c :=
 ⟨k.os.trans h.os,k.tape.trans h.tape,k.output.trans h.output,nT h.size k.size,λx hx hn =>
  (k.block x (Nat.lt_of_lt_of_le hx h.size) (λhm=>hn (hl x hm hx))).trans (h.block x hx hn)⟩
theorem Mod.then {l:List Nat} {a b c:World} (h:Mod l a b) (k:Mod l b c):Mod l a c:=h.trans k (λ_ hx _=>hx)
theorem Mod.more {l l':List Nat} {a b:World} (h:Mod l a b) (hl:∀ x∈l,x<a.heap.size->x∈l'):Mod l' a b :=
 ⟨h.os,h.tape,h.output,h.size,λx hx hn=>h.block x hx (λhm=>hn (hl x hm hx))⟩
theorem Mod.drew {l:List Nat} {a w:World} (h:Mod l a w):Mod l a w.drew:=⟨h.os,h.tape,h.output,h.size,h.block⟩
theorem Mod.drewN {l:List Nat} {a w:World} (n:Nat) (h:Mod l a w):Mod l a (w.drewN n):=⟨h.os,h.tape,h.output,h.size,h.block⟩
theorem Mod.alloc {l:List Nat} {a w:World} (h:Mod l a w) (o:Obj):Mod l a (w.alloc o):=by
 refine ⟨h.os,h.tape,h.output,nT h.size (by show _<=(w.heap.push o).size;simp),λk hk hn=>?_⟩;rw [Below.heap_alloc w o k (Nat.lt_of_lt_of_le hk h.size)];exact h.block k hk hn
theorem fP (w:World) (a:Addr) (u:Value):(w.setCell a u).heap.size=w.heap.size:=by simp
theorem Mod.setCell {l:List Nat} {a w:World} (h:Mod l a w) {p:Addr} (hp:p.block<a.heap.size->p.block∈l) (u:Value):Mod l a (w.setCell p u):=by
 refine ⟨h.os,h.tape,h.output,by rw [fP];exact h.size,λk hk hn=>?_⟩;rw [Below.heap_setCell w p u k (λe=>hn (e ▸ hp (e ▸ hk)))];exact h.block k hk hn
theorem Mod.eT {l:List Nat} {a w:World} (h:Mod l a w) {p:Addr} (hp:a.heap.size<=p.block) (u:Value):Mod l a (w.setCell p u) :=
 h.setCell (λh=>absurd h (Nat.not_lt.2 hp)) u
theorem Mod.below {l:List Nat} {B:Nat} {w w':World} (h:Mod l w w') (hB:B<=w.heap.size) (hl:∀ k∈l,B<=k):Below B w w' :=
 ⟨h.os,h.tape,h.output,h.size,λk hk=>h.block k (Nat.lt_of_lt_of_le hk hB) (λhm=>absurd (hl k hm) (Nat.not_le.2 hk))⟩
theorem Mod.sF {w w':World} (h:Mod [] w w'):Below w.heap.size w w':=h.below (nR _) zk
theorem Mod.cell {l:List Nat} {w w':World} (h:Mod l w w') {p:Addr} (hp:p.block<w.heap.size) (hn:p.block ∉ l):w'.cell? p=w.cell? p :=
 World.cell?_of_block (w:=w) (h.block p.block hp hn)
def Blk (w:World) (b:Nat) (cs:Array Value) (t:TypeId):Prop:=w.heap[b]?=some (.cells cs t (0,0))
theorem Blk.lt {w:World} {b:Nat} {cs:Array Value} {t:TypeId} (h:Blk w b cs t):b<w.heap.size:=by
 rcases Nat.lt_or_ge b w.heap.size with h' | h'
 ·exact h'
 ·unfold Blk at h;rw [Array.getElem?_eq_none h'] at h;simp at h
theorem Blk.new (w:World) (cs:Array Value) (t:TypeId):Blk (w.alloc (.cells cs t)) w.heap.size cs t:=by
 show (w.heap.push _)[w.heap.size]?=_;simp
theorem Blk.alloc {w:World} {b:Nat} {cs:Array Value} {t:TypeId} (h:Blk w b cs t) (o:Obj):Blk (w.alloc o) b cs t :=
 (Below.heap_alloc w o b h.lt).trans h
theorem Blk.kept {w w':World} {b:Nat} {cs:Array Value} {t:TypeId} {l:List Nat} (h:Blk w b cs t) (m:Mod l w w') (hn:b ∉ l):Blk w' b cs t :=
 (m.block b h.lt hn).trans h
theorem Blk.cell {w:World} {b:Nat} {cs:Array Value} {t:TypeId} (h:Blk w b cs t) (i:Nat):w.cell? ⟨b,i,none⟩=cs[i]?:=by
 unfold Blk at h;simp [World.cell?,h]
theorem Blk.frozen {w:World} {b:Nat} {cs:Array Value} {t:TypeId} (h:Blk w b cs t) (i:Nat):w.frozen? ⟨b,i,none⟩=false:=by
 unfold Blk at h;simp [World.frozen?,h]
theorem Blk.set {w:World} {b:Nat} {cs:Array Value} {t:TypeId} (h:Blk w b cs t) (i:Nat) (v:Value):Blk (w.setCell ⟨b,i,none⟩ v) b (cs.setIfInBounds i v) t:=by
 unfold Blk at h ⊢;simp only [World.setCell];rw [Array.getElem?_modify];simp [h]
theorem Blk.three {w:World} {b:Nat} {x y z:Value} {t:TypeId} (h:Blk w b #[x,y,z] t) :
  w.cell? ⟨b,0,none⟩=some x/\w.cell? ⟨b,1,none⟩=some y/\w.cell? ⟨b,2,none⟩=some z/\w.frozen? ⟨b,0,none⟩=false/\w.frozen? ⟨b,1,none⟩=false/\w.frozen? ⟨b,2,none⟩=false :=
 ⟨h.cell 0,h.cell 1,h.cell 2,h.frozen 0,h.frozen 1,h.frozen 2⟩
theorem Blk.other {w:World} {b:Nat} {cs:Array Value} {t:TypeId} (h:Blk w b cs t) {a:Addr} (ha:a.block≠b) (v:Value):Blk (w.setCell a v) b cs t :=
 (Below.heap_setCell w a v b (λe=>ha e.symm)).trans h
section
variable {P:Program} {ops:Array Oper} {md:Region.Mode} {W:World} {L:Nat->Option (Value->World->Prop)}
def Late (P:Program) (o:Oper) (a:Act) (W:World) (T:Value->World->Prop):Prop :=
 ∀ w,Mod [] W w->o.wp P a w (λa' w'=>∃ v,a'=a.put o.dst v/\Mod [] w w'/\T v w') (λ_ _ _=>False)
def gJ (P:Program) (o:Oper) (a:Act) (W:World) (v:Value):Prop:=Late P o a W (λu _=>u=v)
def aG (T:World->Prop):Prop:=∀ w w',T w->Mod [] w w'->T w'
def mOp (P:Program) (ops:Array Oper) (W:World) (L:Nat->Option (Value->World->Prop)) (i:Nat) (K:Act->(World->Prop)->Prop) (a:Act) (F:World->Prop):Prop :=
 match ops[i]?,L i with
 | some o,none=>if Region.wanted o (yielded ops a.tmps) then ∃ v,gJ P o a W v/\K (a.put o.dst v) F else K (a.put o.dst undef) F
 | some o,some T=>o.guard=none/\Late P o a W T/\∀ v,K (a.put o.dst v) (λw=>F w/\T v w)
 | none,_=>False
def dw (P:Program) (md:Region.Mode) (ops:Array Oper) (W:World) (L:Nat->Option (Value->World->Prop)) (n:Nat) (Fin:Array Bool->Act->(World->Prop)->Prop):Nat->Array Bool->Act->(World->Prop)->Prop
 | 0,listed,a,F=>Fin listed a F
 | f+1,listed,a,F=>Region.ready md ops listed≠[]/\∀ i∈Region.ready md ops listed,i<n/\mOp P ops W L i (dw P md ops W L n Fin f (listed.setIfInBounds i true)) a F
theorem jw {o:Oper} {a:Act} {T:Value->World->Prop} {K:Act->World->Prop} {Q:Exit->Act->World->Prop} {w:World} (hw:Mod [] W w) (h:Late P o a W T)
  (hK:∀ v w',Mod [] w w'->T v w'->K (a.put o.dst v) w'):o.wp P a w K Q:=by
 have h3:=h w hw;unfold Oper.wp at *
 generalize (execOp a.eval o).run P w=r at *
 cases r with
 | ok n w' =>
  cases n <;> simp only [Oper.upon] at h3 ⊢
  case value u=>obtain ⟨v,e,m,t⟩:=h3;rw [e];exact hK _ _ m t
  case skip=>obtain ⟨v,e,m,t⟩:=h3;rw [e];exact hK _ _ m t
  case defer d=>obtain ⟨v,e,m,t⟩:=h3;rw [e];exact hK _ _ m t
  case enter f args =>
   refine Calls.mono h3 λe w'' he=>?_
   cases e with
   | returned u =>
    obtain ⟨v,e,m,t⟩:=he;show K (a.put o.dst u) w'';rw [e];exact hK _ _ m t
   | panicked c=>exact he.elim
   | outgrown=>obtain ⟨_,_,h⟩:=he;exact h.elim
  case row row args=>exact Rows.mono h3 λu w'' he=>by obtain ⟨v,e,m,t⟩:=he;rw [e];exact hK _ _ m t
 | halt x w'=>cases x <;> simp only [Oper.upon] at h3
theorem gQ {o:Oper} {a:Act} {v:Value} {K:Act->World->Prop} {Q:Exit->Act->World->Prop} {w:World} (hw:Mod [] W w) (h:gJ P o a W v)
  (hK:∀ w',Mod [] w w'->K (a.put o.dst v) w'):o.wp P a w K Q :=
 jw hw h λu w' m hu=>by rw [hu];exact hK w' m
theorem gF {i:Nat} {a:Act} {F:World->Prop} {K:Act->(World->Prop)->Prop} {K':Act->World->Prop} {Q:Exit->Act->World->Prop} {w:World}
  (hT:∀ i T,L i=some T->∀ v,aG (T v)) (hs:aG F) (hw:Mod [] W w) (hF:F w) (h:∀ a F w',Mod [] W w'->aG F->F w'->K a F->K' a w') (hh:mOp P ops W L i K a F):wpOp P ops Q i K' a w:=by
 unfold mOp at hh;unfold wpOp
 split at hh
 ·rename_i o ho hl;simp only [ho]
  split
  ·rename_i hwn;simp only [hwn,if_true] at hh;obtain ⟨v,h1,h2⟩:=hh;exact .inl (gQ hw h1 λw' m=>h _ _ _ (hw.then m) hs (hs _ _ hF m) h2)
  ·rename_i hwn;simp only [hwn] at hh;exact h _ _ _ hw hs hF hh
 ·rename_i o T ho hl;obtain ⟨hg,h1,h2⟩:=hh;simp only [ho,Region.wanted,hg,if_true];exact .inl (jw hw h1 λv w' m t=>h _ _ _ (hw.then m) (λx y hx hm=>⟨hs _ _ hx.1 hm,hT i T hl v _ _ hx.2 hm⟩) ⟨hs _ _ hF m,t⟩ (h2 v))
 ·exact hh.elim
theorem dJ {n g:Nat} {Fin:Array Bool->Act->(World->Prop)->Prop} {Q:Exit->Act->World->Prop} (hT:∀ i T,L i=some T->∀ v,aG (T v))
  (hFin:∀ listed a F w,Mod [] W w->F w->Fin listed a F->wpAny P md ops Q g listed a w) :
  ∀ (f:Nat) (listed:Array Bool) (a:Act) (F:World->Prop) (w:World),aG F->Mod [] W w->F w->dw P md ops W L n Fin f listed a F->wpAny P md ops Q (f+g) listed a w
 | 0,listed,a,F,w,_,hw,hF,h=>by rw [Nat.zero_add];exact hFin _ _ _ _ hw hF h
 | f+1,listed,a,F,w,hs,hw,hF,h=>by
  rw [show f+1+g=(f+g)+1 by omega];exact ⟨λh0=>absurd h0 h.1,λi hi=>gF hT hs hw hF (λa' F' w' hw' hs' hF' h'=>dJ hT hFin f _ a' F' w' hs' hw' hF' h') (h.2 i hi).2⟩
def bR (P:Program) (ops:Array Oper) (W:World) (o:Oper) (v:Value) (a:Act):Prop :=
 (Region.wanted o (yielded ops a.tmps)=true/\gJ P o a W v)∨(Region.wanted o (yielded ops a.tmps)=false/\v=undef)
theorem bR.mOp {i:Nat} {o:Oper} {v:Value} {a:Act} {F:World->Prop} (hi:ops[i]?=some o) (hl:L i=none) (hy:bR P ops W o v a) {K:Act->(World->Prop)->Prop} (h:K (a.put o.dst v) F):mOp P ops W L i K a F:=by
 unfold Proofs.YthheaflbbficgaaGreat.mOp;simp only [hi,hl];rcases hy with ⟨hw,hv⟩ | ⟨hw,rfl⟩
 ·simp only [hw,if_true];exact ⟨v,hv,h⟩
 ·simp only [hw,Bool.false_eq_true,if_false];exact h
theorem jb {o:Oper} (hs:∀ cs b,o.op≠.select cs b) {a:Act} {d:Option Tmp} {v:Value} {T:Value->World->Prop} (h1:∀ t,d=some t->t ∉ o.looksAt ops) (h2:∀ t,d=some t->o.dst≠some t)
  (h:Late P o (a.put d v) W T):Late P o a W T:=by
 intro w hw;have h3:=h w hw;unfold Oper.wp at *
 rw [execOp_put o hs a d v h1] at h3;have key:∀ (x:Value) w',(∃ u,(a.put d v).put o.dst x=(a.put d v).put o.dst u/\Mod [] w w'/\T u w')->∃ u,a.put o.dst x=a.put o.dst u/\Mod [] w w'/\T u w':=by
  rintro x w' ⟨u,e,m,t⟩;refine ⟨u,?_,m,t⟩;rw [Act.put_comm a v x h2,Act.put_comm a v u h2] at e;cases d with
  | none=>exact e
  | some t =>
   cases ho:o.dst with
   | none=>rfl
   | some s =>
    rw [ho] at e;have hne:s≠t:=λhst=>h2 t rfl (by rw [ho,hst])
    have e2:=congrArg Act.tmps e;simp only [Act.put] at e2 ⊢;have e3:a.tmps.setIfInBounds s x=a.tmps.setIfInBounds s u:=by
     apply Array.ext_getElem?;intro k;have:=congrArg (λz=>z[k]?) e2
     by_cases hk:t=k
     ·subst hk;rw [Array.getElem?_setIfInBounds_ne hne,Array.getElem?_setIfInBounds_ne hne]
     ·rwa [Array.getElem?_setIfInBounds_ne hk,Array.getElem?_setIfInBounds_ne hk] at this
    rw [e3]
 generalize (execOp a.eval o).run P w=r at *
 cases r with
 | ok n w' =>
  cases n <;> simp only [Oper.upon] at h3 ⊢
  case value u=>exact key _ _ h3
  case skip=>exact key _ _ h3
  case defer x =>
   obtain ⟨u,e,m,t⟩:=h3;have e2:=congrArg Act.defers e;exfalso;have hl:∀ (b:Act) (d:Option Tmp) (v:Value),(b.put d v).defers=b.defers:=λb d v=>by cases d <;> rfl
   have e3:x::a.defers=a.defers:=by simpa only [hl] using e2
   have:=congrArg List.length e3;simp at this
  case enter f args =>
   refine Calls.mono h3 λe w'' he=>?_
   cases e with
   | returned u=>exact key _ _ he
   | panicked c=>exact he.elim
   | outgrown=>obtain ⟨_,_,h⟩:=he;exact h.elim
  case row row args=>exact Rows.mono h3 λu w'' he=>key _ _ he
 | halt x w'=>cases x <;> simp only [Oper.upon] at h3
theorem late_put' {o:Oper} (hs:∀ cs b,o.op≠.select cs b) {a:Act} {d:Option Tmp} {v:Value} {T:Value->World->Prop} (h1:∀ t,d=some t->t ∉ o.looksAt ops) (h2:∀ t,d=some t->o.dst≠some t)
  (h:Late P o a W T):Late P o (a.put d v) W T:=by
 intro w hw;have h3:=h w hw;unfold Oper.wp at *
 rw [execOp_put o hs a d v h1];have key:∀ (x:Value) w',(∃ u,a.put o.dst x=a.put o.dst u/\Mod [] w w'/\T u w')->∃ u,(a.put d v).put o.dst x=(a.put d v).put o.dst u/\Mod [] w w'/\T u w':=by
  rintro x w' ⟨u,e,m,t⟩;exact ⟨u,by rw [Act.put_comm a v x h2,Act.put_comm a v u h2,e],m,t⟩
 generalize (execOp a.eval o).run P w=r at *
 cases r with
 | ok n w' =>
  cases n <;> simp only [Oper.upon] at h3 ⊢
  case value u=>exact key _ _ h3
  case skip=>exact key _ _ h3
  case defer x =>
   obtain ⟨u,e,m,t⟩:=h3;have e2:=congrArg Act.defers e;exfalso;have hl:∀ (b:Act) (d:Option Tmp) (v:Value),(b.put d v).defers=b.defers:=λb d v=>by cases d <;> rfl
   have e3:x::a.defers=a.defers:=by simpa only [hl] using e2
   have:=congrArg List.length e3;simp at this
  case enter f args =>
   refine Calls.mono h3 λe w'' he=>?_
   cases e with
   | returned u=>exact key _ _ he
   | panicked c=>exact he.elim
   | outgrown=>obtain ⟨_,_,h⟩:=he;exact h.elim
  case row row args=>exact Rows.mono h3 λu w'' he=>key _ _ he
 | halt x w'=>cases x <;> simp only [Oper.upon] at h3
theorem lj {j:Nat} {oi oj:Oper} {v:Value} (hj:ops[j]?=some oj) (hap:oi.apart ops oj=true)
  (hsi:∀ cs b,oi.op≠.select cs b) (hsj:∀ cs b,oj.op≠.select cs b) {K:Act->(World->Prop)->Prop} {a:Act} {F:World->Prop}
  (hy:bR P ops W oi v a) (h:mOp P ops W L j K (a.put oi.dst v) F) :
  mOp P ops W L j (λa' F'=>bR P ops W oi v a'/\K (a'.put oi.dst v) F') a F:=by
 obtain ⟨h1,h2,h3⟩:=Oper.apart_spec hap;have h2':∀ d,oj.dst=some d->oi.dst≠some d:=λd hd hi'=>h2 d hi' hd
 have keep:∀ (a:Act),bR P ops W oi v a->∀ u,bR P ops W oi v (a.put oj.dst u):=λa hy u=>by
  unfold bR at *
  rw [wanted_put oi a oj.dst u h3];exact hy.imp (λhh=>⟨hh.1,late_put' hsi h3 h2' hh.2⟩) id
 unfold mOp at *
 cases hl:L j with
 | none =>
  simp only [hj,hl] at h ⊢;rw [wanted_put oj a oi.dst v h1] at h
  split
  ·rename_i hw;simp only [hw,if_true] at h;obtain ⟨u,hu,hn⟩:=h;exact ⟨u,jb hsj h1 h2 hu,keep a hy u,by rw [<- Act.put_comm a v u h2];exact hn⟩
  ·rename_i hw;simp only [hw] at h;exact ⟨keep a hy _,by rw [<- Act.put_comm a v undef h2];exact h⟩
 | some T =>
  simp only [hj,hl] at h ⊢;exact ⟨h.1,jb hsj h1 h2 h.2.1,λu=>⟨keep a hy u,by rw [<- Act.put_comm a v u h2];exact h.2.2 u⟩⟩
def Region.fH (md:Region.Mode) (ops:Array Oper) (n:Nat):Bool:=decide (n=ops.size) || (decide (n<ops.size) && Region.sinkB md ops n && Region.chainB md ops n)
theorem fM {n i:Nat} {listed:Array Bool} (ht:Region.fH md ops n=true) (inv:HeadInv md ops n listed) (hi:i<n) (hun:listed.getD i true=false) {j:Nat} (hj:j∈Region.ready md ops listed):j<n:=by
 simp only [Region.fH,Bool.or_eq_true,Bool.and_eq_true,decide_eq_true_eq] at ht;rcases ht with ht | ⟨⟨hn,hs⟩,hc⟩
 ·obtain ⟨_,oj,hoj,_⟩:=mem_ready.1 hj;rw [ht];exact (Array.getElem?_eq_some_iff.1 hoj).1
 ·rcases Nat.lt_or_ge j n with h | h
  ·exact h
  ·exact absurd hj (tail_waits hs hc hn inv _ i rfl hi hun j h)
theorem ja {j:Nat} {a:Act} {F:World->Prop} {K K':Act->(World->Prop)->Prop} (h:∀ a F,K a F->K' a F) (hh:mOp P ops W L j K a F):mOp P ops W L j K' a F:=by
 unfold mOp at *
 split
 ·rename_i o ho hl;simp only [ho,hl] at hh
  split
  ·rename_i hw;simp only [hw,if_true] at hh;obtain ⟨v,h1,h2⟩:=hh;exact ⟨v,h1,h _ _ h2⟩
  ·rename_i hw;simp only [hw] at hh;exact h _ _ hh
 ·rename_i o T ho hl;simp only [ho,hl] at hh;exact ⟨hh.1,hh.2.1,λv=>h _ _ (hh.2.2 v)⟩
 ·rename_i ho;simp only [ho] at hh
theorem fO {n i:Nat} {oi:Oper} {v:Value} {Fin:Array Bool->Act->(World->Prop)->Prop} (hi:ops[i]?=some oi) (hl:L i=none) (hsel:∀ (j:Nat) (o:Oper) cs b,ops[j]?=some o->o.op≠.select cs b)
  (ht:Region.fH md ops n=true) (hin:i<n) (hdone:∀ listed a F,Fin listed a F->∀ j∈Region.ready md ops listed,n<=j) :
  ∀ (f:Nat) (listed:Array Bool) (a:Act) (F:World->Prop),HeadInv md ops n listed ->
   (∀ j oj,ops[j]?=some oj->j≠i->listed.getD j true=false->(∀ e∈oj.after,Region.binds md e=true->e.on≠i)->oi.apart ops oj=true) ->
   i∈Region.ready md ops listed->bR P ops W oi v a ->
   dw P md ops W L n Fin f (listed.setIfInBounds i true) (a.put oi.dst v) F->dw P md ops W L n Fin (f+1) listed a F:=by
 intro f
 induction f with
 | zero =>
  intro listed a F inv _ hr hy H;have hun:=(mem_ready.1 hr).1;refine ⟨λh=>zqs,λj hj=>?_⟩;have hjn:=fM ht inv hin hun hj;refine ⟨hjn,?_⟩
  by_cases hji:j=i
  ·subst hji;exact hy.mOp hi hl H
  ·have:=hdone _ _ _ H j (ready_mono hj hji);omega
 | succ f ih =>
  intro listed a F inv hfree hr hy H;have hun:=(mem_ready.1 hr).1;refine ⟨λh=>zqs,λj hj=>?_⟩;have hjn:=fM ht inv hin hun hj;refine ⟨hjn,?_⟩
  by_cases hji:j=i
  ·subst hji;exact hy.mOp hi hl H
  ·have h1:=(H.2 j (ready_mono hj hji)).2;obtain ⟨hjun,oj,hoj,hall⟩:=mem_ready.1 hj;have hnot:∀ e∈oj.after,Region.binds md e=true->e.on≠i:=λe he hb heq=>by
    have h1:=hall e he hb;rw [heq,getD_both hun] at h1;cases h1
   have h2:=lj hoj (hfree j oj hoj hji hjun hnot) (λcs b=>hsel i oi cs b hi) (λcs b=>hsel j oj cs b hoj) hy h1;have hfree':∀ k ok,ops[k]?=some ok->k≠i->(listed.setIfInBounds j true).getD k true=false ->
     (∀ e∈ok.after,Region.binds md e=true->e.on≠i)->oi.apart ops ok=true:=λk ok hk hki hun hno=>by
    refine hfree k ok hk hki ?_ hno
    by_cases hjk:j=k
    ·subst hjk;exact hjun
    ·rw [getD_set_ne true hjk] at hun;exact hun
   refine ja (λa' F' h3=>ih (listed.setIfInBounds j true) a' F' (inv.set hj hjn) hfree' (ready_mono hr (Ne.symm hji)) h3.1 ?_) h2;rw [Array.setIfInBounds_comm _ _ hji];exact h3.2
def dS (P:Program) (ops:Array Oper) (W:World) (K:Act->Prop):List Nat->Act->Prop
 | [],a=>K a
 | i::l,a=>match ops[i]? with
  | none=>False
  | some o=>if Region.wanted o (yielded ops a.tmps) then ∃ v,gJ P o a W v/\dS P ops W K l (a.put o.dst v) else dS P ops W K l (a.put o.dst undef)
def dP (P:Program) (ops:Array Oper) (W:World) (E:Act->(World->Prop)->Prop):List (Nat×(Value->World->Prop))->Act->(World->Prop)->Prop
 | [],a,F=>E a F
 | p::l,a,F=>match ops[p.1]? with
  | none=>False
  | some o=>o.guard=none/\Late P o a W p.2/\∀ v,dP P ops W E l (a.put o.dst v) (λw=>F w/\p.2 v w)
theorem lD {E:Act->(World->Prop)->Prop} (hE:∀ a F F',(∀ w,F' w->F w)->E a F->E a F'):∀ (l:List (Nat×(Value->World->Prop))) (a:Act) (F F':World->Prop),(∀ w,F' w->F w)->dP P ops W E l a F->dP P ops W E l a F'
 | [],_,_,_,hF,h=>hE _ _ _ hF h
 | p::l,a,F,F',hF,h=>by
  unfold dP at *
  split
  ·rename_i ho;simp only [ho] at h
  ·rename_i o ho;simp only [ho] at h;exact ⟨h.1,h.2.1,λv=>lD hE l _ _ _ (λw hw=>⟨hF w hw.1,hw.2⟩) (h.2.2 v)⟩
def dE (ops:Array Oper):List Nat->Bool
 | []=>true
 | i::l=>!l.contains i && l.all (λj=>match ops[i]?,ops[j]? with | some x,some y=>x.apart ops y | _,_=>false) && dE ops l
theorem iB {i:Nat} {l:List Nat} (h:dE ops (i::l)=true):i ∉ l/\(∀ j∈l,∃ x y,ops[i]?=some x/\ops[j]?=some y/\x.apart ops y=true)/\dE ops l=true:=by
 simp only [dE,Bool.and_eq_true,List.all_eq_true] at h;refine ⟨by simpa using h.1.1,λj hj=>?_,h.2⟩;have:=h.1.2 j hj
 split at this
 ·rename_i x y hx hy;exact ⟨x,y,hx,hy,this⟩
 ·cases this
theorem lC {E:Act->(World->Prop)->Prop} (hE:∀ a F F',(∀ w,F' w->F w)->E a F->E a F') (hsel:∀ (j:Nat) (o:Oper) cs b,ops[j]?=some o->o.op≠.select cs b) {i:Nat} {T:Value->World->Prop} :
  ∀ (l:List (Nat×(Value->World->Prop))) (a:Act) (F:World->Prop),dE ops (l.map (·.1))=true->(i,T)∈l->dP P ops W E l a F ->
   ∃ o,ops[i]?=some o/\o.guard=none/\Late P o a W T/\∀ v,dP P ops W E (l.filter λp=>p.1 != i) (a.put o.dst v) (λw=>F w/\T v w)
 | p::l,a,F,hap,hm,h=>by
  obtain ⟨hni,hall,hap'⟩:=iB (by simpa using hap);unfold dP at h;cases ho:ops[p.1]? with
  | none=>simp only [ho] at h
  | some o =>
   simp only [ho] at h;obtain ⟨hg,hla,hK⟩:=h;rcases List.mem_cons.1 hm with he | hm'
   ·subst he;refine ⟨o,ho,hg,hla,λv=>?_⟩;have hf:(((i,T)::l).filter λp=>p.1 != i)=l:=by
     rw [List.filter_cons_of_neg zk,List.filter_eq_self.2 (λq hq=>?_)];simp only [bne_iff_ne,ne_eq];intro heq;exact hni (by simpa [<- heq] using mM (f:=(·.1)) hq)
    rw [hf];exact hK v
   ·have hi:i∈l.map (·.1):=mM (f:=(·.1)) hm';have hne:p.1≠i:=λe=>hni (e ▸ hi)
    obtain ⟨x,y,hx,hy,hxy⟩:=hall i hi;rw [ho] at hx;cases hx;obtain ⟨h1,h2,h3⟩:=Oper.apart_spec hxy;have h2':∀ d,y.dst=some d->o.dst≠some d:=λd hd ho'=>h2 d ho' hd
    have ih:=λu=>lC hE hsel l (a.put o.dst u) _ hap' hm' (hK u)
    obtain ⟨o',ho',hg',hl',_⟩:=ih undef;rw [hy] at ho';cases ho';refine ⟨y,hy,hg',jb (hsel i y · · hy) h1 h2 hl',λv=>?_⟩;rw [List.filter_cons_of_pos zpg];unfold dP;simp only [ho];refine ⟨hg,late_put' (hsel p.1 o · · ho) h3 h2' hla,λu=>?_⟩;obtain ⟨o',ho',_,_,hk⟩:=ih u;rw [hy] at ho';cases ho';rw [Act.put_comm a v u h2'];exact lD hE _ _ _ _ (λw hw=>⟨⟨hw.1.1,hw.2⟩,hw.1.2⟩) (hk v)
def Region.canon (ops:Array Oper) (n:Nat):Array Bool:=((List.range ops.size).map λi=>decide (i<n)).toArray
def Region.mE (md:Region.Mode) (ops:Array Oper):Bool:=(List.range ops.size).all λi=>match ops[i]? with | some o=>o.after.all λe=>!Region.binds md e || decide (e.on<i) | none=>true
theorem kM (hd:Region.mE md ops=true) {listed:Array Bool}:∀ (i:Nat),i<ops.size->listed.getD i true=false->Region.ready md ops listed≠[]:=by
 intro i
 induction i using Nat.strongRecOn with
 | _ i ih =>
  intro hi hun
  by_cases hex:∃ j,j<i/\listed.getD j true=false
  ·obtain ⟨j,hj,hjun⟩:=hex;exact ih j hj zo hjun
  ·have hr:i∈Region.ready md ops listed:=by
    refine mem_ready.2 ⟨hun,ops[i],by simp [hi],λe he hb=>?_⟩;have h1:=List.all_eq_true.1 hd i (List.mem_range.2 hi);simp only [hi,getElem?_pos] at h1;have h2:=Array.all_eq_true_iff_forall_mem.1 h1 e he;simp only [hb,Bool.not_true,Bool.false_or,decide_eq_true_eq] at h2;cases hl:listed.getD e.on false with
    | true=>rfl
    | false =>
     have hsz:e.on<listed.size:=by
      rcases Nat.lt_or_ge i listed.size with h | h
      ·omega
      ·simp [Array.getElem?_eq_none h] at hun
     exact absurd ⟨e.on,h2,getD_in hsz hl⟩ hex
   intro h;rw [h] at hr;cases hr
theorem fo:∀ {l:List Nat},dE ops l=true->l.Nodup
 | [],_=>List.nodup_nil
 | _::_,h=>let ⟨h1,_,h2⟩:=iB h;List.nodup_cons.2 ⟨h1,fo h2⟩
theorem jl {i:Nat}:∀ (l:List (Nat×(Value->World->Prop))),dE ops (l.map (·.1))=true->dE ops ((l.filter λp=>p.1 != i).map (·.1))=true
 | [],_=>rfl
 | p::l,h=>by
  obtain ⟨h1,h2,h3⟩:=iB (by simpa using h);have ih:=jl (i:=i) l h3
  by_cases hp:p.1=i
  ·rw [List.filter_cons_of_neg (by simpa using hp)];exact ih
  ·rw [List.filter_cons_of_pos (by simpa using hp)];simp only [List.map_cons,dE,Bool.and_eq_true,List.all_eq_true];have hsub:∀ j,j∈(l.filter λp=>p.1 != i).map (·.1)->j∈l.map (·.1):=λj hj=>by
    obtain ⟨q,hq,rfl⟩:=List.mem_map.1 hj;exact mM (List.mem_filter.1 hq).1
   refine ⟨⟨?_,λj hj=>?_⟩,ih⟩
   ·simp only [Bool.not_eq_true'];cases hc:((l.filter λp=>p.1 != i).map (·.1)).contains p.1 with
    | false=>rfl
    | true=>exact absurd (hsub _ (by simpa using hc)) h1
   ·obtain ⟨x,y,hx,hy,hxy⟩:=h2 j (hsub j hj);simp only [hx,hy];exact hxy
theorem jk:∀ (l:List (Nat×(Value->World->Prop))) (i:Nat),(l.map (·.1)).Nodup->i∈l.map (·.1)->(l.filter λp=>p.1 != i).length+1=l.length
 | p::l,i,hn,hm=>by
  simp only [List.map_cons,List.nodup_cons] at hn
  by_cases hp:p.1=i
  ·rw [List.filter_cons_of_neg (by simpa using hp),List.filter_eq_self.2 (λq hq=>?_)]
   ·simp
   ·simp only [bne_iff_ne,ne_eq];intro heq;exact hn.1 (by rw [hp,<- heq];exact mM hq)
  ·rw [List.filter_cons_of_pos (by simpa using hp)];have hm':i∈l.map (·.1):=by
    rcases List.mem_cons.1 hm with h | h
    ·exact absurd h.symm hp
    ·exact h
   simp [jk l i hn.2 hm']
theorem iL:∀ (l:List (Nat×(Value->World->Prop))) (p:Nat×(Value->World->Prop)),p∈l->(l.map (·.1)).Nodup->(l.find? λq=>q.1 == p.1).map (·.2)=some p.2
 | q::l,p,hm,hn=>by
  simp only [List.map_cons,List.nodup_cons] at hn
  by_cases hq:q.1=p.1
  ·rw [List.find?_cons_of_pos zpd];rcases List.mem_cons.1 hm with h | h
   ·rw [h];rfl
   ·exact absurd (by rw [hq];exact mM h) hn.1
  ·rw [List.find?_cons_of_neg zpd];rcases List.mem_cons.1 hm with h | h
   ·exact absurd (by rw [h]) hq
   ·exact iL l p h hn.2
theorem lG {n g:Nat} {E:Act->(World->Prop)->Prop} (hE:∀ a F F',(∀ w,F' w->F w)->E a F->E a F') (hsel:∀ (j:Nat) (o:Oper) cs b,ops[j]?=some o->o.op≠.select cs b)
  (ht:Region.fH md ops n=true) (hd:Region.mE md ops=true) (hn:n<=ops.size) (hseq:Region.seqB md ops g n (Region.canon ops n)=true) :
  ∀ (m:Nat) (l:List (Nat×(Value->World->Prop))) (listed:Array Bool) (a:Act) (F:World->Prop),l.length=m->HeadInv md ops n listed->dE ops (l.map (·.1))=true ->
   (∀ p∈l,L p.1=some p.2)->(∀ i,i<n->(listed.getD i true=false↔i∈l.map (·.1)))->(∀ p∈l,p.1<n)->dP P ops W E l a F ->
   dw P md ops W L n (λlisted' a' F'=>Region.seqB md ops g n listed'=true/\E a' F') m listed a F:=by
 intro m
 induction m with
 | zero =>
  intro l listed a F hlen inv _ _ hun _ h;obtain rfl:=List.length_eq_zero_iff.1 hlen;refine ⟨?_,h⟩;have:listed=Region.canon ops n:=by
   refine Array.ext (by simp [Region.canon,inv.size]) λi hi hi'=>?_
   simp only [Region.canon,List.getElem_toArray,List.getElem_map,List.getElem_range]
   by_cases hin:i<n
   ·have:=(hun i hin).1;simp [hi] at this;simp [this,hin]
   ·have h2:=inv.tail i zo (by rw [<- inv.size];exact hi);simp [hi] at h2;simp [h2,hin]
  rw [this];exact hseq
 | succ m ih =>
  intro l listed a F hlen inv hap hL hun hlt h;cases l with
  | nil=>simp at hlen
  | cons p0 l0 =>
   have hp0n:p0.1<n:=hlt p0 zk;have hp0:listed.getD p0.1 true=false:=(hun p0.1 hp0n).2 zk;refine ⟨kM hd p0.1 zo hp0,λj hj=>?_⟩;have hjn:=fM ht inv hp0n hp0 hj;have hjl:=(hun j hjn).1 (mem_ready.1 hj).1;obtain ⟨⟨j',T⟩,hp,hpj⟩:=List.mem_map.1 hjl;simp only at hpj;subst hpj;obtain ⟨o,ho,hg,hla,hk⟩:=lC hE hsel _ _ _ hap hp h;refine ⟨hjn,?_⟩;unfold mOp;have hLj:L j'=some T:=hL _ hp;simp only [ho,hLj];refine ⟨hg,hla,λv=>ih _ _ _ _ ?_ (inv.set hj hjn) ?_ ?_ ?_ ?_ (hk v)⟩
   ·have:=jk (p0::l0) j' (fo hap) hjl;omega
   ·exact jl _ hap
   ·exact λp hp=>hL p (List.mem_filter.1 hp).1
   ·intro i hin
    by_cases hij:j'=i
    ·subst hij;have hsz:j'<listed.size:=by rw [inv.size];omega
     simp [hsz]
    ·rw [getD_set_ne true hij,hun i hin];simp only [List.mem_map,List.mem_filter,bne_iff_ne,ne_eq];constructor
     ·rintro ⟨q,hq,rfl⟩;exact ⟨q,⟨hq,λh=>hij h.symm⟩,rfl⟩
     ·rintro ⟨q,⟨hq,_⟩,rfl⟩;exact ⟨q,hq,rfl⟩
   ·exact λp hp=>hlt p (List.mem_filter.1 hp).1
def Region.pP (md:Region.Mode) (ops:Array Oper) (n:Nat) (late:List Nat):List Nat->Array Bool->Bool
 | [],listed=>(List.range n).all λi=>(listed.getD i true == false) == late.contains i
 | i::l,listed=>decide (i<n) && !late.contains i && (Region.ready md ops listed).contains i && Region.free md ops listed i && Region.pP md ops n late l (listed.setIfInBounds i true)
theorem gd {n m:Nat} {late:List Nat} {Fin:Array Bool->Act->(World->Prop)->Prop} {F:World->Prop} {K:Act->Prop} (hsel:Region.noSelect ops=true)
  (ht:Region.fH md ops n=true) (hdone:∀ listed a F,Fin listed a F->∀ j∈Region.ready md ops listed,n<=j) (hL:∀ i,late.contains i=false->L i=none)
  (hK:∀ a listed,HeadInv md ops n listed->Region.pP md ops n late [] listed=true->K a->dw P md ops W L n Fin m listed a F) :
  ∀ (l:List Nat) (listed:Array Bool) (a:Act),HeadInv md ops n listed->Region.pP md ops n late l listed=true->dS P ops W K l a ->
   dw P md ops W L n Fin (l.length+m) listed a F
 | [],listed,a,inv,hB,h=>by rw [List.length_nil,Nat.zero_add];exact hK _ _ inv hB h
 | i::l,listed,a,inv,hB,h=>by
  simp only [Region.pP,Bool.and_eq_true,decide_eq_true_eq,Bool.not_eq_true'] at hB;obtain ⟨⟨⟨⟨hin,hnl⟩,hr⟩,hf⟩,hB'⟩:=hB;have hr':i∈Region.ready md ops listed:=by simpa using hr
  unfold dS at h;cases ho:ops[i]? with
  | none=>simp only [ho] at h
  | some o =>
   simp only [ho] at h;obtain ⟨v,hy,hk⟩:∃ v,bR P ops W o v a/\dS P ops W K l (a.put o.dst v):=by
    by_cases hw:Region.wanted o (yielded ops a.tmps)=true
    ·simp only [hw,if_true] at h;obtain ⟨v,h1,h2⟩:=h;exact ⟨v,.inl ⟨hw,h1⟩,h2⟩
    ·simp only [hw] at h;exact ⟨undef,.inr ⟨by simpa using hw,rfl⟩,h⟩
   rw [List.length_cons,show l.length+1+m=(l.length+m)+1 by omega];exact fO ho (hL i hnl) (Region.noSelect_spec hsel) ht hin hdone (l.length+m) listed a F inv (Region.free_spec ho hf) hr' hy
    (gd hsel ht hdone hL hK l _ _ (inv.set hr' hin) hB' hk)
def Region.qa (md:Region.Mode) (ops:Array Oper) (n:Nat) (ord late:List Nat):Bool :=
 Region.noSelect ops && decide (n<=ops.size) && decide (ord.length+late.length=n) && late.all (λi=>decide (i<n)) && Region.fH md ops n && Region.mE md ops && Region.seqB md ops (ops.size - n) n (Region.canon ops n) &&
  dE ops late && Region.pP md ops n late ord (Array.replicate ops.size false)
theorem pI {id:Nat} {Q:Exit->Act->World->Prop} {a:Act} {w:World} {l:List Oper} (n:Nat) (ord:List Nat) (late:List (Nat×(Value->World->Prop)))
  (hm:P.follows .mixedOrders=true) (hB:Region.qa .any l.toArray n ord (late.map (·.1))=true) (hT:∀ p∈late,∀ v,aG (p.2 v))
  (h:dS P l.toArray w (λa'=>dP P l.toArray w (λa'' F=>∀ w',Mod [] w w'->F w'->wpList P l.toArray Q (l.drop n) a'' w') late a' (λ_=>True)) ord a) :
  (Code.region id l.toArray true).wp P Q a w:=by
 simp only [Region.qa,Bool.and_eq_true,decide_eq_true_eq] at hB;obtain ⟨⟨⟨⟨⟨⟨⟨⟨hsel,hn⟩,hlen⟩,hlt⟩,ht⟩,hd⟩,hseq⟩,hap⟩,hord⟩:=hB
 let L:Nat->Option (Value->World->Prop):=λi=>(late.find? λp=>p.1 == i).map (·.2)
 have hLn:∀ i,(late.map (·.1)).contains i=false->L i=none:=λi hi=>by
  simp only [L,Option.map_eq_none_iff,List.find?_eq_none];intro p hp he;have:(late.map (·.1)).contains i=true:=by simpa using ⟨p.2,by simpa [<- (beq_iff_eq.1 he)] using hp⟩
  rw [hi] at this;cases this
 have hLs:∀ p∈late,L p.1=some p.2:=λp hp=>iL late p hp (fo hap)
 have hLT:∀ i T,L i=some T->∀ v,aG (T v):=λi T hi v=>by
  simp only [L,Option.map_eq_some_iff] at hi;obtain ⟨p,hp,rfl⟩:=hi;exact hT p (List.mem_of_find?_eq_some hp) v
 have inv0:HeadInv .any l.toArray n (Array.replicate l.toArray.size false) :=
  ⟨by simp,λj oj _ hl=>zqk,λt _ ht=>getD_in zpc (getD_replicate_false _ _)⟩
 have hE:∀ (a:Act) (F F':World->Prop),(∀ w,F' w->F w)->(∀ w',Mod [] w w'->F w'->wpList P l.toArray Q (l.drop n) a w')->(∀ w',Mod [] w w'->F' w'->wpList P l.toArray Q (l.drop n) a w') :=
  λa F F' hF h w' hw hf=>h w' hw (hF w' hf)
 have hdl:(l.drop n).length=l.toArray.size - n:=by simp
 have H:=gd (P:=P) (W:=w) (L:=L) (m:=late.length) (late:=late.map (·.1)) (F:=λ_=>True)
  (Fin:=λlisted a F=>Region.seqB .any l.toArray (l.toArray.size - n) n listed=true/\∀ w',Mod [] w w'->F w'->wpList P l.toArray Q (l.drop n) a w')
  hsel ht (λlisted a F hf=>seqB_ready hf.1) hLn (λa listed inv hB hk=>by
   refine lG hE (Region.noSelect_spec hsel) ht hd hn hseq late.length late listed a _ rfl inv hap hLs (λi hi=>?_) (λp hp=>?_) hk
   ·have:=List.all_eq_true.1 hB i (List.mem_range.2 hi);simp only [beq_iff_eq] at this;rw [Bool.eq_iff_iff] at this;simp only [beq_iff_eq,List.contains_iff_mem] at this;exact this
   ·have:=List.all_eq_true.1 hlt p.1 (mM hp)
    simpa using this) ord _ a inv0 hord h
 refine wp_region_any hm ?_
 have hfin:=dJ (P:=P) (md:=.any) (ops:=l.toArray) (W:=w) (Q:=Q) (g:=l.toArray.size - n) hLT (λlisted a F w' hw hF hf=>by
  have:=wpAny_of_seq (md:=.any) (Q':=Q) (l.drop n) n listed a w' (λj=>by simp [List.getElem?_drop]) zqz (hf.2 w' hw hF)
  rwa [hdl] at this) _ _ _ _ { w with drawn:=w.drawn+1 } (λ_ _ _ _=>trivial) ((Mod.refl [] w).drew) trivial H
 have hl2:ord.length+late.length+(l.toArray.size - n)=l.toArray.size:=by simp only [List.length_map] at hlen;omega
 rwa [hl2] at hfin
theorem aB {E:Act->(World->Prop)->Prop} {a:Act} {F:World->Prop} (h:E a F):dP P ops W E [] a F:=h
theorem mm {E:Act->(World->Prop)->Prop} {a:Act} {i:Nat} {o:Oper} {T:Value->World->Prop} (ho:ops[i]?=some o) (hg:o.guard=none) (hl:Late P o a W T)
  (hk:∀ v,E (a.put o.dst v) (λw=>True/\T v w)):dP P ops W E [(i,T)] a (λ_=>True):=by
 unfold dP;simp only [ho];exact ⟨hg,hl,hk⟩
theorem dK {f:FuncId} {args:Array Value} {v:Value} (h:∀ w,Calls P f args w λe w'=>e=.returned v/\w=w'):∀ w,Mod [] W w->Calls P f args w λe w'=>e=.returned v/\Mod [] w w' :=
 λw _=>(h w).mono λ_ _ ⟨he,hw⟩=>⟨he,hw ▸ mR⟩
theorem mq {f:FuncId} {args:Array Value} {v:Value} (h:∀ w,Calls P f args w λe w'=>e=.returned v/\Mod [] w w'):∀ w,Mod [] W w->Calls P f args w λe w'=>e=.returned v/\Mod [] w w' :=
 λw _=>h w
def fW (P:Program) (ops:Array Oper) (W:World) (K:Act->Prop):List Oper->Act->Prop
 | [],a=>K a
 | o::l,a=>if Region.wanted o (yielded ops a.tmps) then ∃ v,gJ P o a W v/\fW P ops W K l (a.put o.dst v) else fW P ops W K l (a.put o.dst undef)
def aQ:List Oper->List Bool->List Oper
 | o::l,true::m=>o::aQ l m
 | _::l,false::m=>aQ l m
 | _,_=>[]
def ni:Nat->List Bool->List Nat
 | k,true::m=>k::ni (k+1) m
 | k,false::m=>ni (k+1) m
 | _,[]=>[]
theorem dB {K:Act->Prop}:∀ (m:List Bool) (k:Nat) (l:List Oper) (a:Act),(∀ j,l[j]?=ops[k+j]?)->m.length<=l.length->fW P ops W K (aQ l m) a->dS P ops W K (ni k m) a
 | [],_,l,_,_,_,h=>by cases l <;> exact h
 | b::m,k,[],_,_,hl,_=>by simp at hl
 | b::m,k,o::l,a,hj,hl,h=>by
  have h0:ops[k]?=some o:=by simpa using (hj 0).symm
  have hj':∀ j,l[j]?=ops[k+1+j]?:=λj=>by have:=hj (j+1);simpa [Nat.add_assoc,Nat.add_comm 1 j] using this
  have hl':m.length<=l.length:=by simpa using hl
  cases b with
  | false=>exact dB m (k+1) l a hj' hl' h
  | true =>
   simp only [aQ,fW] at h;simp only [ni,dS,h0]
   split
   ·rename_i hw;rw [if_pos hw] at h;obtain ⟨v,h1,h2⟩:=h;exact ⟨v,h1,dB m (k+1) l _ hj' hl' h2⟩
   ·rename_i hw;rw [if_neg hw] at h;exact dB m (k+1) l _ hj' hl' h
structure cM (P:Program) (ops:Array Oper) (W:World) (K:Act->Prop) (l:List Oper) (a:Act):Prop where
 o:fW P ops W K l a
theorem ak {id:Nat} {Q:Exit->Act->World->Prop} {a:Act} {w:World} {l:List Oper} (n:Nat) (mask:List Bool) (late:List (Nat×(Value->World->Prop)))
  (hm:P.follows .mixedOrders=true) (hB:(Region.qa .any l.toArray n (ni 0 mask) (late.map (·.1)) && decide (mask.length<=l.length))=true) (hT:∀ p∈late,∀ v,aG (p.2 v))
  (h:cM P l.toArray w (λa'=>dP P l.toArray w (λa'' F=>∀ w',Mod [] w w'->F w'->wpList P l.toArray Q (l.drop n) a'' w') late a' (λ_=>True)) (aQ l mask) a) :
  (Code.region id l.toArray true).wp P Q a w:=by
 simp only [Bool.and_eq_true,decide_eq_true_eq] at hB;exact pI n (ni 0 mask) late hm hB.1 hT (dB mask 0 l a zk hB.2 h.o)
theorem qp {o:Oper} {a a':Act} {w:World} {R:World->Prop} (hd:a'.defers=a.defers) (h:o.wp P a w (λx y=>x=a'/\R y) (λ_ _ _=>False)):∃ u,a.put o.dst u=a':=by
 unfold Oper.wp at h;generalize (execOp a.eval o).run P w=r at *
 cases r with
 | ok n w' =>
  cases n <;> simp only [Oper.upon] at h
  case value u=>exact ⟨u,h.1⟩
  case skip=>exact ⟨_,h.1⟩
  case defer x =>
   exfalso;have hl:∀ (b:Act) (d:Option Tmp) (v:Value),(b.put d v).defers=b.defers:=λb d v=>by cases d <;> rfl
   have e2:=congrArg Act.defers h.1;rw [hl,hd] at e2;have:=congrArg List.length e2;simp at this
  case enter f args =>
   obtain ⟨e,w'',fr,hR,_⟩:=h [];cases e with
   | returned u=>exact ⟨u,hR.1⟩
   | panicked c=>exact hR.elim
   | outgrown=>obtain ⟨_,_,h⟩:=hR;exact h.elim
  case row row args =>
   obtain ⟨v,w'',hR,_⟩:=h (default:Frame) [];exact ⟨v,hR.1⟩
 | halt x w'=>cases x <;> simp only [Oper.upon] at h
theorem lW {K:Act->Prop} {l:List Oper} {a a':Act} {o:Oper} (hg:Region.wanted o (yielded ops a.tmps)=true) (hd:a'.defers=a.defers)
  (h:∀ w,Mod [] W w->∀ (K:Act->World->Prop) (Q:Exit->Act->World->Prop),(∀ w',Mod [] w w'->K a' w')->o.wp P a w K Q) (hr:cM P ops W K l a'):cM P ops W K (o::l) a:=by
 refine ⟨?_⟩;obtain ⟨u,hu⟩:=qp (R:=λ_=>True) hd (h W mR _ _ λw' _=>⟨rfl,trivial⟩);unfold fW;rw [if_pos hg];refine ⟨u,λw hw=>h w hw _ _ λw' m=>⟨u,hu.symm,m,rfl⟩,?_⟩;rw [hu];exact hr.o
theorem lI {K:Act->Prop} {l:List Oper} {a a':Act} {o:Oper} (hg:Region.wanted o (yielded ops a.tmps)=false) (hp:a.put o.dst undef=a') (hr:cM P ops W K l a'):cM P ops W K (o::l) a:=by
 refine ⟨?_⟩;unfold fW;rw [if_neg (by rw [hg];exact Bool.false_ne_true),hp];exact hr.o
theorem tV {K:Act->Prop} {l:List Oper} {a:Act} {o:Oper} (hg:Region.wanted o (yielded ops a.tmps)=false) (hp:a.put o.dst undef=a) (hr:cM P ops W K l a):cM P ops W K (o::l) a:=lI hg hp hr
theorem au {K:Act->Prop} {a:Act} (h:K a):cM P ops W K [] a:=⟨h⟩
structure Own (w0 w:World) (l:List (Nat×Array Value×TypeId)):Prop where
 mod:Mod [] w0 w
 blk:∀ p∈l,w0.heap.size<=p.1/\Blk w p.1 p.2.1 p.2.2
 nodup:(l.map (·.1)).Nodup
theorem Own.start (w:World):Own w w []:=⟨mR,by simp,List.nodup_nil⟩
theorem Own.new {w0 w w':World} {l:List (Nat×Array Value×TypeId)} {b:Nat} {cs:Array Value} {t:TypeId} (S:Own w0 w l) (m:Mod [] w w') (hb:w.heap.size<=b) (B:Blk w' b cs t):Own w0 w' (l++[(b,cs,t)]):=by
 refine ⟨S.mod.then m,λp hp=>?_,?_⟩
 ·rcases List.mem_append.1 hp with hp | hp
  ·exact ⟨(S.blk p hp).1,(S.blk p hp).2.kept m zk⟩
  ·obtain rfl:=mI.1 hp;exact ⟨nT S.mod.size hb,B⟩
 ·rw [List.map_append,List.nodup_append];refine ⟨S.nodup,by simp,λx hx y hy hxy=>?_⟩;obtain ⟨p,hp,rfl⟩:=List.mem_map.1 hx;have:=(S.blk p hp).2.lt;simp only [List.map_cons,List.map_nil,mI] at hy;omega
theorem Own.alloc {w0 w:World} {l:List (Nat×Array Value×TypeId)} (S:Own w0 w l) (cs:Array Value) (t:TypeId):Own w0 (w.alloc (.cells cs t)) (l++[(w.heap.size,cs,t)]) :=
 S.new (mR.alloc _) (nR _) (Blk.new w cs t)
theorem own1 (w:World) (c1:Array Value) (t1:TypeId):Own w (w.alloc (.cells c1 t1)) [(w.heap.size,c1,t1)]:=(Own.start w).alloc c1 t1
theorem own2 (w:World) (c1:Array Value) (t1:TypeId) (c2:Array Value) (t2:TypeId):Own w ((w.alloc (.cells c1 t1)).alloc (.cells c2 t2)) [(w.heap.size,c1,t1),(w.heap.size+1,c2,t2)]:=by
 have:=(own1 w c1 t1).alloc c2 t2;simpa using this
theorem own3 (w:World) (c1:Array Value) (t1:TypeId) (c2:Array Value) (t2:TypeId) (c3:Array Value) (t3:TypeId) :
  Own w (((w.alloc (.cells c1 t1)).alloc (.cells c2 t2)).alloc (.cells c3 t3)) [(w.heap.size,c1,t1),(w.heap.size+1,c2,t2),(w.heap.size+1+1,c3,t3)]:=by
 have:=(own2 w c1 t1 c2 t2).alloc c3 t3;simpa using this
theorem Own.call {w0 w w':World} {l:List (Nat×Array Value×TypeId)} (S:Own w0 w l) (m:Mod [] w w'):Own w0 w' l :=
 ⟨S.mod.then m,λp hp=>⟨(S.blk p hp).1,(S.blk p hp).2.kept m zk⟩,S.nodup⟩
theorem Own.at {w0 w:World} {l:List (Nat×Array Value×TypeId)} {b:Nat} {cs:Array Value} {t:TypeId} (S:Own w0 w l) (k:Nat) (hk:l[k]?=some (b,cs,t)):Blk w b cs t:=(S.blk _ (List.mem_of_getElem? hk)).2
theorem Own.ge {w0 w:World} {l:List (Nat×Array Value×TypeId)} {b:Nat} {cs:Array Value} {t:TypeId} (S:Own w0 w l) (k:Nat) (hk:l[k]?=some (b,cs,t)):w0.heap.size<=b:=(S.blk _ (List.mem_of_getElem? hk)).1
theorem yE {l:List Nat} (h:l.Nodup) (i j:Nat) (hij:i<j) (hj:j<l.length):l[i]?≠l[j]?:=by
 have:=List.pairwise_iff_getElem.1 h i j zo hj hij;rw [gE zo,gE hj];exact λhe=>this (Option.some.inj he)
theorem Own.set {w0 w:World} {l:List (Nat×Array Value×TypeId)} {b:Nat} {cs:Array Value} {t:TypeId} (S:Own w0 w l) (k:Nat) (hk:l[k]?=some (b,cs,t)) (i:Nat) (v:Value) :
  Own w0 (w.setCell ⟨b,i,none⟩ v) (l.set k (b,cs.setIfInBounds i v,t)):=by
 obtain ⟨hkl,hke⟩:=gI.1 hk;have hmap:(l.set k (b,cs.setIfInBounds i v,t)).map (·.1)=l.map (·.1):=by
  rw [List.map_set];apply List.ext_getElem?;intro j;rw [List.getElem?_set]
  split
  ·rename_i hj;subst hj;simp [hkl,hke]
  ·rfl
 refine ⟨S.mod.eT (S.ge k hk) v,λp hp=>?_,by rw [hmap];exact S.nodup⟩;obtain ⟨j,hj⟩:=List.getElem?_of_mem hp;rw [List.getElem?_set] at hj
 split at hj
 ·rename_i hkj;subst hkj;simp only [Option.some.injEq] at hj;subst hj;exact ⟨S.ge k hk,(S.at k hk).set i v⟩
 ·rename_i hkj;have hm:=List.mem_of_getElem? hj;refine ⟨(S.blk p hm).1,(S.blk p hm).2.other (λhe=>?_) v⟩;have hjl:j<l.length:=(gI.1 hj).1;have hje:l[j]=p:=(gI.1 hj).2;have:=yE S.nodup;rcases Nat.lt_or_ge k j with h | h
  ·exact this k j h (by simpa using hjl) (by simp only [List.getElem?_map,hk,hj,Option.map_some];rw [<- he])
  ·exact this j k zo (by simpa using hkl) (by simp only [List.getElem?_map,hk,hj,Option.map_some];rw [<- he])
theorem Own.lt {w0 w:World} {l:List (Nat×Array Value×TypeId)} {b:Nat} {cs:Array Value} {t:TypeId} (S:Own w0 w l) (k:Nat) (hk:l[k]?=some (b,cs,t)):b<w.heap.size:=(S.at k hk).lt
theorem Own.to {w0 w:World} {l l':List (Nat×Array Value×TypeId)} (S:Own w0 w l) (h:l=l'):Own w0 w l':=h ▸ S
theorem Blk.every {b:Nat} {cs:Array Value} {t:TypeId} (h:Blk W b cs t):∀ w,Mod [] W w->∀ i,w.cell? ⟨b,i,none⟩=cs[i]?:=λ_ hw i=>(h.kept hw zk).cell i
end
def I64 (x:Int):Prop:=-9223372036854775808<=x/\x<=9223372036854775807
def Rows {α:Type} (k:Nat) (R:Nat->World->List Value->α->Prop) (B:Nat) (w:World) (v:Value) (l:List α):Prop :=
 ∃ oa cap,v=.slice oa l.length cap/\l.length<=maxLen/\∀ i (h:i<l.length),∃ a:Addr,oa=some a/\B<=a.block/\∃ cs,cs.length=k/\(∀ j,j<k->w.cell? ((a.add (i*k)).add j)=cs[j]?)/\R B w cs l[i]
def sB (B:Nat) (w w':World):Prop:=∀ k,B<=k->k<w.heap.size->w'.heap[k]?=w.heap[k]?
theorem Mod.above {w w':World} (m:Mod [] w w') (B:Nat):sB B w w':=λk _ hk=>m.block k hk zk
def gV {α:Type} (R:Nat->World->List Value->α->Prop):Prop:=∀ B w w' cs x,R B w cs x->sB B w w'->R B w' cs x
def mF {α:Type} (R:Nat->World->List Value->α->Prop):Prop:=∀ B B' w cs x,R B w cs x->B'<=B->R B' w cs x
theorem aV {w:World} {a:Addr} {v:Value} (h:w.cell? a=some v):a.block<w.heap.size:=by
 rcases Nat.lt_or_ge a.block w.heap.size with h' | h'
 ·exact h'
 ·exfalso;have:w.cell? a=none:=by unfold World.cell?;rw [show w.heap[a.block]?=none by simp;exact h']
  rw [this] at h;cases h
theorem pF {B:Nat} {w w':World} {a:Addr} {v:Value} (m:sB B w w') (hB:B<=a.block) (h:w.cell? a=some v):w'.cell? a=some v:=by
 have e:=m a.block hB (aV h);have:w'.cell? a=w.cell? a:=World.cell?_of_block e;rw [this,h]
theorem aj {w w':World} {a:Addr} {v:Value} (m:Mod [] w w') (h:w.cell? a=some v):w'.cell? a=some v:=pF (m.above 0) (Nat.zero_le _) h
theorem add_block (a:Addr) (n:Nat):(a.add n).block=a.block:=by unfold Addr.add;split <;> rfl
theorem Rows.above {α:Type} {k B:Nat} {R:Nat->World->List Value->α->Prop} (hR:gV R) {w w':World} {v:Value} {l:List α} (h:Rows k R B w v l) (m:sB B w w'):Rows k R B w' v l:=by
 obtain ⟨oa,cap,hv,hl,h⟩:=h;refine ⟨oa,cap,hv,hl,λi hi=>?_⟩;obtain ⟨a,ha,hB,cs,hk,hc,hr⟩:=h i hi;refine ⟨a,ha,hB,cs,hk,λj hj=>?_,hR _ _ _ _ _ hr m⟩;have h2:=hc j hj;rw [gE zo] at h2 ⊢;exact pF m (by rw [add_block,add_block];exact hB) h2
theorem Rows.mod {α:Type} {k B:Nat} {R:Nat->World->List Value->α->Prop} (hR:gV R) {w w':World} {v:Value} {l:List α} (h:Rows k R B w v l) (m:Mod [] w w'):Rows k R B w' v l:=h.above hR (m.above B)
theorem Rows.lower {α:Type} {k B B':Nat} {R:Nat->World->List Value->α->Prop} (hR:mF R) {w:World} {v:Value} {l:List α} (h:Rows k R B w v l) (hB:B'<=B):Rows k R B' w v l:=by
 obtain ⟨oa,cap,hv,hl,h⟩:=h;refine ⟨oa,cap,hv,hl,λi hi=>?_⟩;obtain ⟨a,ha,hb,cs,hk,hc,hr⟩:=h i hi;exact ⟨a,ha,nT hB hb,cs,hk,hc,hR _ _ _ _ _ hr hB⟩
theorem Rows.nil {α:Type} {k B:Nat} {R:Nat->World->List Value->α->Prop} (w:World):Rows k R B w (.slice Option.none 0 0) []:=⟨Option.none,0,rfl,by show (0:Nat)<=maxLen;decide,λi hi=>absurd hi (Nat.not_lt_zero i)⟩
theorem Rows.at {α:Type} {k B:Nat} {R:Nat->World->List Value->α->Prop} {w:World} {oa:Option Addr} {n cap:Nat} {l:List α} (h:Rows k R B w (.slice oa n cap) l) (i:Nat) (hl:i<l.length) :
  ∃ a:Addr,oa=some a/\B<=a.block/\∃ cs,cs.length=k/\(0<k->w.cell? (a.add (i*k))=cs[0]?)/\(∀ j,0<j->j<k->w.cell? ⟨(a.add (i*k)).block,(a.add (i*k)).off+j,Option.none⟩=cs[j]?)/\R B w cs l[i]:=by
 obtain ⟨oa',cap',hv,_,h⟩:=h;cases hv;obtain ⟨a,ha,hB,cs,hk,hc,hr⟩:=h i hl;refine ⟨a,ha,hB,cs,hk,λh0=>?_,λj h0 hj=>?_,hr⟩
 ·have:=hc 0 h0;simpa [Addr.add] using this
 ·have:=hc j hj;rw [show ((a.add (i*k)).add j)=⟨(a.add (i*k)).block,(a.add (i*k)).off+j,Option.none⟩ by simp [Addr.add,Nat.ne_of_gt h0]] at this;exact this
theorem Rows.form {α:Type} {k B:Nat} {R:Nat->World->List Value->α->Prop} {w:World} {v:Value} {l:List α} (h:Rows k R B w v l):∃ oa cap,v=.slice oa l.length cap/\l.length<=maxLen:=by
 obtain ⟨oa,cap,hv,hl,_⟩:=h;exact ⟨oa,cap,hv,hl⟩
def bn (B:Nat) (w:World) (cs:List Value) (x:Int):Prop:=cs=[.int .i64 x]/\I64 x
theorem bn.stay:gV bn:=λ_ _ _ _ _ h _=>h
theorem bn.lower:mF bn:=λ_ _ _ _ _ h _=>h
def eW (B:Nat) (w:World) (cs:List Value) (l:List Int):Prop:=∃ v,cs=[v]/\Rows 1 bn B w v l
theorem eW.stay:gV eW:=λ_ _ _ _ _ ⟨v,h,hr⟩ m=>⟨v,h,hr.above bn.stay m⟩
structure bV where
 x:Int
 y:Int
 on:Bool
def eH (B:Nat) (w:World) (cs:List Value) (d:bV):Prop:=cs=[.int .i64 d.x,.int .i64 d.y,.bool d.on]/\I64 d.x/\I64 d.y
theorem eH.stay:gV eH:=λ_ _ _ _ d ⟨hc,h0,h1⟩ m=>⟨hc,h0,h1⟩
theorem eH.lower:mF eH:=λ_ _ _ _ d ⟨hc,h0,h1⟩ m=>⟨hc,h0,h1⟩
structure cK where
 glyph:Int
 x:Int
 y:Int
def eE (B:Nat) (w:World) (cs:List Value) (d:cK):Prop:=cs=[.int .i64 d.glyph,.int .i64 d.x,.int .i64 d.y]/\I64 d.glyph/\I64 d.x/\I64 d.y
theorem eE.stay:gV eE:=λ_ _ _ _ d ⟨hc,h0,h1,h2⟩ m=>⟨hc,h0,h1,h2⟩
theorem eE.lower:mF eE:=λ_ _ _ _ d ⟨hc,h0,h1,h2⟩ m=>⟨hc,h0,h1,h2⟩
structure bh where
 kind:Int
 cls:Int
 x:Int
 y:Int
def dD (B:Nat) (w:World) (cs:List Value) (d:bh):Prop:=cs=[.int .i64 d.kind,.int .i64 d.cls,.int .i64 d.x,.int .i64 d.y]/\I64 d.kind/\I64 d.cls/\I64 d.x/\I64 d.y
theorem dD.stay:gV dD:=λ_ _ _ _ d ⟨hc,h0,h1,h2,h3⟩ m=>⟨hc,h0,h1,h2,h3⟩
theorem dD.lower:mF dD:=λ_ _ _ _ d ⟨hc,h0,h1,h2,h3⟩ m=>⟨hc,h0,h1,h2,h3⟩
structure co where
 region:Int
 point:Int
 x:Int
 y:Int
def er (B:Nat) (w:World) (cs:List Value) (d:co):Prop:=cs=[.int .i64 d.region,.int .i64 d.point,.int .i64 d.x,.int .i64 d.y]/\I64 d.region/\I64 d.point/\I64 d.x/\I64 d.y
theorem er.stay:gV er:=λ_ _ _ _ d ⟨hc,h0,h1,h2,h3⟩ m=>⟨hc,h0,h1,h2,h3⟩
theorem er.lower:mF er:=λ_ _ _ _ d ⟨hc,h0,h1,h2,h3⟩ m=>⟨hc,h0,h1,h2,h3⟩
structure bS where
 op:Int
 a:Int
def jm (B:Nat) (w:World) (cs:List Value) (d:bS):Prop:=cs=[.int .i64 d.op,.int .i64 d.a]/\I64 d.op/\I64 d.a
theorem jm.stay:gV jm:=λ_ _ _ _ d ⟨hc,h0,h1⟩ m=>⟨hc,h0,h1⟩
theorem jm.lower:mF jm:=λ_ _ _ _ d ⟨hc,h0,h1⟩ m=>⟨hc,h0,h1⟩
def gK (B:Nat) (w:World) (cs:List Value) (l:List bS):Prop:=∃ v,cs=[v]/\Rows 2 jm B w v l
theorem gK.stay:gV gK:=λ_ _ _ _ _ ⟨v,h,hr⟩ m=>⟨v,h,hr.above jm.stay m⟩
structure dc where
 rune:Int
 glyph:Int
def eF (B:Nat) (w:World) (cs:List Value) (d:dc):Prop:=cs=[.int .i64 d.rune,.int .i64 d.glyph]/\I64 d.rune/\I64 d.glyph
theorem eF.stay:gV eF:=λ_ _ _ _ d ⟨hc,h0,h1⟩ m=>⟨hc,h0,h1⟩
structure dY where
 pos:Int
 lookup:Int
def iC (B:Nat) (w:World) (cs:List Value) (d:dY):Prop:=cs=[.int .i64 d.pos,.int .i64 d.lookup]/\I64 d.pos/\I64 d.lookup
theorem iC.stay:gV iC:=λ_ _ _ _ d ⟨hc,h0,h1⟩ m=>⟨hc,h0,h1⟩
structure gv where
 start:Int
 peak:Int
 stop:Int
def iX (B:Nat) (w:World) (cs:List Value) (d:gv):Prop:=cs=[.int .i64 d.start,.int .i64 d.peak,.int .i64 d.stop]/\I64 d.start/\I64 d.peak/\I64 d.stop
theorem iX.stay:gV iX:=λ_ _ _ _ d ⟨hc,h0,h1,h2⟩ m=>⟨hc,h0,h1,h2⟩
structure bB where
 name:ByteArray
 min:Int
 dflt:Int
 max:Int
def eP (B:Nat) (w:World) (cs:List Value) (d:bB):Prop:=cs=[.string d.name,.int .i64 d.min,.int .i64 d.dflt,.int .i64 d.max]/\d.name.size<=maxLen/\I64 d.min/\I64 d.dflt/\I64 d.max
theorem eP.stay:gV eP:=λ_ _ _ _ d ⟨hc,h0,h1,h2,h3⟩ m=>⟨hc,h0,h1,h2,h3⟩
structure dm where
 pts:List (bV)
 ends:List (Int)
structure aA where
 name:ByteArray
 lookups:List (Int)
def aZ (B:Nat) (w:World) (cs:List Value) (d:aA):Prop:=∃ v1,cs=[.string d.name,v1]/\d.name.size<=maxLen/\Rows 1 bn B w v1 d.lookups
theorem aZ.stay:gV aZ:=λ_ _ _ _ d ⟨v1,hc,h0,h1⟩ m=>⟨v1,hc,h0,h1.above bn.stay m⟩
structure aN where
 back:List (List Int)
 ins:List (List Int)
 ahead:List (List Int)
 o:List (Int)
 calls:List (dY)
 x:Int
def dW (B:Nat) (w:World) (cs:List Value) (d:aN):Prop:=∃ v0 v1 v2 v3 v4,cs=[v0,v1,v2,v3,v4,.int .i64 d.x]/\Rows 1 eW B w v0 d.back/\Rows 1 eW B w v1 d.ins/\Rows 1 eW B w v2 d.ahead/\Rows 1 bn B w v3 d.o/\Rows 2 iC B w v4 d.calls/\I64 d.x
theorem dW.stay:gV dW:=λ_ _ _ _ d ⟨v0,v1,v2,v3,v4,hc,h0,h1,h2,h3,h4,h5⟩ m=>⟨v0,v1,v2,v3,v4,hc,h0.above eW.stay m,h1.above eW.stay m,h2.above eW.stay m,h3.above bn.stay m,h4.above iC.stay m,h5⟩
structure ar where
 kind:Int
 ignore:Bool
 rules:List (aN)
def aJ (B:Nat) (w:World) (cs:List Value) (d:ar):Prop:=∃ v2,cs=[.int .i64 d.kind,.bool d.ignore,v2]/\I64 d.kind/\Rows 6 dW B w v2 d.rules
theorem aJ.stay:gV aJ:=λ_ _ _ _ d ⟨v2,hc,h0,h1⟩ m=>⟨v2,hc,h0,h1.above dW.stay m⟩
structure av where
 name:ByteArray
 adv:Int
 mark:Bool
 pts:List bV
 ends:List Int
 parts:List (cK)
 anchors:List (bh)
 deltas:List (co)
 hint:List (bS)
def aI (B:Nat) (w:World) (cs:List Value) (d:av):Prop:=∃ v3 v4 v5 v6 v7 v8,cs=[.string d.name,.int .i64 d.adv,.bool d.mark,v3,v4,v5,v6,v7,v8]/\d.name.size<=maxLen/\I64 d.adv/\Rows 3 eH B w v3 d.pts/\Rows 1 bn B w v4 d.ends/\Rows 3 eE B w v5 d.parts/\Rows 4 dD B w v6 d.anchors/\Rows 4 er B w v7 d.deltas/\Rows 2 jm B w v8 d.hint
theorem aI.stay:gV aI:=λ_ _ _ _ d ⟨v3,v4,v5,v6,v7,v8,hc,h0,h1,h2,h3,h4,h5,h6,h7⟩ m=>⟨v3,v4,v5,v6,v7,v8,hc,h0,h1,h2.above eH.stay m,h3.above bn.stay m,h4.above eE.stay m,h5.above dD.stay m,h6.above er.stay m,h7.above jm.stay m⟩
theorem aI.lower:mF aI:=λ_ _ _ _ d ⟨v3,v4,v5,v6,v7,v8,hc,h0,h1,h2,h3,h4,h5,h6,h7⟩ m=>⟨v3,v4,v5,v6,v7,v8,hc,h0,h1,h2.lower eH.lower m,h3.lower bn.lower m,h4.lower eE.lower m,h5.lower dD.lower m,h6.lower er.lower m,h7.lower jm.lower m⟩
structure bv where
 tents:List (gv)
def dC (B:Nat) (w:World) (cs:List Value) (d:bv):Prop:=∃ v0,cs=[v0]/\Rows 3 iX B w v0 d.tents
theorem dC.stay:gV dC:=λ_ _ _ _ d ⟨v0,hc,h0⟩ m=>⟨v0,hc,h0.above iX.stay m⟩
structure aD where
 unit:Int
 glyphs:List (av)
 chars:List (dc)
 lookups:List (ar)
 features:List (aA)
 axes:List (bB)
 regions:List (bv)
 funcs:List (List bS)
 cvt:List (Int)
section
open Go.ChangeShapes Go.WideShapes Go.ChangeAt Go.Joins
variable {H:Type} {enc:TypeId×Value->H} {W:World} {base:Nat} {sp:Nat->Bool} {held:Bool}
theorem rowsOf {α:Type} {t e:TypeId} {k:Nat} {R:Nat->World->List Value->α->Prop} (ht:Tryz.prog.underlying t=some (.slice e)) (hk:Tryz.prog.cellsOf e=k)
  (hR:∀ (fuel:Nat) (cs:List Value) (x:DataW H×List MemPlace),DataW.trod enc Tryz.prog W 0 sp held fuel e cs=some x->∃ d,R 0 W cs d)
  {fuel:Nat} {v:Value} {x:DataW H×List MemPlace} (h:DataW.trod enc Tryz.prog W 0 sp held fuel t [v]=some x):∃ l,Rows k R 0 W v l:=by
 subst hk;rcases DataW.trod_slice ht h with ⟨h0,_⟩ | ⟨a,len,cap,el,rest,m,_,hc,_,_,h1,h2,h3,h4,_⟩
 ·obtain rfl:v=.slice Option.none 0 0:=by simpa using h0
  exact ⟨[],Rows.nil W⟩
 ·obtain rfl:v=.slice (some a) len cap:=by simpa using hc
  have each:∀ i,i<len->∃ d:α,∃ cs,cs.length=Tryz.prog.cellsOf e/\(∀ j,j<Tryz.prog.cellsOf e->W.cell? ((a.add (i*Tryz.prog.cellsOf e)).add j)=cs[j]?)/\R 0 W cs d:=λi hi=>by
   have h5:=h4 i hi;rw [gE zo] at h5;simp only [Option.bind_eq_some_iff] at h5;obtain ⟨cs,hcs,hy⟩:=h5;obtain ⟨-,hlen,hcell⟩:=World.cells?_some hcs;obtain ⟨d,hd⟩:=hR _ _ _ hy;exact ⟨d,cs,hlen,hcell,hd⟩
  refine ⟨List.ofFn λi:Fin len=>Classical.choose (each i.1 i.2),some a,cap,by rw [List.length_ofFn],by rw [List.length_ofFn];omega,λi hi=>?_⟩;rw [List.length_ofFn] at hi;rw [List.getElem_ofFn];obtain ⟨cs,h6,h7,h8⟩:=Classical.choose_spec (each i hi);exact ⟨a,rfl,Nat.zero_le _,cs,h6,h7,h8⟩
theorem iw {fuel:Nat} {cs:List Value} {x:DataW H×List MemPlace} (h:DataW.trod enc Tryz.prog W 0 sp held fuel 3 cs=some x):∃ d,bn 0 W cs d:=by
 obtain ⟨u,e0,_,w0⟩:=DataW.trod_int Tryz.underlying3 h;exact ⟨u,e0,bounds_i64 w0⟩
theorem zw {fuel:Nat} {cs:List Value} {x:DataW H×List MemPlace} (h:DataW.trod enc Tryz.prog W 0 sp held fuel 4 cs=some x):∃ b:Bool,cs=[.bool b]:=by
 obtain ⟨u,e0,_⟩:=DataW.trod_bool Tryz.underlying4 h;exact ⟨u,e0⟩
theorem one_cell {t e:TypeId} {fuel:Nat} {cs:List Value} {x:DataW H×List MemPlace} (ht:Tryz.prog.underlying t=some (.slice e)) (h:DataW.trod enc Tryz.prog W 0 sp held fuel t cs=some x):∃ v,cs=[v]:=by
 rcases DataW.trod_slice ht h with ⟨rfl,_⟩ | ⟨a,len,cap,el,rest,m,_,rfl,_⟩
 ·exact ⟨_,rfl⟩
 ·exact ⟨_,rfl⟩
theorem fZ:Tryz.prog.cellsOf 3=1:=by kernel_rfl
theorem wM:Tryz.prog.cellsOf 4=1:=by kernel_rfl
theorem jF:Tryz.prog.cellsOf 22=1:=by kernel_rfl
theorem kR:Tryz.prog.cellsOf 49=1:=by kernel_rfl
theorem uB:Tryz.prog.cellsOf 52=1:=by kernel_rfl
theorem uA:Tryz.prog.cellsOf 55=1:=by kernel_rfl
theorem nh:Tryz.prog.cellsOf 51=2:=by kernel_rfl
theorem mZ:Tryz.prog.cellsOf 54=6:=by kernel_rfl
theorem p8:Tryz.prog.cellsOf 57=3:=by kernel_rfl
set_option maxRecDepth 100000 in
theorem zD {fuel:Nat} {cs:List Value} {x:DataW H×List MemPlace} (h:DataW.trod enc Tryz.prog W 0 sp held fuel 51 cs=some x):∃ d,iC 0 W cs d:=by
 obtain ⟨xs,n,_,_,hl,hx,hf⟩:=DataW.trod_struct Tryz.underlying51 h;rw [nh] at hl;obtain ⟨c0,c1,rfl⟩:∃ c0 c1,cs=[c0,c1]:=by
  match cs,hl with | [q0,q1],_=>exact ⟨q0,q1,rfl⟩
 obtain ⟨x0,x1,rfl⟩:∃ x0 x1,xs=[x0,x1]:=by
  match xs,hx with | [q0,q1],_=>exact ⟨q0,q1,rfl⟩
 have f0:=hf 0 _ rfl;change DataW.trod enc Tryz.prog W 0 sp held n 3 (([c0,c1].drop 0).take (Tryz.prog.cellsOf 3))=_ at f0;rw [fZ] at f0;have g0:DataW.trod enc Tryz.prog W 0 sp held n 3 [c0]=some x0:=f0;have f1:=hf 1 _ rfl;change DataW.trod enc Tryz.prog W 0 sp held n 3 (([c0,c1].drop 1).take (Tryz.prog.cellsOf 3))=_ at f1;rw [fZ] at f1;have g1:DataW.trod enc Tryz.prog W 0 sp held n 3 [c1]=some x1:=f1;obtain ⟨d0,e0,b0⟩:=iw g0;simp at e0;subst e0;obtain ⟨d1,e1,b1⟩:=iw g1;simp at e1;subst e1;exact ⟨⟨d0,d1⟩,rfl,b0,b1⟩
end
section
variable {α:Type} {k:Nat} {enc:α->List Value} {R:Nat->World->List Value->α->Prop} {B:Nat}
theorem addr_add_add (a:Addr) (x y:Nat):(a.add x).add y=a.add (x+y):=by
 unfold Addr.add
 by_cases hx:x=0 <;> by_cases hy:y=0 <;> simp [hx,hy]
 ·omega
end
def ec (w:World) (b:Nat):Nat->List Value->World
 | _,[]=>w
 | i,v::r=>ec (w.setCell ⟨b,i,none⟩ v) b (i+1) r
theorem sH {w0:World} {b:Nat} (hb:w0.heap.size<=b):∀ (vs:List Value) (i:Nat) (w:World),Mod [] w0 w->Mod [] w0 (ec w b i vs)
 | [],_,_,m=>m
 | v::r,i,w,m=>sH hb r (i+1) _ (m.eT (p:=⟨b,i,none⟩) hb v)
theorem oQ {b b':Nat} (hb:b'≠b):∀ (vs:List Value) (i:Nat) (w:World),(ec w b i vs).heap[b']?=w.heap[b']?
 | [],_,_=>rfl
 | v::r,i,w=>(oQ hb r (i+1) _).trans (Below.heap_setCell w ⟨b,i,none⟩ v b' hb)
def lQ (c:Array Value):Nat->List Value->Array Value
 | _,[]=>c
 | i,v::r=>lQ (c.setIfInBounds i v) (i+1) r
theorem sI {b:Nat} {t:TypeId}:∀ (vs:List Value) (i:Nat) (w:World) (c:Array Value),Blk w b c t->Blk (ec w b i vs) b (lQ c i vs) t
 | [],_,_,_,h=>h
 | v::r,i,w,c,h=>sI r (i+1) _ _ (h.set i v)
theorem qs:∀ (vs:List Value) (i:Nat) (c:Array Value),(lQ c i vs).size=c.size
 | [],_,_=>rfl
 | v::r,i,c=>(qs r (i+1) _).trans zk
theorem lu:∀ (vs:List Value) (i q:Nat) (c:Array Value),(q<i∨i+vs.length<=q)->(lQ c i vs)[q]?=c[q]?
 | [],_,_,_,_=>rfl
 | v::r,i,q,c,h=>by
  simp only [List.length_cons] at h;exact (lu r (i+1) q _ zo).trans (Array.getElem?_setIfInBounds_ne zo)
theorem rm:∀ (vs:List Value) (i j:Nat) (c:Array Value),j<vs.length->i+vs.length<=c.size->(lQ c i vs)[i+j]?=vs[j]?
 | v::r,i,0,c,_,h=>by
  simp only [List.length_cons] at h;show (lQ (c.setIfInBounds i v) (i+1) r)[i]?=_;rw [lu r (i+1) i _ zo];simp [show i<c.size by omega]
 | v::r,i,j+1,c,hj,h=>by
  simp only [List.length_cons] at h hj;have:=rm r (i+1) j (c.setIfInBounds i v) zo zqa;rw [show i+(j+1)=i+1+j by omega];exact this
theorem sS (vs:List Value) (c:Array Value) (h:vs.length=c.size):lQ c 0 vs=vs.toArray:=by
 apply Array.ext_getElem?;intro q;rcases Nat.lt_or_ge q vs.length with hq | hq
 ·have:=rm vs 0 q c hq zo;rw [Nat.zero_add] at this;rw [this];simp
 ·rw [lu vs 0 q c zo,Array.getElem?_eq_none zo];simp;omega
theorem Blk.over {w:World} {b:Nat} {c:Array Value} {t:TypeId} (h:Blk w b c t) (vs:List Value) (hl:vs.length=c.size):Blk (ec w b 0 vs) b vs.toArray t:=by
 have:=sI vs 0 w c h;rwa [sS vs c hl] at this
theorem Own.off {w0 w w':World} {l:List (Nat×Array Value×TypeId)} (S:Own w0 w l) (m:Mod [] w0 w') (h:∀ p∈l,w'.heap[p.1]?=w.heap[p.1]?):Own w0 w' l:=⟨m,λp hp=>⟨(S.blk p hp).1,(h p hp).trans (S.blk p hp).2⟩,S.nodup⟩
def Ew {α:Type} (k:Nat) (R:Nat->World->List Value->α->Prop) (B:Nat) (w:World) (b:Nat) (t:TypeId) (l:List α) (i:Nat):Prop :=
 ∃ c:Array Value,Blk w b c t/\c.size=l.length*k/\∀ j (h:j<l.length),j<i->∃ cs,cs.length=k/\(∀ q,q<k->c[j*k+q]?=cs[q]?)/\R B w cs l[j]
section
variable {α:Type} {k B:Nat} {R:Nat->World->List Value->α->Prop} {w w':World} {b:Nat} {t:TypeId} {l:List α} {i:Nat}
theorem Ew.after {wk:World} {c:Array Value} {cs:List Value} (hR:gV R) (hs:c.size=l.length*k) (h3:∀ j (h:j<l.length),j<i->∃ cs,cs.length=k/\(∀ q,q<k->c[j*k+q]?=cs[q]?)/\R B wk cs l[j]) (hi:i<l.length)
  (hA:sB B wk w) (hb:Blk w b (lQ c (i*k) cs) t) (hk:cs.length=k) (hv:R B w cs l[i]):Ew k R B w b t l (i+1):=by
 have hik:i*k+k<=l.length*k:=by
  have:=Nat.mul_le_mul_right k (show i+1<=l.length by omega);rw [Nat.add_mul] at this;omega
 refine ⟨lQ c (i*k) cs,hb,by rw [qs];exact hs,λj hj hji=>?_⟩
 by_cases he:j=i
 ·subst he;exact ⟨cs,hk,λq hq=>rm cs (j*k) q c zo zo,hv⟩
 ·obtain ⟨cs',h4,h5,h6⟩:=h3 j hj zo;refine ⟨cs',h4,λq hq=>?_,hR _ _ _ _ _ h6 hA⟩;have hjk:j*k+k<=i*k:=by
   have:=Nat.mul_le_mul_right k (show j+1<=i by omega);rw [Nat.add_mul] at this;omega
  rw [lu cs (i*k) (j*k+q) c zo];exact h5 q hq
end
section
variable {w0 w w':World} {B:Nat} {e:TypeId} {size:Nat} {v:Value} {n:Nat} {xs:List Value}
theorem eX (h:w.ownsRow B e size v n xs):∃ oa c,v=.slice oa n c:=by
 rcases h.2 with ⟨rfl,hn⟩ | ⟨g,cap,cur,rfl,_⟩
 ·exact ⟨none,0,by rw [hn]⟩
 ·exact ⟨_,_,rfl⟩
theorem gw (h:w.ownsRow B e size v n xs) (m:Mod [] w w'):w'.ownsRow B e size v n xs :=
 h.kept (row:=none) ⟨m.os,m.tape,m.output,m.size,λk hk _=>m.block k hk zk⟩ (by cases v.ownBlock <;> simp)
theorem pg {B':Nat} (h:w.ownsRow B e size v n xs) (hB:B'<=B):w.ownsRow B' e size v n xs:=by
 refine ⟨h.1,?_⟩;rcases h.2 with h | ⟨g,cap,cur,h1,h2,h3⟩
 ·exact .inl h
 ·exact .inr ⟨g,cap,cur,h1,nT hB h2,h3⟩
end
def jP (B:Nat) (cs:Array Value) (t:TypeId) (n:Nat) (v:Value) (w:World):Prop:=∃ b,v=.slice (some ⟨b,0,none⟩) n n/\B<=b/\Blk w b cs t
theorem jP.stays (B:Nat) (cs:Array Value) (t:TypeId) (n:Nat) (v:Value):aG (jP B cs t n v):=λ_ _ ⟨b,h1,h2,h3⟩ m=>⟨b,h1,h2,h3.kept m zk⟩
theorem kO {P:Program} {W:World} {o:Oper} {a:Act} {cs:Array Value} {t:TypeId} {n:Nat} (h:∀ w,(execOp a.eval o).run P w=.ok (.value (.slice (some ⟨w.heap.size,0,none⟩) n n)) (w.alloc (.cells cs t))):Late P o a W (jP W.heap.size cs t n):=by
 intro w hw;unfold Oper.wp;rw [h w];exact ⟨_,rfl,mR.alloc _,w.heap.size,rfl,hw.size,Blk.new w cs t⟩
abbrev Bl:=Nat->Prop
def az {α:Type} (k:Nat) (R:Bl->World->List Value->α->Prop) (S:Bl) (w:World) (v:Value) (l:List α):Prop :=
 ∃ oa cap,v=.slice oa l.length cap/\l.length<=maxLen/\∀ i (h:i<l.length),∃ a:Addr,oa=some a/\S a.block/\∃ cs,cs.length=k/\(∀ j,j<k->w.cell? ((a.add (i*k)).add j)=cs[j]?)/\R S w cs l[i]
def bC (S:Bl) (w w':World):Prop:=∀ k,S k->k<w.heap.size->w'.heap[k]?=w.heap[k]?
theorem Mod.jM {F:List Nat} {w w':World} (m:Mod F w w') {S:Bl} (h:∀ k∈F,¬ S k):bC S w w':=λk hk hlt=>m.block k hlt (λhm=>h k hm hk)
theorem Mod.same0 {w w':World} (m:Mod [] w w') (S:Bl):bC S w w':=m.jM zk
theorem bC.set {S:Bl} (w:World) {p:Addr} (hp:¬ S p.block) (v:Value):bC S w (w.setCell p v):=λk hk _=>Below.heap_setCell w p v k (λhe=>hp (he ▸ hk))
theorem bC.grown {S:Bl} {w w':World} {row:Option Nat} (g:w.grownBy w' row) (h:∀ k,row=some k->¬ S k):bC S w w':=λk hk hlt=>g.block k hlt (λhe=>h k he.symm hk)
def bI {α:Type} (R:Bl->World->List Value->α->Prop):Prop:=∀ S w w' cs x,R S w cs x->bC S w w'->R S w' cs x
def bW {α:Type} (R:Bl->World->List Value->α->Prop):Prop:=∀ S S' w cs x,R S w cs x->(∀ b,b<w.heap.size->S b->S' b)->R S' w cs x
def jK {α:Type} (R:Bl->World->List Value->α->Prop) (R':Nat->World->List Value->α->Prop):Prop:=∀ S B w cs x,R S w cs x->(∀ b,b<w.heap.size->S b->B<=b)->R' B w cs x
def zG {α:Type} (R':Nat->World->List Value->α->Prop) (R:Bl->World->List Value->α->Prop):Prop:=∀ B w cs x,R' B w cs x->R (λb=>B<=b) w cs x
section
variable {α:Type} {k:Nat} {R:Bl->World->List Value->α->Prop} {S S':Bl} {w w':World} {v:Value} {l:List α}
theorem wN {a:Addr} {v:Value} (m:bC S w w') (hB:S a.block) (h:w.cell? a=some v):w'.cell? a=some v:=by
 have e:=m a.block hB (aV h);have:w'.cell? a=w.cell? a:=World.cell?_of_block e;rw [this,h]
theorem az.same (hR:bI R) (h:az k R S w v l) (m:bC S w w'):az k R S w' v l:=by
 obtain ⟨oa,cap,hv,hl,h⟩:=h;refine ⟨oa,cap,hv,hl,λi hi=>?_⟩;obtain ⟨a,ha,hB,cs,hk,hc,hr⟩:=h i hi;refine ⟨a,ha,hB,cs,hk,λj hj=>?_,hR _ _ _ _ _ hr m⟩;have h2:=hc j hj;rw [gE zo] at h2 ⊢;exact wN m (by rw [add_block,add_block];exact hB) h2
theorem az.mod (hR:bI R) (h:az k R S w v l) (m:Mod [] w w'):az k R S w' v l:=h.same hR (m.same0 S)
theorem az.weak (hk0:0<k) (hR:bW R) (h:az k R S w v l) (hS:∀ b,b<w.heap.size->S b->S' b):az k R S' w v l:=by
 obtain ⟨oa,cap,hv,hl,h⟩:=h;refine ⟨oa,cap,hv,hl,λi hi=>?_⟩;obtain ⟨a,ha,hB,cs,hk,hc,hr⟩:=h i hi;have h2:=hc 0 hk0;rw [gE zo] at h2;have h3:=aV h2;rw [add_block,add_block] at h3;exact ⟨a,ha,hS _ h3 hB,cs,hk,hc,hR _ _ _ _ _ hr hS⟩
theorem az.old (hk0:0<k) {R':Nat->World->List Value->α->Prop} {B:Nat} (hR:jK R R') (h:az k R S w v l) (hS:∀ b,b<w.heap.size->S b->B<=b):Rows k R' B w v l:=by
 obtain ⟨oa,cap,hv,hl,h⟩:=h;refine ⟨oa,cap,hv,hl,λi hi=>?_⟩;obtain ⟨a,ha,hB,cs,hk,hc,hr⟩:=h i hi;have h2:=hc 0 hk0;rw [gE zo] at h2;have h3:=aV h2;rw [add_block,add_block] at h3;exact ⟨a,ha,hS _ h3 hB,cs,hk,hc,hR _ _ _ _ _ hr hS⟩
theorem Rows.new {R':Nat->World->List Value->α->Prop} {B:Nat} (hR:zG R' R) (h:Rows k R' B w v l):az k R (λb=>B<=b) w v l:=by
 obtain ⟨oa,cap,hv,hl,h⟩:=h;refine ⟨oa,cap,hv,hl,λi hi=>?_⟩;obtain ⟨a,ha,hB,cs,hk,hc,hr⟩:=h i hi;exact ⟨a,ha,hB,cs,hk,hc,hR _ _ _ _ hr⟩
theorem az.nil (w:World):az k R S w (.slice Option.none 0 0) []:=⟨Option.none,0,rfl,by show (0:Nat)<=maxLen;decide,λi hi=>absurd hi (Nat.not_lt_zero i)⟩
theorem az.at {oa:Option Addr} {n cap:Nat} (h:az k R S w (.slice oa n cap) l) (i:Nat) (hl:i<l.length) :
  ∃ a:Addr,oa=some a/\S a.block/\∃ cs,cs.length=k/\(0<k->w.cell? (a.add (i*k))=cs[0]?)/\(∀ j,0<j->j<k->w.cell? ⟨(a.add (i*k)).block,(a.add (i*k)).off+j,Option.none⟩=cs[j]?)/\R S w cs l[i]:=by
 obtain ⟨oa',cap',hv,_,h⟩:=h;cases hv;obtain ⟨a,ha,hB,cs,hk,hc,hr⟩:=h i hl;refine ⟨a,ha,hB,cs,hk,λh0=>?_,λj h0 hj=>?_,hr⟩
 ·have:=hc 0 h0;simpa [Addr.add] using this
 ·have:=hc j hj;rw [show ((a.add (i*k)).add j)=⟨(a.add (i*k)).block,(a.add (i*k)).off+j,Option.none⟩ by simp [Addr.add,Nat.ne_of_gt h0]] at this;exact this
theorem az.form (h:az k R S w v l):∃ oa cap,v=.slice oa l.length cap/\l.length<=maxLen:=by
 obtain ⟨oa,cap,hv,hl,_⟩:=h;exact ⟨oa,cap,hv,hl⟩
end
def aF (S:Bl) (w:World) (cs:List Value) (x:Int):Prop:=cs=[.int .i64 x]/\I64 x
theorem aF.stay:bI aF:=λ_ _ _ _ _ h _=>h
theorem aF.weak:bW aF:=λ_ _ _ _ _ h _=>h
theorem aF.old:jK aF bn:=λ_ _ _ _ _ h _=>h
theorem aF.new:zG bn aF:=λ_ _ _ _ h=>h
def aM (S:Bl) (w:World) (cs:List Value) (l:List Int):Prop:=∃ v,cs=[v]/\az 1 aF S w v l
theorem aM.stay:bI aM:=λ_ _ _ _ _ ⟨v,h,hr⟩ m=>⟨v,h,hr.same aF.stay m⟩
theorem aM.weak:bW aM:=λ_ _ _ _ _ ⟨v,h,hr⟩ m=>⟨v,h,hr.weak zd aF.weak m⟩
theorem aM.old:jK aM eW:=λ_ _ _ _ _ ⟨v,h,hr⟩ m=>⟨v,h,hr.old zd aF.old m⟩
theorem aM.new:zG eW aM:=λ_ _ _ _ ⟨v,h,hr⟩=>⟨v,h,hr.new aF.new⟩
def bT (S:Bl) (w:World) (cs:List Value) (d:bV):Prop:=cs=[.int .i64 d.x,.int .i64 d.y,.bool d.on]/\I64 d.x/\I64 d.y
theorem bT.stay:bI bT:=λ_ _ _ _ d ⟨hc,h0,h1⟩ m=>⟨hc,h0,h1⟩
theorem bT.weak:bW bT:=λ_ _ _ _ d ⟨hc,h0,h1⟩ m=>⟨hc,h0,h1⟩
theorem bT.old:jK bT eH:=λ_ _ _ _ d ⟨hc,h0,h1⟩ m=>⟨hc,h0,h1⟩
def fV (S:Bl) (w:World) (cs:List Value) (d:cK):Prop:=cs=[.int .i64 d.glyph,.int .i64 d.x,.int .i64 d.y]/\I64 d.glyph/\I64 d.x/\I64 d.y
theorem fV.stay:bI fV:=λ_ _ _ _ d ⟨hc,h0,h1,h2⟩ m=>⟨hc,h0,h1,h2⟩
theorem fV.weak:bW fV:=λ_ _ _ _ d ⟨hc,h0,h1,h2⟩ m=>⟨hc,h0,h1,h2⟩
theorem fV.old:jK fV eE:=λ_ _ _ _ d ⟨hc,h0,h1,h2⟩ m=>⟨hc,h0,h1,h2⟩
def bU (S:Bl) (w:World) (cs:List Value) (d:bh):Prop:=cs=[.int .i64 d.kind,.int .i64 d.cls,.int .i64 d.x,.int .i64 d.y]/\I64 d.kind/\I64 d.cls/\I64 d.x/\I64 d.y
theorem bU.stay:bI bU:=λ_ _ _ _ d ⟨hc,h0,h1,h2,h3⟩ m=>⟨hc,h0,h1,h2,h3⟩
theorem bU.weak:bW bU:=λ_ _ _ _ d ⟨hc,h0,h1,h2,h3⟩ m=>⟨hc,h0,h1,h2,h3⟩
theorem bU.old:jK bU dD:=λ_ _ _ _ d ⟨hc,h0,h1,h2,h3⟩ m=>⟨hc,h0,h1,h2,h3⟩
def dz (S:Bl) (w:World) (cs:List Value) (d:co):Prop:=cs=[.int .i64 d.region,.int .i64 d.point,.int .i64 d.x,.int .i64 d.y]/\I64 d.region/\I64 d.point/\I64 d.x/\I64 d.y
theorem dz.stay:bI dz:=λ_ _ _ _ d ⟨hc,h0,h1,h2,h3⟩ m=>⟨hc,h0,h1,h2,h3⟩
theorem dz.weak:bW dz:=λ_ _ _ _ d ⟨hc,h0,h1,h2,h3⟩ m=>⟨hc,h0,h1,h2,h3⟩
theorem dz.old:jK dz er:=λ_ _ _ _ d ⟨hc,h0,h1,h2,h3⟩ m=>⟨hc,h0,h1,h2,h3⟩
def eA (S:Bl) (w:World) (cs:List Value) (d:bS):Prop:=cs=[.int .i64 d.op,.int .i64 d.a]/\I64 d.op/\I64 d.a
theorem eA.stay:bI eA:=λ_ _ _ _ d ⟨hc,h0,h1⟩ m=>⟨hc,h0,h1⟩
theorem eA.weak:bW eA:=λ_ _ _ _ d ⟨hc,h0,h1⟩ m=>⟨hc,h0,h1⟩
theorem eA.old:jK eA jm:=λ_ _ _ _ d ⟨hc,h0,h1⟩ m=>⟨hc,h0,h1⟩
def cT (S:Bl) (w:World) (cs:List Value) (l:List bS):Prop:=∃ v,cs=[v]/\az 2 eA S w v l
theorem cT.stay:bI cT:=λ_ _ _ _ _ ⟨v,h,hr⟩ m=>⟨v,h,hr.same eA.stay m⟩
theorem cT.weak:bW cT:=λ_ _ _ _ _ ⟨v,h,hr⟩ m=>⟨v,h,hr.weak zd eA.weak m⟩
theorem cT.old:jK cT gK:=λ_ _ _ _ _ ⟨v,h,hr⟩ m=>⟨v,h,hr.old zd eA.old m⟩
def cV (S:Bl) (w:World) (cs:List Value) (d:dc):Prop:=cs=[.int .i64 d.rune,.int .i64 d.glyph]/\I64 d.rune/\I64 d.glyph
theorem cV.stay:bI cV:=λ_ _ _ _ d ⟨hc,h0,h1⟩ m=>⟨hc,h0,h1⟩
theorem cV.weak:bW cV:=λ_ _ _ _ d ⟨hc,h0,h1⟩ m=>⟨hc,h0,h1⟩
theorem cV.old:jK cV eF:=λ_ _ _ _ d ⟨hc,h0,h1⟩ m=>⟨hc,h0,h1⟩
def dM (S:Bl) (w:World) (cs:List Value) (d:dY):Prop:=cs=[.int .i64 d.pos,.int .i64 d.lookup]/\I64 d.pos/\I64 d.lookup
theorem dM.stay:bI dM:=λ_ _ _ _ d ⟨hc,h0,h1⟩ m=>⟨hc,h0,h1⟩
theorem dM.weak:bW dM:=λ_ _ _ _ d ⟨hc,h0,h1⟩ m=>⟨hc,h0,h1⟩
theorem dM.old:jK dM iC:=λ_ _ _ _ d ⟨hc,h0,h1⟩ m=>⟨hc,h0,h1⟩
theorem dM.new:zG iC dM:=λ_ _ _ d ⟨hc,h0,h1⟩=>⟨hc,h0,h1⟩
def fI (S:Bl) (w:World) (cs:List Value) (d:gv):Prop:=cs=[.int .i64 d.start,.int .i64 d.peak,.int .i64 d.stop]/\I64 d.start/\I64 d.peak/\I64 d.stop
theorem fI.stay:bI fI:=λ_ _ _ _ d ⟨hc,h0,h1,h2⟩ m=>⟨hc,h0,h1,h2⟩
theorem fI.weak:bW fI:=λ_ _ _ _ d ⟨hc,h0,h1,h2⟩ m=>⟨hc,h0,h1,h2⟩
theorem fI.old:jK fI iX:=λ_ _ _ _ d ⟨hc,h0,h1,h2⟩ m=>⟨hc,h0,h1,h2⟩
def bX (S:Bl) (w:World) (cs:List Value) (d:bB):Prop:=cs=[.string d.name,.int .i64 d.min,.int .i64 d.dflt,.int .i64 d.max]/\d.name.size<=maxLen/\I64 d.min/\I64 d.dflt/\I64 d.max
theorem bX.stay:bI bX:=λ_ _ _ _ d ⟨hc,h0,h1,h2,h3⟩ m=>⟨hc,h0,h1,h2,h3⟩
theorem bX.weak:bW bX:=λ_ _ _ _ d ⟨hc,h0,h1,h2,h3⟩ m=>⟨hc,h0,h1,h2,h3⟩
theorem bX.old:jK bX eP:=λ_ _ _ _ d ⟨hc,h0,h1,h2,h3⟩ m=>⟨hc,h0,h1,h2,h3⟩
def Cb (S:Bl) (w:World) (cs:List Value) (d:dm):Prop:=∃ v0 v1,cs=[v0,v1]/\az 3 bT S w v0 d.pts/\az 1 aF S w v1 d.ends
def aU (S:Bl) (w:World) (cs:List Value) (d:aA):Prop:=∃ v1,cs=[.string d.name,v1]/\d.name.size<=maxLen/\az 1 aF S w v1 d.lookups
theorem aU.stay:bI aU:=λ_ _ _ _ d ⟨v1,hc,h0,h1⟩ m=>⟨v1,hc,h0,h1.same aF.stay m⟩
theorem aU.weak:bW aU:=λ_ _ _ _ d ⟨v1,hc,h0,h1⟩ m=>⟨v1,hc,h0,h1.weak zd aF.weak m⟩
theorem aU.old:jK aU aZ:=λ_ _ _ _ d ⟨v1,hc,h0,h1⟩ m=>⟨v1,hc,h0,h1.old zd aF.old m⟩
def bE (S:Bl) (w:World) (cs:List Value) (d:aN):Prop:=∃ v0 v1 v2 v3 v4,cs=[v0,v1,v2,v3,v4,.int .i64 d.x]/\az 1 aM S w v0 d.back/\az 1 aM S w v1 d.ins/\az 1 aM S w v2 d.ahead/\az 1 aF S w v3 d.o/\az 2 dM S w v4 d.calls/\I64 d.x
theorem bE.stay:bI bE:=λ_ _ _ _ d ⟨v0,v1,v2,v3,v4,hc,h0,h1,h2,h3,h4,h5⟩ m=>⟨v0,v1,v2,v3,v4,hc,h0.same aM.stay m,h1.same aM.stay m,h2.same aM.stay m,h3.same aF.stay m,h4.same dM.stay m,h5⟩
theorem bE.weak:bW bE:=λ_ _ _ _ d ⟨v0,v1,v2,v3,v4,hc,h0,h1,h2,h3,h4,h5⟩ m=>⟨v0,v1,v2,v3,v4,hc,h0.weak zd aM.weak m,h1.weak zd aM.weak m,h2.weak zd aM.weak m,h3.weak zd aF.weak m,h4.weak zd dM.weak m,h5⟩
theorem bE.old:jK bE dW:=λ_ _ _ _ d ⟨v0,v1,v2,v3,v4,hc,h0,h1,h2,h3,h4,h5⟩ m=>⟨v0,v1,v2,v3,v4,hc,h0.old zd aM.old m,h1.old zd aM.old m,h2.old zd aM.old m,h3.old zd aF.old m,h4.old zd dM.old m,h5⟩
def bc (S:Bl) (w:World) (cs:List Value) (d:ar):Prop:=∃ v2,cs=[.int .i64 d.kind,.bool d.ignore,v2]/\I64 d.kind/\az 6 bE S w v2 d.rules
theorem bc.stay:bI bc:=λ_ _ _ _ d ⟨v2,hc,h0,h1⟩ m=>⟨v2,hc,h0,h1.same bE.stay m⟩
theorem bc.weak:bW bc:=λ_ _ _ _ d ⟨v2,hc,h0,h1⟩ m=>⟨v2,hc,h0,h1.weak zd bE.weak m⟩
theorem bc.old:jK bc aJ:=λ_ _ _ _ d ⟨v2,hc,h0,h1⟩ m=>⟨v2,hc,h0,h1.old zd bE.old m⟩
def bO (S:Bl) (w:World) (cs:List Value) (d:av):Prop:=∃ v3 v4 v5 v6 v7 v8,cs=[.string d.name,.int .i64 d.adv,.bool d.mark,v3,v4,v5,v6,v7,v8]/\d.name.size<=maxLen/\I64 d.adv/\az 3 bT S w v3 d.pts/\az 1 aF S w v4 d.ends/\az 3 fV S w v5 d.parts/\az 4 bU S w v6 d.anchors/\az 4 dz S w v7 d.deltas/\az 2 eA S w v8 d.hint
theorem bO.stay:bI bO:=λ_ _ _ _ d ⟨v3,v4,v5,v6,v7,v8,hc,h0,h1,h2,h3,h4,h5,h6,h7⟩ m=>⟨v3,v4,v5,v6,v7,v8,hc,h0,h1,h2.same bT.stay m,h3.same aF.stay m,h4.same fV.stay m,h5.same bU.stay m,h6.same dz.stay m,h7.same eA.stay m⟩
theorem bO.weak:bW bO:=λ_ _ _ _ d ⟨v3,v4,v5,v6,v7,v8,hc,h0,h1,h2,h3,h4,h5,h6,h7⟩ m=>⟨v3,v4,v5,v6,v7,v8,hc,h0,h1,h2.weak zd bT.weak m,h3.weak zd aF.weak m,h4.weak zd fV.weak m,h5.weak zd bU.weak m,h6.weak zd dz.weak m,h7.weak zd eA.weak m⟩
theorem bO.old:jK bO aI:=λ_ _ _ _ d ⟨v3,v4,v5,v6,v7,v8,hc,h0,h1,h2,h3,h4,h5,h6,h7⟩ m=>⟨v3,v4,v5,v6,v7,v8,hc,h0,h1,h2.old zd bT.old m,h3.old zd aF.old m,h4.old zd fV.old m,h5.old zd bU.old m,h6.old zd dz.old m,h7.old zd eA.old m⟩
def aY (S:Bl) (w:World) (cs:List Value) (d:bv):Prop:=∃ v0,cs=[v0]/\az 3 fI S w v0 d.tents
theorem aY.stay:bI aY:=λ_ _ _ _ d ⟨v0,hc,h0⟩ m=>⟨v0,hc,h0.same fI.stay m⟩
theorem aY.weak:bW aY:=λ_ _ _ _ d ⟨v0,hc,h0⟩ m=>⟨v0,hc,h0.weak zd fI.weak m⟩
theorem aY.old:jK aY dC:=λ_ _ _ _ d ⟨v0,hc,h0⟩ m=>⟨v0,hc,h0.old zd fI.old m⟩
def kw (S:Bl) (w:World) (cs:List Value) (d:aD):Prop:=∃ v1 v2 v3 v4 v5 v6 v7 v8,cs=[.int .i64 d.unit,v1,v2,v3,v4,v5,v6,v7,v8]/\I64 d.unit/\az 9 bO S w v1 d.glyphs/\az 2 cV S w v2 d.chars/\az 3 bc S w v3 d.lookups/\az 2 aU S w v4 d.features/\az 4 bX S w v5 d.axes/\az 1 aY S w v6 d.regions/\az 1 cT S w v7 d.funcs/\az 1 aF S w v8 d.cvt
theorem kw.weak:bW kw:=λ_ _ _ _ d ⟨v1,v2,v3,v4,v5,v6,v7,v8,hc,h0,h1,h2,h3,h4,h5,h6,h7,h8⟩ m=>⟨v1,v2,v3,v4,v5,v6,v7,v8,hc,h0,h1.weak zd bO.weak m,h2.weak zd cV.weak m,h3.weak zd bc.weak m,h4.weak zd aU.weak m,h5.weak zd bX.weak m,h6.weak zd aY.weak m,h7.weak zd cT.weak m,h8.weak zd aF.weak m⟩
theorem Blk.grew {w w':World} {b:Nat} {cs:Array Value} {t:TypeId} {row:Option Nat} (h:Blk w b cs t) (g:w.grownBy w' row) (hn:row≠some b):Blk w' b cs t:=by
 have:w'.heap[b]?=w.heap[b]?:=g.block b h.lt (λhe=>hn he.symm);unfold Blk at h ⊢;rw [this,h]
theorem Mod.grew {F:List Nat} {w a b:World} {row:Option Nat} (h:Mod F w a) (g:a.grownBy b row) (hr:∀ k,row=some k->w.heap.size<=k):Mod F w b :=
 ⟨g.os.trans h.os,g.tape.trans h.tape,g.output.trans h.output,nT h.size g.size,λk hk hn=>(g.block k (Nat.lt_of_lt_of_le hk h.size) (λhe=>by have:=hr k he.symm;omega)).trans (h.block k hk hn)⟩
section
variable {P:Program} {w w':World} {base k:Nat} {e:TypeId} {v v':Value}
theorem fR (t ty e:TypeId) (i:TypeInfo) (z:Value) (size bytes:Nat) (ht:P.underlying t=some (.slice e)) (hi:P.info? e=some i) (hz:i.zero=some z)
  (hsize:i.size=size) (hby:i.bytes=bytes) (hzs:z.cells.size=size)
  (v:Value) (n:Nat) (xs:List Value) (hown:w.ownsRow base e size v n xs)
  (a:Addr) (m c:Nat) (news:List Value) (hl:news.length=m*size) (hnews:∀ j u,news[j]?=some u->w.cell? (a.add j)=some u) (h1:∀ u∈news,u.oneCell'=true)
  (h63:n+m<=maxLen) (hbytes:(n+m)*bytes<=140737488355328) (hr:(Builtin.append_ #[t,t] ty #[v,.slice (some a) m c]).run P w=.ok v' w') :
  v'.ownBlock=v.ownBlock∨v'.ownBlock=some w.heap.size:=by
 subst hsize;subst hby;have hsmall:n+m<=9223372036854775807:=by simp only [maxLen] at h63;omega
 rcases hown.2 with ⟨rfl,rfl⟩ | ⟨g,cap,cur,rfl,hbg,hg,hnc,hcm,hcs,htake⟩
 ·by_cases hm:m=0
  ·subst hm;have hn:news=[]:=List.eq_nil_of_length_eq_zero (by simpa using hl);subst hn;left;have h2:(Builtin.append_ #[t,t] ty #[.slice none 0 0,.slice (some a) 0 c]).run P w=.ok (.slice none 0 0) w:=by
    simp [Builtin.append_,run_underlying ht,sizeOf,typeInfo,hi,Builtin.lenOf,Builtin.firstCells,loadCells,loadCellsFrom]
   rw [h2] at hr;cases hr;rfl
  ·right;have h2:=run_append_nil (P:=P) w t ty e i z ht hi hz a m c news hl hnews zo zo (by have hb:=hbytes;simp only [Nat.zero_add] at hb;omega);rw [h2] at hr;cases hr;rfl
 ·by_cases hroom:n+m<=cap
  ·left;have hfit:n*i.size+news.length<=cur.size:=by rw [hl,hcs,<- Nat.add_mul];exact Nat.mul_le_mul_right _ hroom
   have h2:=run_append_room (P:=P) w t ty e i ht hi g n cap cur hg a m c news hl hnews h1 hroom hfit;rw [h2] at hr;cases hr;rfl
  ·right;have holds:∀ j u,xs[j]?=some u->w.cell? ((⟨g,0,none⟩:Addr).add j)=some u:=hown.cells (g:=g) rfl;have h2:=run_append_grow (P:=P) w t ty e i z ht hi hz ⟨g,0,none⟩ n cap xs hown.1 holds a m c news hl hnews zo zo (growslice_fits zo hbytes);rw [h2] at hr;cases hr;rfl
def aP {α:Type} (k:Nat) (R:Bl->World->List Value->α->Prop) (S:Bl) (w:World) (css:List (List Value)) (l:List α):Prop :=
 css.length=l.length/\∀ i (h:i<css.length) (h':i<l.length),css[i].length=k/\R S w css[i] l[i]
section
variable {α:Type} {R:Bl->World->List Value->α->Prop} {S S':Bl} {css css':List (List Value)} {l l':List α}
theorem aP.nil:aP k R S w [] []:=⟨rfl,λi h=>absurd h (Nat.not_lt_zero i)⟩
theorem aP.one {cs:List Value} {x:α} (hk:cs.length=k) (h:R S w cs x):aP k R S w [cs] [x]:=⟨rfl,λi h1 h2=>by
 obtain rfl:i=0:=by simpa using h1
 exact ⟨hk,h⟩⟩
theorem aP.append (h:aP k R S w css l) (h':aP k R S w css' l'):aP k R S w (css++css') (l++l'):=by
 refine ⟨by rw [List.length_append,List.length_append,h.1,h'.1],λi h1 h2=>?_⟩
 by_cases hi:i<css.length
 ·have:=h.2 i hi zph;rw [List.getElem_append_left hi,List.getElem_append_left zph];exact this
 ·have he:=h.1;rw [List.getElem_append_right zo,List.getElem_append_right zo];have h3:=h'.2 (i - css.length) (by simp at h1;omega) (by simp at h2;omega);refine ⟨h3.1,?_⟩;have h4:i - l.length=i - css.length:=zo;simp only [h4];exact h3.2
theorem aP.same (hR:bI R) (h:aP k R S w css l) (m:bC S w w'):aP k R S w' css l:=⟨h.1,λi h1 h2=>⟨(h.2 i h1 h2).1,hR _ _ _ _ _ (h.2 i h1 h2).2 m⟩⟩
theorem aP.weak (hR:bW R) (h:aP k R S w css l) (hS:∀ b,b<w.heap.size->S b->S' b):aP k R S' w css l:=⟨h.1,λi h1 h2=>⟨(h.2 i h1 h2).1,hR _ _ _ _ _ (h.2 i h1 h2).2 hS⟩⟩
theorem aP.flat (h:aP k R S w css l):css.flatten.length=l.length*k:=by
 rw [<- h.1];have:∀ (c:List (List Value)),(∀ i (h:i<c.length),c[i].length=k)->c.flatten.length=c.length*k:=by
  intro c
  induction c with
  | nil=>simp
  | cons x r ih =>
   intro hc;have h0:=hc 0 zk;have h1:=ih (λi hi=>by have:=hc (i+1) zql;simpa using this);rw [List.flatten_cons,List.length_append,h1,List.length_cons,Nat.add_mul];simp only [List.getElem_cons_zero] at h0;omega
 exact this css λi hi=>(h.2 i hi zph).1
end
theorem jD {css:List (List Value)} (hk:∀ i (h:i<css.length),css[i].length=k):∀ (i j:Nat) (hi:i<css.length),j<k->css.flatten[i*k+j]?=(css[i])[j]?:=by
 induction css with
 | nil=>intro i j hi;simp at hi
 | cons x r ih =>
  intro i j hi hj;have h0:=hk 0 zk;simp only [List.getElem_cons_zero] at h0;cases i with
  | zero=>rw [List.flatten_cons,List.getElem?_append_left zo];simp
  | succ i =>
   rw [List.flatten_cons,List.getElem?_append_right (by rw [h0,Nat.add_mul];omega),h0,show (i+1)*k+j - k=i*k+j by rw [Nat.add_mul];omega];exact ih (λq hq=>by have:=hk (q+1) zpd;simpa using this) i j zql hj
def aH {α:Type} (base:Nat) (e:TypeId) (k:Nat) (R:Bl->World->List Value->α->Prop) (S:Bl) (v:Value) (l:List α) (w:World):Prop :=
 ∃ css,w.ownsRow base e k v l.length css.flatten/\aP k R (λb=>S b/\v.ownBlock≠some b) w css l
section
variable {α:Type} {R:Bl->World->List Value->α->Prop} {S S':Bl} {l l':List α}
theorem aH.nil:aH base e k R S (.slice none 0 0) ([]:List α) w:=⟨[],World.ownsRow_nil w base e k,aP.nil⟩
theorem aH.form (h:aH base e k R S v l w):∃ oa c,v=.slice oa l.length c:=by
 obtain ⟨css,h,_⟩:=h;exact eX h
theorem aH.lt (h:aH base e k R S v l w):∀ g,v.ownBlock=some g->base<=g/\g<w.heap.size:=by
 obtain ⟨css,h,_⟩:=h;exact h.lt
theorem aH.kept (hR:bI R) (h:aH base e k R S v l w) {F:List Nat} (m:Mod F w w') (h1:∀ b∈F,v.ownBlock≠some b) (h2:∀ b∈F,¬ S b):aH base e k R S v l w':=by
 obtain ⟨css,ho,he⟩:=h;refine ⟨css,?_,he.same hR (m.jM λb hb hs=>h2 b hb hs.1)⟩;refine ⟨ho.1,?_⟩;rcases ho.2 with h | ⟨g,cap,cur,hv,hb,hg,h3⟩
 ·exact .inl h
 ·refine .inr ⟨g,cap,cur,hv,hb,?_,h3⟩;rw [m.block g (ho.lt g (by rw [hv];rfl)).2 (λhm=>h1 g hm (by rw [hv];rfl))];exact hg
theorem aH.mod (hR:bI R) (h:aH base e k R S v l w) (m:Mod [] w w'):aH base e k R S v l w':=h.kept hR m zk zk
theorem aH.gW (hR:bI R) (h:aH base e k R S v l w) {F:List Nat} (m:Mod F w w') (h1:∀ b∈F,b<base) (h2:∀ b,S b->base<=b):aH base e k R S v l w' :=
 h.kept hR m (λb hb he=>by have:=(h.lt b he).1;have:=h1 b hb;omega) (λb hb hs=>by have:=h1 b hb;have:=h2 b hs;omega)
theorem aH.set (hR:bI R) (h:aH base e k R S v l w) {p:Addr} (hp:v.ownBlock≠some p.block) (hS:¬ S p.block) (u:Value):aH base e k R S v l (w.setCell p u):=by
 obtain ⟨css,ho,he⟩:=h;refine ⟨css,⟨ho.1,?_⟩,he.same hR (bC.set w (λhs=>hS hs.1) u)⟩;rcases ho.2 with h | ⟨g,cap,cur,hv,hb,hg,h3⟩
 ·exact .inl h
 ·refine .inr ⟨g,cap,cur,hv,hb,?_,h3⟩;rw [Below.heap_setCell w p u g (λhe=>hp (by rw [hv,<- he];rfl))];exact hg
theorem aH.made {b:Nat} {cs:Array Value} {css:List (List Value)} (hR:bW R) (hb:base<=b) (hB:Blk w b cs e) (hcs:cs.toList=css.flatten) (hE:aP k R S w css l) (hS:∀ x,x<w.heap.size->S x->x≠b) (hl:l.length<=maxLen) :
  aH base e k R S (.slice (some ⟨b,0,none⟩) l.length l.length) l w:=by
 have hf:=hE.flat;refine ⟨css,⟨hf,.inr ⟨b,l.length,cs,rfl,hb,hB,nR _,hl,?_,?_⟩⟩,hE.weak hR λx hx hs=>⟨hs,λhe=>hS x hx hs (by simpa [Value.ownBlock] using he.symm)⟩⟩
 ·rw [<- Array.length_toList,hcs];exact hf
 ·rw [hcs,<- hf];exact List.take_length
theorem aH.push (hR:bI R) (hW:bW R) {css':List (List Value)} (h:aH base e k R S v l w) (hE:aP k R (λb=>S b/\v.ownBlock≠some b) w css' l')
  (ho:∀ xs,w.ownsRow base e k v l.length xs->w'.ownsRow base e k v' (l.length+l'.length) (xs++css'.flatten)) (g:w.grownBy w' v.ownBlock) (hb:v'.ownBlock=v.ownBlock∨v'.ownBlock=some w.heap.size):aH base e k R S v' (l++l') w':=by
 obtain ⟨css,h1,h2⟩:=h;refine ⟨css++css',by rw [List.length_append,List.flatten_append];exact ho _ h1,?_⟩;have h3:=((h2.append hE).weak (S':=λb=>(S b/\v.ownBlock≠some b)/\b<w.heap.size) hW λb hb hs=>⟨hs,hb⟩)
 have h4:=h3.same hR (w':=w') λb hb hlt=>g.block b hlt (λhe=>hb.1.2 he.symm)
 refine h4.weak hW λb _ hs=>⟨hs.1.1,λhe=>?_⟩
 rcases hb with hb | hb
 ·exact hs.1.2 (hb ▸ he)
 ·rw [hb] at he;have:=hs.2;simp at he;omega
theorem aH.other {u:Value} (hR:bI R) (h:aH base e k R S v l w) (g:w.grownBy w' u.ownBlock) (h1:v.ownBlock=none∨v.ownBlock≠u.ownBlock) (h2:∀ b,u.ownBlock=some b->¬ S b):aH base e k R S v l w':=by
 obtain ⟨css,ho,he⟩:=h;exact ⟨css,ho.kept g h1,he.same hR λb hb hlt=>g.block b hlt λhx=>h2 b hx.symm hb.1⟩
theorem aH.ne {β:Type} {base' k':Nat} {e':TypeId} {R':Bl->World->List Value->β->Prop} {S':Bl} {u:Value} {l':List β} (h:aH base e k R S v l w) (h':aH base' e' k' R' S' u l' w) (hne:e≠e'):v.ownBlock=none∨v.ownBlock≠u.ownBlock:=by
 obtain ⟨_,h,_⟩:=h;obtain ⟨_,h',_⟩:=h';rcases h.2 with ⟨rfl,_⟩ | ⟨g,cap,cur,rfl,_,hg,_⟩
 ·exact .inl rfl
 ·rcases h'.2 with ⟨rfl,_⟩ | ⟨g',cap',cur',rfl,_,hg',_⟩
  ·exact .inr (by simp [Value.ownBlock])
  ·refine .inr λhe=>?_
   simp only [Value.ownBlock,Option.some.injEq] at he;subst he;rw [hg] at hg';cases hg';exact hne rfl
theorem aH.done (hk0:0<k) (hW:bW R) (h:aH base e k R S v l w) (hS:∀ b,b<w.heap.size->S b->S' b) (h1:∀ b,v.ownBlock=some b->S' b):az k R S' w v l:=by
 obtain ⟨css,ho,he⟩:=h;rcases ho.2 with ⟨rfl,hn⟩ | ⟨g,cap,cur,rfl,hb,hg,hc,hcm,hcs,ht⟩
 ·obtain rfl:=List.eq_nil_of_length_eq_zero hn;exact az.nil w
 ·refine ⟨_,cap,rfl,nT hc hcm,λi hi=>⟨_,rfl,h1 g rfl,css[i]'(by rw [he.1];exact hi),(he.2 i (by rw [he.1];exact hi) hi).1,λj hj=>?_,hW _ _ _ _ _ (he.2 i (by rw [he.1];exact hi) hi).2 λb hb hs=>hS b hb hs.1⟩⟩;rw [addr_add_add];have e1:(⟨g,0,Option.none⟩:Addr).add (i*k+j)=⟨g,i*k+j,Option.none⟩:=by unfold Addr.add;split <;> simp_all
  have hB:Blk w g cur e:=hg;rw [e1,hB.cell];have h5:=jD (css:=css) (λq hq=>(he.2 q hq (by have:=he.1;omega)).1) i j (by rw [he.1];exact hi) hj;rw [<- h5,<- ht,List.getElem?_take];have:i*k+j<l.length*k:=by
   have:(i+1)*k<=l.length*k:=Nat.mul_le_mul_right _ hi;rw [Nat.add_mul] at this;omega
  simp [this]
theorem aH.weak (hW:bW R) (h:aH base e k R S v l w) (hS:∀ b,b<w.heap.size->S b->S' b):aH base e k R S' v l w:=by
 obtain ⟨css,ho,he⟩:=h;exact ⟨css,ho,he.weak hW λb hb hs=>⟨hS b hb hs.1,hs.2⟩⟩
theorem aH.at (h:aH base e k R S v l w) (i:Nat) (hi:i<l.length):∃ g c cs,v=.slice (some ⟨g,0,none⟩) l.length c/\cs.length=k/\R (λb=>S b/\g≠b) w cs l[i]/\∀ j,j<k->w.cell? ⟨g,i*k+j,none⟩=cs[j]?:=by
 obtain ⟨css,ho,he⟩:=h;rcases ho.2 with ⟨rfl,hn⟩ | ⟨g,cap,cur,rfl,hb,hg,hc,hcm,hcs,ht⟩
 ·omega
 ·have hic:i<css.length:=by rw [he.1];exact hi
  refine ⟨g,cap,css[i],rfl,(he.2 i hic hi).1,?_,λj hj=>?_⟩
  ·have h2:=(he.2 i hic hi).2;simpa [Value.ownBlock] using h2
  ·have hB:Blk w g cur e:=hg;rw [hB.cell];have h5:=jD (css:=css) (λq hq=>(he.2 q hq (by have:=he.1;omega)).1) i j hic hj;rw [<- h5,<- ht,List.getElem?_take];have:i*k+j<l.length*k:=by
    have:(i+1)*k<=l.length*k:=Nat.mul_le_mul_right _ hi;rw [Nat.add_mul] at this;omega
   simp [this]
theorem aO {ops:Array Oper} {rest:List Oper} {o:Oper} {a:Act} {Q:Exit->Act->World->Prop} (hgd:o.guard=none) (s x:Operand) (t:TypeId)
  (ho:o.op=.call { callee:=.builtin .append,args:=#[s,x],argTypes:=#[t,t] })
  (i:TypeInfo) (z:Value) (bytes:Nat) (ht:P.underlying t=some (.slice e)) (hi:P.info? e=some i) (hz:i.zero=some z)
  (hsize:i.size=k) (hby:i.bytes=bytes) (hzs:z.cells.size=k) (hsz:0<k)
  (hR:bI R) (hW:bW R) (hs:a.eval s=v) (h:aH base e k R S v l w)
  (ad:Addr) (m c:Nat) (css':List (List Value)) (hx:a.eval x=.slice (some ad) m c) (hm:m=l'.length) (hE:aP k R (λb=>S b/\v.ownBlock≠some b) w css' l') (hnews:∀ j u,css'.flatten[j]?=some u->w.cell? (ad.add j)=some u) (h1:∀ u∈css'.flatten,u.oneCell'=true)
  (h63:l.length+m<=maxLen) (hbytes:(l.length+m)*bytes<=140737488355328) (hbase:base<=w.heap.size)
  (hK:∀ v' w',aH base e k R S v' (l++l') w'->w.grownBy w' v.ownBlock->(v'.ownBlock=v.ownBlock∨v'.ownBlock=some w.heap.size)->wpList P ops Q rest (a.put o.dst v') w'):wpList P ops Q (o::rest) a w:=by
 obtain ⟨css,hown,hE0⟩:=id h;have hl:css'.flatten.length=m*k:=by rw [hE.flat,hm]
 refine wpList_plain hgd λK hKK=>?_
 obtain ⟨v',w',hr,h2,h3,_⟩:=run_append_own (P:=P) w base t o.type e i z k bytes ht hi hz hsize hby hzs hsz v l.length css.flatten hown ad m c css'.flatten hl hnews h1 h63 hbytes hbase;have hbk:=fR (P:=P) t o.type e i z k bytes ht hi hz hsize hby hzs v l.length css.flatten hown ad m c css'.flatten hl hnews h1 h63 hbytes hr;have hg:aH base e k R S v' (l++l') w':=by
  refine h.push hR hW (css':=css') hE (λxs hxs=>?_) h3 hbk;have:xs=css.flatten:=by
   rcases hown.2 with ⟨rfl,hn⟩ | ⟨g,cap,cur,rfl,_,hg,_,_,_,hq⟩
   ·have h5:=hxs.1;have h6:=hown.1;rw [hn] at h5 h6;have h7:xs=[]:=List.eq_nil_of_length_eq_zero (by simpa using h5);have h8:css.flatten=[]:=List.eq_nil_of_length_eq_zero (by rw [h6];simp);rw [h7,h8]
   ·rcases hxs.2 with ⟨hv,_⟩ | ⟨g',cap',cur',hv,_,hg',_,_,_,hq'⟩
    ·cases hv
    ·cases hv;rw [hg] at hg';cases hg';rw [<- hq,<- hq']
  rw [this,<- hm];exact h2
 unfold Oper.wp execOp;simp only [ho,resolve,invoke,builtin,Sem.run_bind,Sem.run_pure,Result.andThen_ok,List.map_toArray,List.map_cons,List.map_nil,hs,hx,hr];exact hKK _ _ (hK v' w' hg h3 hbk)
end
end
theorem gN:(Tryz.prog.info? 3).map (λi=>(i.zero,i.size,i.bytes))=some (some (.int .i64 0),1,8):=by kernel_rfl
theorem Dh:(Tryz.prog.info? 48).map (λi=>(i.zero,i.size,i.bytes))=some (some (.agg #[.int .i64 0,.int .i64 0]),2,16):=by kernel_rfl
theorem yT:(Tryz.prog.info? 97).map (λi=>(i.zero,i.size,i.bytes))=some (some (.agg #[.int .i64 0,.int .i64 0,.bool false]),3,24):=by kernel_rfl
theorem Bp:(Tryz.prog.info? 69).map (λi=>(i.zero,i.size,i.bytes))=some (some (.agg #[.int .i64 0,.int .i64 0,.int .i64 0]),3,24):=by kernel_rfl
theorem wm:(Tryz.prog.info? 145).map (λi=>(i.zero,i.size,i.bytes))=some (some (.agg #[.int .i64 0,.int .i64 0,.int .i64 0,.int .i64 0]),4,32):=by kernel_rfl
theorem yV:(Tryz.prog.info? 147).map (λi=>(i.zero,i.size,i.bytes))=some (some (.agg #[.int .i64 0,.int .i64 0,.int .i64 0,.int .i64 0]),4,32):=by kernel_rfl
theorem tq:(Tryz.prog.info? 37).map (λi=>(i.zero,i.size,i.bytes))=some (some (.agg #[.int .i64 0,.int .i64 0]),2,16):=by kernel_rfl
theorem Bq:(Tryz.prog.info? 51).map (λi=>(i.zero,i.size,i.bytes))=some (some (.agg #[.int .i64 0,.int .i64 0]),2,16):=by kernel_rfl
theorem td:(Tryz.prog.info? 81).map (λi=>(i.zero,i.size,i.bytes))=some (some (.agg #[.int .i64 0,.int .i64 0,.int .i64 0]),3,24):=by kernel_rfl
theorem tu:(Tryz.prog.info? 76).map (λi=>(i.zero,i.size,i.bytes))=some (some (.agg #[.string ByteArray.empty,.int .i64 0,.int .i64 0,.int .i64 0]),4,40):=by kernel_rfl
theorem pr:(Tryz.prog.info? 79).map (λi=>(i.zero,i.size,i.bytes))=some (some (.agg #[.slice none 0 0]),1,24):=by kernel_rfl
theorem j0:(Tryz.prog.info? 22).map (λi=>(i.zero,i.size,i.bytes))=some (some (.slice none 0 0),1,24):=by kernel_rfl
theorem tn:(Tryz.prog.info? 44).map (λi=>(i.zero,i.size,i.bytes))=some (some (.slice none 0 0),1,24):=by kernel_rfl
theorem tj:(Tryz.prog.info? 54).map (λi=>(i.zero,i.size,i.bytes))=some (some (.agg #[.slice none 0 0,.slice none 0 0,.slice none 0 0,.slice none 0 0,.slice none 0 0,.int .i64 0]),6,128):=by kernel_rfl
theorem pu:(Tryz.prog.info? 57).map (λi=>(i.zero,i.size,i.bytes))=some (some (.agg #[.int .i64 0,.bool false,.slice none 0 0]),3,40):=by kernel_rfl
theorem mU:(Tryz.prog.info? 88).map (λi=>(i.zero,i.size,i.bytes))=some (some (.agg #[.string ByteArray.empty,.slice none 0 0]),2,40):=by kernel_rfl
theorem yU:(Tryz.prog.info? 46).map (λi=>(i.zero,i.size,i.bytes))=some (some (.agg #[.string ByteArray.empty,.int .i64 0,.bool false,.slice none 0 0,.slice none 0 0,.slice none 0 0,.slice none 0 0,.slice none 0 0,.slice none 0 0]),9,176):=by kernel_rfl
namespace Mk
structure S where
 r:List Int
 lp:Int
abbrev M (α:Type):=S->α×S
def next (n:Int) (s:S):Int×S:=match s.r with | []=>(0,s) | x::r=>(x % n,⟨r,s.lp⟩)
def rep {α:Type} (n:Nat) (f:Nat->α->M α) (a:α) (s:S):α×S:=match n with | 0=>(a,s) | n+1=>f n (rep n f a s).1 (rep n f a s).2
theorem sM {α:Type} (f:Nat->α->M α) (a:α) (s:S):rep 0 f a s=(a,s):=rfl
theorem sN {α:Type} (n:Nat) (f:Nat->α->M α) (a:α) (s:S):rep (n+1) f a s=f n (rep n f a s).1 (rep n f a s).2:=rfl
def bind {α β:Type} (x:α×S) (f:α->M β):β×S:=f x.1 x.2
def point (p:Nat) (s:S):bV×S :=
 bind (next 21 s) λx s=>bind (next 21 s) λy s=>if p=0 then (⟨x*50 - 100,y*50 - 200,true⟩,s) else bind (next 4 s) λz s=>(⟨x*50 - 100,y*50 - 200,decide (0<z)⟩,s)
def contour (o:dm) (s:S):dm×S :=
 bind (next 4 s) λk s=>bind (rep (2+k).toNat (λp l s=>bind (point p s) λd s=>(l++[d],s)) o.pts s) λpts s=>(⟨pts,o.ends++[(pts.length:Int) - 1]⟩,s)
def outline (s:S):dm×S:=bind (next 3 s) λn s=>rep n.toNat (λ_ o s=>contour o s) ⟨[],[]⟩ s
def rest (q:Int):List bS:=[⟨39,0⟩,⟨1,16⟩,⟨17,0⟩,⟨36,2⟩,⟨1,q⟩,⟨2,0⟩]
def dI (p q a funcs c:Int) (s:S):List bS×S :=
 if c=0 then ([⟨22,a⟩,⟨23,a⟩],s) else if c=1 then bind (next 6 s) λv s=>([⟨24,v⟩],s)
 else if c=2 then ([⟨1,p⟩,⟨1,p⟩,⟨29,0⟩,⟨15,0⟩,⟨32,0⟩],s)
 else if c=3 then ([⟨1,p⟩,⟨1,p⟩,⟨29,0⟩,⟨15,0⟩,⟨32,0⟩],s)
 else if c=4 then bind (next 200 s) λv s=>([⟨1,p⟩,⟨1,v - 100⟩,⟨31,0⟩],s)
 else if c=5 then ([⟨1,p⟩,⟨1,q⟩,⟨33,0⟩],s)
 else if c=6 then ([⟨34,a⟩],s)
 else if c=7 then ([⟨1,a⟩,⟨1,q⟩,⟨25,0⟩,⟨1,3⟩,⟨5,0⟩,⟨26,0⟩],s)
 else if c=8 then (if 0<funcs then bind (next funcs s) λv s=>([⟨37,v⟩],s) else (rest q,s))
 else if c=9 then (if 0<funcs/\0<s.lp then bind (next 5 ⟨s.r,s.lp - 1⟩) λv s=>bind (next funcs s) λu s=>([⟨1,v⟩,⟨38,u⟩],s) else (rest q,s))
 else if c=10 then ([⟨1,p⟩,⟨30,0⟩,⟨1,q⟩,⟨29,0⟩,⟨16,0⟩,⟨36,3⟩,⟨1,q⟩,⟨1,64⟩,⟨31,0⟩],s)
 else (rest q,s)
def piece (n funcs:Int) (s:S):List bS×S :=
 bind (next (n+1) s) λp s=>bind (next (n+1) s) λq s=>bind (next 2 s) λa s=>bind (next 12 s) λc s=>dI p q a funcs c s
def hint (n funcs most:Int) (s:S):List bS×S:=bind (next most s) λk s=>rep k.toNat (λ_ l s=>bind (piece n funcs s) λx s=>(l++x,s)) [] s
def nJ (n:Int):Nat->Int->List Int->S->List Int×S
 | 0,_,l,s=>(l,s)
 | f+1,i,l,s=>if i<n/\l.length<4 then bind (next 3 s) λz s=>nJ n f (i+1) (if z=0 then l++[i] else l) s else (l,s)
def set (n:Int) (s:S):List Int×S:=bind (next n s) λa s=>nJ n (n - 1 - a).toNat (a+1) [a] s
def row (n most:Int) (s:S):List (List Int)×S:=bind (next (most+1) s) λk s=>rep k.toNat (λ_ l s=>bind (set n s) λx s=>(l++[x],s)) [] s
def nexts (n:Int) (k:Nat) (s:S):List Int×S:=rep k (λ_ l s=>bind (next n s) λx s=>(l++[x],s)) [] s
def rule (n kind:Int) (calls:List Int) (s:S):aN×S :=
 bind (set n s) λa s =>
 if kind=6 then bind (set n s) λb s=>bind (next 41 s) λx s=>(⟨[],[a,b],[],[],[],x*10 - 200⟩,s)
 else bind (next 2 s) λz s=>bind (if z=0 then row n 2 s else ([],s)) λback s=>bind (if z=0 then row n 2 s else ([],s)) λahead s =>
 if kind=1∨kind=5 then bind (nexts n a.length s) λout s=>(⟨back,[a],ahead,out,[],0⟩,s)
 else if kind=2 then bind (next 4 s) λk s=>bind (nexts n k.toNat s) λout s=>(⟨back,[a],ahead,out,[],0⟩,s)
 else if kind=3 then bind (row n 2 s) λmore s=>bind (next n s) λx s=>(⟨back,a::more,ahead,[x],[],0⟩,s)
 else bind (row n 2 s) λmore s=>bind (next 3 s) λk s =>
  bind (if calls.length=0 then ([],s) else rep k.toNat (λ_ l s=>bind (next ((a::more).length:Int) s) λp s=>bind (next (calls.length:Int) s) λq s=>(l++[(⟨p,calls.getD q.toNat 0⟩:dY)],s)) [] s) λcs s =>
  (⟨back,a::more,ahead,[],cs,0⟩,s)
def kinds:List Int:=[1,2,3,4,4,5,6,7,8,1]
def lookups1 (s:S):(List ar×List Int)×S :=
 bind (next 7 s) λn s=>rep n.toNat (λi l s=>bind (next 10 s) λk s=>bind (next 3 s) λz s =>
  ((l.1++[⟨kinds.getD k.toNat 0,decide (z=0),[]⟩],if kinds.getD k.toNat 0<=4 then l.2++[(i:Int)] else l.2),s)) ([],[]) s
def lookups (n:Int) (s:S):List ar×S :=
 bind (lookups1 s) λlc s=>rep lc.1.length (λi l s=>match lc.1[i]? with
  | none=>(l,s)
  | some d=>if 7<=d.kind then (l++[d],s) else bind (next 3 s) λk s=>bind (rep (1+k).toNat (λ_ rs s=>bind (rule n d.kind lc.2 s) λx s=>(rs++[x],s)) [] s) λrs s=>(l++[⟨d.kind,d.ignore,rs⟩],s)) [] s
def letter (n:Nat):ByteArray:=⟨#[UInt8.ofNat (97+n)]⟩
def gname (n:Nat):ByteArray:=(⟨#[103]⟩:ByteArray)++letter n
def anchors (mark:Bool) (s:S):List bh×S :=
 bind (next 2 s) λc s=>rep 5 (λi l s=>bind (next 3 s) λz s =>
  let k:Int×Int:=[(1,0),(1,1),(3,0),(4,0),(2,c)].getD i (0,0)
  if z=0/\(k.1≠2∨mark=true) then bind (next 21 s) λx s=>bind (next 21 s) λy s=>(l++[⟨k.1,k.2,x*50,y*50 - 200⟩],s) else (l,s)) [] s
def deltas (regions pts:Nat) (s:S):List co×S :=
 rep regions (λr l s=>rep (pts+1) (λp l s=>bind (next 3 s) λz s=>if z=0 then bind (next 41 s) λx s =>
  (if p=0 then (l++[⟨r,-1,x - 20,0⟩],s) else bind (next 41 s) λy s=>(l++[⟨r,(p:Int) - 1,x - 20,y - 20⟩],s)) else (l,s)) l s) [] s
def kG (s:S):List cK×S:=bind (next 9 s) λx s=>bind (next 5 s) λy s=>([(⟨1,x*50 - 200,y*50⟩:cK)],s)
def parts (n:Nat) (s:S):List cK×S:=if 1<n then bind (next 4 s) λz s=>(if z=0 then kG s else ([],s)) else ([],s)
def glyph (n regions funcs:Nat) (s:S):av×S :=
 bind (next 19 s) λadv s=>bind (next 4 s) λmk s=>bind (outline s) λo s=>bind (parts n s) λparts s =>
 let mark:=decide (n≠0) && decide (mk=0)
 bind (anchors mark s) λan s=>bind (deltas regions o.pts.length s) λde s=>bind (hint o.pts.length funcs 6 ⟨s.r,2⟩) λh s =>
 (⟨if n=0 then (⟨#[46,110,111,116,100,101,102]⟩:ByteArray) else gname n,100+adv*50,mark,o.pts,o.ends,parts,an,de,h⟩,s)
def axes (k:Nat) (s:S):List bB×S:=rep k (λi l s=>bind (next 3 s) λa s=>bind (next 4 s) λb s=>(l++[⟨(⟨#[97,120]⟩:ByteArray)++letter i,0 - a*100,0,b*100⟩],s)) [] s
def tents:List gv:=[⟨0,64,64⟩,⟨0,32,64⟩,⟨-64,-64,0⟩,⟨-1,0,5⟩,⟨10,32,50⟩]
def region (k:Nat) (s:S):bv×S:=bind (rep k (λ_ l s=>bind (next 5 s) λt s=>(l++[tents.getD t.toNat ⟨0,0,0⟩],s)) [] s) λl s=>(⟨l⟩,s)
def regions (k:Nat) (s:S):List bv×S:=if 0<k then bind (next 4 s) λn s=>rep n.toNat (λ_ l s=>bind (region k s) λx s=>(l++[x],s)) [] s else ([],s)
def funcs (k:Nat) (s:S):List (List bS)×S:=rep k (λi l s=>bind (hint 6 i 4 ⟨s.r,0⟩) λh s=>(l++[h],s)) [] s
def cvt (k:Nat) (s:S):List Int×S:=rep k (λ_ l s=>bind (next 500 s) λx s=>(l++[x - 100],s)) [] s
def runes:List Int:=[97,98,99,102,105,108,0xe001,0xe002,0xe101,0xe102,0xe103,0xe201,0xe205,0xe301,0xe302,0xe401]
def chars (n:Int) (s:S):List dc×S:=rep 16 (λi l s=>bind (next 4 s) λz s=>if 0<z then bind (next n s) λg s=>(l++[⟨runes.getD i 0,g⟩],s) else (l,s)) [] s
def names:List ByteArray:=[(⟨#[108,105,103,97]⟩:ByteArray),(⟨#[105,115,111,108]⟩:ByteArray),(⟨#[105,110,105,116]⟩:ByteArray),(⟨#[109,101,100,105]⟩:ByteArray),(⟨#[102,105,110,97]⟩:ByteArray),(⟨#[107,101,114,110]⟩:ByteArray),(⟨#[109,97,114,107]⟩:ByteArray),(⟨#[99,97,108,116]⟩:ByteArray)]
def features (n:Nat) (s:S):List aA×S :=
 rep 8 (λi l s=>bind (rep n (λk row s=>bind (next 3 s) λz s=>(if z=0 then row++[(k:Int)] else row,s)) [] s) λrow s=>bind (next 2 s) λz s =>
  (if z=0 then l++[⟨names.getD i ByteArray.empty,row⟩] else l,s)) [] s
def units:List Int:=[1000,1024,100,2048]
def made (l:List Int):aD :=
 (bind (next 4 ⟨l,0⟩) λu s=>bind (next 3 s) λk s=>bind (axes k.toNat s) λax s=>bind (regions k.toNat s) λrg s=>bind (next 3 s) λkf s=>bind (funcs kf.toNat s) λfn s =>
  bind (next 4 s) λkc s=>bind (cvt kc.toNat s) λcv s=>bind (next 9 s) λkg s =>
  bind (rep (2+kg).toNat (λi l s=>bind (glyph i rg.length fn.length s) λg s=>(l++[g],s)) [] s) λgl s =>
  bind (chars gl.length s) λch s=>bind (lookups gl.length s) λlk s=>bind (features lk.length s) λft s =>
  (⟨units.getD u.toNat 0,gl,ch,lk,ft,ax,rg,fn,cv⟩,s)).1
end Mk
end Go.Proofs.YthheaflbbficgaaGreat
