/- GrowCat, LessC, LessS, LessL. -/
import Derived.Test.YthheaflbbficgaaGreatGBase
import Derived.Test.YthheaflbbficgaaGreatGRul
import Derived.Test.YthheaflbbficgaaGreatGCf
import Derived.Test.YthheaflbbficgaaGreatGCp
import Derived.Test.YthheaflbbficgaaGreatGMr
import Derived.Test.YthheaflbbficgaaGreatGMade
import Derived.Test.YthheaflbbficgaaGreatGRf
set_option linter.all false
namespace Go.Proofs.YthheaflbbficgaaGreat
open Go.RowKit
theorem az.zM {α:Type} {k:Nat} {R:Bl->World->List Value->α->Prop} {S:Bl} {w:World} {a:Addr} {n c:Nat} {l:List α} (hk:0<k) (h:az k R S w (.slice (some a) n c) l) :
  ∃ css,aP k R S w css l/\∀ j u,css.flatten[j]?=some u->w.cell? (a.add j)=some u:=by
 have key:∀ i:Fin l.length,∃ cs:List Value,cs.length=k/\R S w cs l[i]/\∀ j,j<k->w.cell? ((a.add (i*k)).add j)=cs[j]?:=λi=>by
  obtain ⟨oa,cap,e,_,h3⟩:=h;cases e;obtain ⟨a',he,_,cs,h5,h6,hR⟩:=h3 i.1 i.2;cases he;exact ⟨cs,h5,hR,h6⟩
 have hE:aP k R S w (List.ofFn λi=>(key i).choose) l:=⟨by simp,λi h1 h2=>by
  rw [List.getElem_ofFn]
  exact ⟨(key ⟨i,h2⟩).choose_spec.1,(key ⟨i,h2⟩).choose_spec.2.1⟩⟩
 refine ⟨_,hE,λj u hu=>?_⟩;have hl:=hE.flat;have hj:j<l.length*k:=by rw [<- hl];exact (gI.1 hu).1
 have hi:j / k<l.length:=(Nat.div_lt_iff_lt_mul hk).2 hj;have hr:j % k<k:=Nat.mod_lt _ hk;have e:j / k*k+j % k=j:=by rw [Nat.mul_comm];exact Nat.div_add_mod j k
 have h5:=jD (css:=List.ofFn λi=>(key i).choose) (λq hq=>(hE.2 q hq zpd).1) (j / k) (j % k) zql hr;rw [e,hu,List.getElem_ofFn] at h5;have h6:=(key ⟨j / k,hi⟩).choose_spec.2.2 (j % k) hr;rw [<- h5,addr_add_add,e] at h6;exact h6
def pR {α:Type} (R:Bl->World->List Value->α->Prop):Prop:=∀ S w cs x,R S w cs x->∀ u∈cs,u.oneCell'=true
theorem pR.elems {α:Type} {k:Nat} {R:Bl->World->List Value->α->Prop} {S:Bl} {w:World} {css:List (List Value)} {l:List α} (h1:pR R) (h:aP k R S w css l):∀ u∈css.flatten,u.oneCell'=true:=by
 intro u hu;obtain ⟨cs,hcs,hu⟩:=List.mem_flatten.1 hu;obtain ⟨i,hi,rfl⟩:=List.getElem_of_mem hcs;exact h1 _ _ _ _ (h.2 i hi zph).2 u hu
section
variable {P:Program} {α:Type} {base k:Nat} {e t ty:TypeId} {R:Bl->World->List Value->α->Prop} {S:Bl} {l l':List α} {v x:Value} {w:World} {i:TypeInfo} {z:Value} {bytes:Nat} {S':Bl}
theorem oK (ht:P.underlying t=some (.slice e)) (hi:P.info? e=some i) (hz:i.zero=some z) (hsize:i.size=k) (hby:i.bytes=bytes) (hzs:z.cells.size=k) (hsz:0<k) (hR:bI R) (hW:bW R) (h1:pR R)
  (h:aH base e k R S v l w) (hx:az k R S' w x l') (hcv:∀ cs y,R S' w cs y->R (λb=>S b/\v.ownBlock≠some b) w cs y) (h63:l.length+l'.length<=maxLen) (hbytes:(l.length+l'.length)*bytes<=140737488355328) (hbase:base<=w.heap.size) :
  ∃ v' w',(Builtin.append_ #[t,t] ty #[v,x]).run P w=.ok v' w'/\aH base e k R S v' (l++l') w'/\w.grownBy w' v.ownBlock/\(v'.ownBlock=v.ownBlock∨v'.ownBlock=some w.heap.size):=by
 obtain ⟨oa,c,rfl,-⟩:=hx.form;cases oa with
 | none =>
  have e1:=hx.lw;subst e1;have hrun:(Builtin.append_ #[t,t] ty #[v,.slice none ([]:List α).length c]).run P w=.ok v w:=by
   obtain ⟨css,hown,_⟩:=h;rcases hown.2 with ⟨rfl,hn⟩ | ⟨g,cap,cur,rfl,_,_,hc,_⟩
   ·simp [Builtin.append_,run_underlying ht,sizeOf,typeInfo,hi,Builtin.lenOf,Builtin.firstCells]
   ·simp [Builtin.append_,run_underlying ht,sizeOf,typeInfo,hi,Builtin.lenOf,Builtin.firstCells,hc,storeCells]
  exact ⟨v,w,hrun,by rw [List.append_nil];exact h,⟨rfl,rfl,rfl,nR _,λ_ _ _=>rfl⟩,.inl rfl⟩
 | some ad =>
  obtain ⟨css',hE',hnews⟩:=hx.zM hsz;have hE:aP k R (λb=>S b/\v.ownBlock≠some b) w css' l':=⟨hE'.1,λq h2 h3=>⟨(hE'.2 q h2 h3).1,hcv _ _ (hE'.2 q h2 h3).2⟩⟩
  obtain ⟨css,hown,hE0⟩:=id h;have hl:css'.flatten.length=l'.length*k:=hE.flat;have h1':=h1.elems hE;obtain ⟨v',w',hr,h2,h3,_⟩:=run_append_own (P:=P) w base t ty e i z k bytes ht hi hz hsize hby hzs hsz v l.length css.flatten hown ad l'.length c css'.flatten hl hnews h1' h63 hbytes hbase;have hbk:=fR (P:=P) t ty e i z k bytes ht hi hz hsize hby hzs v l.length css.flatten hown ad l'.length c css'.flatten hl hnews h1' h63 hbytes hr;refine ⟨v',w',hr,?_,h3,hbk⟩;refine h.push hR hW (css':=css') hE (λxs hxs=>?_) h3 hbk;have:xs=css.flatten:=by
   rcases hown.2 with ⟨rfl,hn⟩ | ⟨g,cap,cur,rfl,_,hg,_,_,_,hq⟩
   ·have h5:=hxs.1;have h6:=hown.1;rw [hn] at h5 h6;have h7:xs=[]:=List.eq_nil_of_length_eq_zero (by simpa using h5);have h8:css.flatten=[]:=List.eq_nil_of_length_eq_zero (by rw [h6];simp);rw [h7,h8]
   ·rcases hxs.2 with ⟨hv,_⟩ | ⟨g',cap',cur',hv,_,hg',_,_,_,hq'⟩
    ·cases hv
    ·cases hv;rw [hg] at hg';cases hg';rw [<- hq,<- hq']
  rw [this];exact h2
def kI (base:Nat) (e:TypeId) (k:Nat) (R:Bl->World->List Value->α->Prop) (S:Bl) (b0:Nat) (l':List α) (v:Value) (w:World):Prop :=
 if l'=[] then v=.slice (some ⟨b0,0,none⟩) 0 0 else aH base e k R S v l' w
theorem kI.grow {b0:Nat} (h:kI base e k R S b0 l' v w) (hb:base<=b0) (hB:Blk w b0 #[] e):aH base e k R S v l' w:=by
 unfold kI at h
 split at h
 ·rename_i hn;rw [h,hn];exact ⟨[],⟨by simp,.inr ⟨b0,0,#[],rfl,hb,hB,nR _,Nat.zero_le _,by simp,by simp⟩⟩,aP.nil⟩
 ·exact h
theorem BN (ht:P.underlying t=some (.slice e)) (hi:P.info? e=some i) (hz:i.zero=some z) (hsize:i.size=k) (hby:i.bytes=bytes) (hzs:z.cells.size=k) (hsz:0<k) (hR:bI R) (hW:bW R) (h1:pR R)
  (b0:Nat) (hx:az k R S' w x l') (hcv:∀ cs y,R S' w cs y->R (λb=>S b/\(Value.slice none 0 0).ownBlock≠some b) w cs y) (h63:l'.length<=maxLen) (hbytes:l'.length*bytes<=140737488355328) (hbase:base<=w.heap.size) :
  ∃ v' w',(Builtin.append_ #[t,t] ty #[.slice (some ⟨b0,0,none⟩) 0 0,x]).run P w=.ok v' w'/\kI base e k R S b0 l' v' w'/\Mod [] w w':=by
 by_cases hn:l'=[]
 ·subst hn;obtain ⟨oa,c,rfl,-⟩:=hx.form;refine ⟨.slice (some ⟨b0,0,none⟩) 0 0,w,?_,by unfold kI;rw [if_pos rfl],mR⟩;cases oa <;> simp [Builtin.append_,run_underlying ht,sizeOf,typeInfo,hi,Builtin.lenOf,Builtin.firstCells,storeCells,loadCells,loadCellsFrom]
 ·obtain ⟨v',w',hr,hG,hg,-⟩:=oK (P:=P) (ty:=ty) ht hi hz hsize hby hzs hsz hR hW h1 (aH.nil (base:=base) (e:=e) (k:=k) (R:=R) (S:=S) (w:=w)) hx (λcs y hy=>hcv cs y hy) (by simpa using h63) (by simpa using hbytes) hbase;refine ⟨v',w',?_,by unfold kI;rw [if_neg hn];simpa using hG,⟨hg.os,hg.tape,hg.output,hg.size,λq hq _=>hg.block q hq (by simp [Value.ownBlock])⟩⟩;obtain ⟨oa,c,rfl,-⟩:=hx.form;cases oa with
  | none=>exact absurd hx.lw hn
  | some ad =>
   obtain ⟨css',hE,hnews⟩:=hx.zM hsz;have hl0:0<l'.length:=List.length_pos_iff.2 hn;have hl:css'.flatten.length=l'.length*i.size:=by rw [hsize];exact hE.flat
   have h2:=run_append_nil (P:=P) w t ty e i z ht hi hz ad l'.length c css'.flatten hl hnews hl0 (by simp only [maxLen] at h63;omega) (by rw [hby];omega);have h3:=run_append_grow (P:=P) w t ty e i z ht hi hz ⟨b0,0,none⟩ 0 0 [] zk zk ad l'.length c css'.flatten hl hnews zo (by simp only [maxLen] at h63;omega) (by rw [hby,Nat.zero_add];exact growslice_fits zo hbytes);rw [h3,Nat.zero_add];rw [h2] at hr;simpa using hr
theorem tN {ops:Array Oper} {rest:List Oper} {o:Oper} {a:Act} {Q:Exit->Act->World->Prop} (hgd:o.guard=none) (s y:Operand)
  (ho:o.op=.call { callee:=.builtin .append,args:=#[s,y],argTypes:=#[t,t] })
  (ht:P.underlying t=some (.slice e)) (hi:P.info? e=some i) (hz:i.zero=some z) (hsize:i.size=k) (hby:i.bytes=bytes) (hzs:z.cells.size=k) (hsz:0<k) (hR:bI R) (hW:bW R) (h1:pR R)
  (hs:a.eval s=v) (h:aH base e k R S v l w) (hy:a.eval y=x) (hx:az k R S' w x l') (hcv:∀ cs y,R S' w cs y->R (λb=>S b/\v.ownBlock≠some b) w cs y) (h63:l.length+l'.length<=maxLen) (hbytes:(l.length+l'.length)*bytes<=140737488355328) (hbase:base<=w.heap.size)
  (hK:∀ v' w',aH base e k R S v' (l++l') w'->w.grownBy w' v.ownBlock->(v'.ownBlock=v.ownBlock∨v'.ownBlock=some w.heap.size)->wpList P ops Q rest (a.put o.dst v') w'):wpList P ops Q (o::rest) a w:=by
 obtain ⟨v',w',hr,h2,h3,h4⟩:=oK (ty:=o.type) ht hi hz hsize hby hzs hsz hR hW h1 h hx hcv h63 hbytes hbase;refine wpList_plain hgd λK hKK=>?_
 unfold Oper.wp execOp;simp only [ho,resolve,invoke,builtin,Sem.run_bind,Sem.run_pure,Result.andThen_ok,List.map_toArray,List.map_cons,List.map_nil,hs,hy,hr];exact hKK _ _ (hK v' w' h2 h3 h4)
theorem sU {o:Oper} {a:Act} {K:Act->World->Prop} {Q:Exit->Act->World->Prop} (hgd:o.guard=none) (s y:Operand)
  (ho:o.op=.call { callee:=.builtin .append,args:=#[s,y],argTypes:=#[t,t] })
  (ht:P.underlying t=some (.slice e)) (hi:P.info? e=some i) (hz:i.zero=some z) (hsize:i.size=k) (hby:i.bytes=bytes) (hzs:z.cells.size=k) (hsz:0<k) (hR:bI R) (hW:bW R) (h1:pR R)
  (hs:a.eval s=v) (h:aH base e k R S v l w) (hy:a.eval y=x) (hx:az k R S' w x l') (hcv:∀ cs y,R S' w cs y->R (λb=>S b/\v.ownBlock≠some b) w cs y) (h63:l.length+l'.length<=maxLen) (hbytes:(l.length+l'.length)*bytes<=140737488355328) (hbase:base<=w.heap.size)
  (hK:∀ v' w',aH base e k R S v' (l++l') w'->w.grownBy w' v.ownBlock->(v'.ownBlock=v.ownBlock∨v'.ownBlock=some w.heap.size)->K (a.put o.dst v') w'):o.wp P a w K Q:=by
 obtain ⟨v',w',hr,h2,h3,h4⟩:=oK (ty:=o.type) ht hi hz hsize hby hzs hsz hR hW h1 h hx hcv h63 hbytes hbase;unfold Oper.wp execOp;simp only [ho,resolve,invoke,builtin,Sem.run_bind,Sem.run_pure,Result.andThen_ok,List.map_toArray,List.map_cons,List.map_nil,hs,hy,hr];exact hK v' w' h2 h3 h4
theorem qA {o:Oper} {a:Act} {K:Act->World->Prop} {Q:Exit->Act->World->Prop} (hgd:o.guard=none) (s y:Operand)
  (ho:o.op=.call { callee:=.builtin .append,args:=#[s,y],argTypes:=#[t,t] })
  (ht:P.underlying t=some (.slice e)) (hi:P.info? e=some i) (hz:i.zero=some z) (hsize:i.size=k) (hby:i.bytes=bytes) (hzs:z.cells.size=k) (hsz:0<k) (hR:bI R) (hW:bW R) (h1:pR R)
  (b0:Nat) (hs:a.eval s=.slice (some ⟨b0,0,none⟩) 0 0) (hy:a.eval y=x) (hx:az k R S' w x l') (hcv:∀ cs y,R S' w cs y->R (λb=>S b/\(Value.slice none 0 0).ownBlock≠some b) w cs y) (h63:l'.length<=maxLen) (hbytes:l'.length*bytes<=140737488355328) (hbase:base<=w.heap.size)
  (hK:∀ v' w',kI base e k R S b0 l' v' w'->Mod [] w w'->K (a.put o.dst v') w'):o.wp P a w K Q:=by
 obtain ⟨v',w',hr,h2,h3⟩:=BN (ty:=o.type) ht hi hz hsize hby hzs hsz hR hW h1 b0 hx hcv h63 hbytes hbase;unfold Oper.wp execOp;simp only [ho,resolve,invoke,builtin,Sem.run_bind,Sem.run_pure,Result.andThen_ok,List.map_toArray,List.map_cons,List.map_nil,hs,hy,hr];exact hK v' w' h2 h3
end
set_option maxRecDepth 100000
theorem Ag (oa:Option Addr) (n cap:Nat) (hc:n<=cap) (hc1:cap<=maxLen) (w:World):Calls Tryz.prog 8 #[.slice oa n cap] w λe w'=>e=.returned (.slice oa (min n 600) cap)/\Mod [] w w':=by
 have hml:maxLen=9223372036854775807:=rfl;have HM:=Hi (Mod.refl [] w)
 by_cases h:n<=600
 ·obtain ⟨m,hm⟩:∃ m,m=min n 600:=⟨_,rfl⟩
  have e:n=m:=zo;rw [<- hm];have k1:=dF (p:=(600:Int)<n) zo;have k2:=dF (p:=600<n) zo;have HE:=Hi e;clear e hm h hc hc1 hml;go_enter Tryz.func8,Tryz.ntmps8;go_wp2;go_ret;exact ⟨by first | rfl | (rw [<- HE.o];rfl),HM.o⟩
 ·have e:min n 600=600:=zo;rw [e];have k1:=dT (p:=(600:Int)<n) zo;have k2:=dT (p:=600<n) zo;have b2:(600:Int)<=cap:=zo;have b3:600<=cap:=zo;clear e h hc hc1 hml;go_enter Tryz.func8,Tryz.ntmps8;go_wp2;go_ret;exact ⟨rfl,HM.o⟩
structure DP (P:Bl->World->Prop):Prop where
 stay:∀ S w w',P S w->bC S w w'->P S w'
 weak:∀ S S' w,P S w->(∀ b,b<w.heap.size->S b->S' b)->P S' w
section
variable {W w w':World} {P P':Bl->World->Prop} {B:Nat} {bx:List (Nat×Array Value×TypeId)}
end
theorem aH.blk {α:Type} {base k:Nat} {e:TypeId} {R:Bl->World->List Value->α->Prop} {S:Bl} {v:Value} {l:List α} {w:World} (h:aH base e k R S v l w) (hl:l≠[]) :
  ∃ g c cur css,v=.slice (some ⟨g,0,none⟩) l.length c/\base<=g/\l.length<=maxLen/\l.length*k<=cur.size/\Blk w g cur e/\aP k R (λb=>S b/\b≠g) w css l/\∀ i j,i<l.length->j<k->cur[i*k+j]?=(css.getD i [])[j]?:=by
 obtain ⟨css,ho,he⟩:=h;rcases ho.2 with ⟨rfl,hn⟩ | ⟨g,cap,cur,rfl,hb,hg,hc,hcm,hcs,ht⟩
 ·exact absurd (List.eq_nil_of_length_eq_zero hn) hl
 ·refine ⟨g,cap,cur,css,rfl,hb,nT hc hcm,by rw [hcs];exact Nat.mul_le_mul_right _ hc,hg,?_,λi j hi hj=>?_⟩
  ·have e1:(λb=>S b/\(Value.slice (some ⟨g,0,none⟩) l.length cap).ownBlock≠some b)=λb=>S b/\b≠g:=by
    funext b
    simp only [Value.ownBlock,ne_eq,Option.some.injEq];rw [eq_iff_iff];exact ⟨λh=>⟨h.1,λh2=>h.2 h2.symm⟩,λh=>⟨h.1,λh2=>h.2 h2.symm⟩⟩
   rw [e1] at he;exact he
  ·have hic:i<css.length:=by rw [he.1];exact hi
   have h5:=jD (css:=css) (λq hq=>(he.2 q hq (by have:=he.1;omega)).1) i j hic hj;rw [List.getD_eq_getElem?_getD,gE hic,Option.getD_some,<- h5,<- ht,List.getElem?_take];have:i*k+j<l.length*k:=by
    have:(i+1)*k<=l.length*k:=Nat.mul_le_mul_right _ hi;rw [Nat.add_mul] at this;omega
   simp [this]
theorem az.EG {α:Type} {k:Nat} {e:TypeId} {R:Bl->World->List Value->α->Prop} {S:Bl} {g c:Nat} {cur:Array Value} {l:List α} {w:World} (hB:Blk w g cur e) (hl:l.length<=maxLen) (hS:S g) (css:List (List Value))
  (hE:aP k R S w css l) (hc:∀ i j,i<l.length->j<k->cur[i*k+j]?=(css.getD i [])[j]?):az k R S w (.slice (some ⟨g,0,none⟩) l.length c) l:=by
 refine ⟨_,c,rfl,hl,λi hi=>⟨_,rfl,hS,css.getD i [],?_,λj hj=>?_,?_⟩⟩
 ·have hic:i<css.length:=by rw [hE.1];exact hi
  rw [List.getD_eq_getElem?_getD,gE hic];exact (hE.2 i hic hi).1
 ·rw [addr_add_add];have e1:(⟨g,0,Option.none⟩:Addr).add (i*k+j)=⟨g,i*k+j,Option.none⟩:=by unfold Addr.add;split <;> simp_all
  rw [e1,hB.cell];exact hc i j hi hj
 ·have hic:i<css.length:=by rw [hE.1];exact hi
  rw [List.getD_eq_getElem?_getD,gE hic];exact (hE.2 i hic hi).2
theorem az.one {α:Type} {k:Nat} {e:TypeId} {R:Bl->World->List Value->α->Prop} {S:Bl} {b c:Nat} {cs:List Value} {x:α} {w:World} (hB:Blk w b cs.toArray e) (hk:cs.length=k) (hS:S b) (hR:R S w cs x):az k R S w (.slice (some ⟨b,0,none⟩) 1 c) [x] :=
 az.EG (l:=[x]) hB (by show 1<=maxLen;decide) hS [cs] ⟨rfl,λi h1 h2=>by obtain rfl:i=0:=(by simpa using h1);exact ⟨hk,hR⟩⟩ λi j hi hj=>by obtain rfl:i=0:=(by simpa using hi);simp
theorem kw.unit {S:Bl} {w:World} {cs:List Value} {F:aD} (h:kw S w cs F):I64 F.unit:=by
 obtain ⟨_,_,_,_,_,_,_,_,_,hu,_⟩:=h;exact hu
def kX (B:Nat) (t:TypeId) (n:Nat) (cs:Array Value) (v:Value) (w:World):Prop:=∃ b,v=.slice (some ⟨b,0,none⟩) n n/\Blk w b cs t/\B<=b
theorem kX.stays {B:Nat} {t:TypeId} {n:Nat} {cs:Array Value} (v:Value):aG (kX B t n cs v):=λw w' ⟨b,h0,h1,h2⟩ m=>⟨b,h0,h1.kept m zk,h2⟩
def im {α:Type} (base:Nat) (e:TypeId) (k:Nat) (R:Bl->World->List Value->α->Prop) (S:Bl) (l:List α) (n:Nat) (v:Value) (w:World):Prop:=(∃ o c,v=.slice o n c)/\aH base e k R S v l w
theorem im.stays {α:Type} {base:Nat} {e:TypeId} {k:Nat} {R:Bl->World->List Value->α->Prop} {S:Bl} {l:List α} {n:Nat} (hR:bI R) (v:Value):aG (im base e k R S l n v):=λw w' h m=>⟨h.1,h.2.mod hR m⟩
theorem im.elim {α:Type} {base:Nat} {e:TypeId} {k:Nat} {R:Bl->World->List Value->α->Prop} {S:Bl} {l:List α} {n:Nat} {v:Value} {w:World} {p:Prop} (h:im base e k R S l n v w) (hK:∀ o c,v=.slice o n c->aH base e k R S v l w->p):p:=let ⟨⟨o,c,h0⟩,h1⟩:=h;hK o c h0 h1
theorem vU:pR bc:=by
 intro S w cs x ⟨v2,hc,_,h1⟩ u hu;rw [hc] at hu;simp only [List.mem_cons,List.not_mem_nil,or_false] at hu;rcases hu with rfl | rfl | rfl
 ·rfl
 ·rfl
 ·exact lR h1
section
variable {B n:Nat} {v:Value} {W:World} {p:Prop}
end
end Go.Proofs.YthheaflbbficgaaGreat
