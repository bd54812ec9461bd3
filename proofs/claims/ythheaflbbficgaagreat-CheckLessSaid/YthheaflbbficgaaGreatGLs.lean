/- GrowCat, LessC, LessS, LessL, LessW, LessX. -/
import Derived.Test.YthheaflbbficgaaGreatGBase
import Derived.Test.YthheaflbbficgaaGreatGRul
import Derived.Test.YthheaflbbficgaaGreatGCf
import Derived.Test.YthheaflbbficgaaGreatGCp
import Derived.Test.YthheaflbbficgaaGreatGMr
import Derived.Test.YthheaflbbficgaaGreatGMade
import Derived.Test.YthheaflbbficgaaGreatGRf
import Derived.Test.YthheaflbbficgaaGreatGRing
import Derived.Test.YthheaflbbficgaaGreatGAw
import Derived.Deep.CutBlock
import Derived.ProofKit
import Derived.OpenShut
import Derived.Lib.SmallJoins
set_option linter.all false
namespace Go.Proofs.YthheaflbbficgaaGreat
open Go.RowKit
theorem SRows.elemsK {α:Type} {k:Nat} {R:Bl->World->List Value->α->Prop} {S:Bl} {w:World} {a:Addr} {n c:Nat} {l:List α} (hk:0<k) (h:SRows k R S w (.slice (some a) n c) l) :
  ∃ css,Elems k R S w css l/\∀ j u,css.flatten[j]?=some u->w.cell? (a.add j)=some u:=by
 have key:∀ i:Fin l.length,∃ cs:List Value,cs.length=k/\R S w cs l[i]/\∀ j,j<k->w.cell? ((a.add (i*k)).add j)=cs[j]?:=fun i=>by
  obtain ⟨oa,cap,e,_,h3⟩:=h;cases e;obtain ⟨a',he,_,cs,h5,h6,hR⟩:=h3 i.1 i.2;cases he;exact ⟨cs,h5,hR,h6⟩
 have hE:Elems k R S w (List.ofFn fun i=>(key i).choose) l:=⟨by simp,fun i h1 h2=>by
  rw [List.getElem_ofFn]
  exact ⟨(key ⟨i,h2⟩).choose_spec.1,(key ⟨i,h2⟩).choose_spec.2.1⟩⟩
 refine ⟨_,hE,fun j u hu=>?_⟩;have hl:=hE.flat;have hj:j<l.length*k:=by rw [<- hl];exact (gI.1 hu).1
 have hi:j / k<l.length:=(Nat.div_lt_iff_lt_mul hk).2 hj;have hr:j % k<k:=Nat.mod_lt _ hk;have e:j / k*k+j % k=j:=by rw [Nat.mul_comm];exact Nat.div_add_mod j k
 have h5:=flatten_at (css:=List.ofFn fun i=>(key i).choose) (fun q hq=>(hE.2 q hq (by simpa using hq)).1) (j / k) (j % k) (by simpa using hi) hr;rw [e,hu,List.getElem_ofFn] at h5;have h6:=(key ⟨j / k,hi⟩).choose_spec.2.2 (j % k) hr;rw [<- h5,addr_add_add,e] at h6;exact h6
def OneK {α:Type} (R:Bl->World->List Value->α->Prop):Prop:=∀ S w cs x,R S w cs x->∀ u∈cs,u.oneCell'=true
theorem OneK.elems {α:Type} {k:Nat} {R:Bl->World->List Value->α->Prop} {S:Bl} {w:World} {css:List (List Value)} {l:List α} (h1:OneK R) (h:Elems k R S w css l):∀ u∈css.flatten,u.oneCell'=true:=by
 intro u hu;obtain ⟨cs,hcs,hu⟩:=List.mem_flatten.1 hu;obtain ⟨i,hi,rfl⟩:=List.getElem_of_mem hcs;exact h1 _ _ _ _ (h.2 i hi (by have:=h.1;omega)).2 u hu
section
variable {P:Program} {α:Type} {base k:Nat} {e t ty:TypeId} {R:Bl->World->List Value->α->Prop} {S:Bl} {l l':List α} {v x:Value} {w:World} {i:TypeInfo} {z:Value} {bytes:Nat} {S':Bl}
theorem grow_cat (ht:P.underlying t=some (.slice e)) (hi:P.info? e=some i) (hz:i.zero=some z) (hsize:i.size=k) (hby:i.bytes=bytes) (hzs:z.cells.size=k) (hsz:0<k) (hR:SStay R) (hW:SWeak R) (h1:OneK R)
  (h:Grow base e k R S v l w) (hx:SRows k R S' w x l') (hcv:∀ cs y,R S' w cs y->R (fun b=>S b/\v.ownBlock≠some b) w cs y) (h63:l.length+l'.length<=maxLen) (hbytes:(l.length+l'.length)*bytes<=140737488355328) (hbase:base<=w.heap.size) :
  ∃ v' w',(Builtin.append_ #[t,t] ty #[v,x]).run P w=.ok v' w'/\Grow base e k R S v' (l++l') w'/\w.grownBy w' v.ownBlock/\(v'.ownBlock=v.ownBlock∨v'.ownBlock=some w.heap.size):=by
 obtain ⟨oa,c,rfl,-⟩:=hx.form;cases oa with
 | none =>
  have e1:=hx.none_nil;subst e1;have hrun:(Builtin.append_ #[t,t] ty #[v,.slice none ([]:List α).length c]).run P w=.ok v w:=by
   obtain ⟨css,hown,_⟩:=h;rcases hown.2 with ⟨rfl,hn⟩ | ⟨g,cap,cur,rfl,_,_,hc,_⟩
   ·simp [Builtin.append_,run_underlying ht,sizeOf,typeInfo,hi,Builtin.lenOf,Builtin.firstCells]
   ·simp [Builtin.append_,run_underlying ht,sizeOf,typeInfo,hi,Builtin.lenOf,Builtin.firstCells,hc,storeCells]
  exact ⟨v,w,hrun,by rw [List.append_nil];exact h,⟨rfl,rfl,rfl,nR _,fun _ _ _=>rfl⟩,.inl rfl⟩
 | some ad =>
  obtain ⟨css',hE',hnews⟩:=hx.elemsK hsz;have hE:Elems k R (fun b=>S b/\v.ownBlock≠some b) w css' l':=⟨hE'.1,fun q h2 h3=>⟨(hE'.2 q h2 h3).1,hcv _ _ (hE'.2 q h2 h3).2⟩⟩
  obtain ⟨css,hown,hE0⟩:=id h;have hl:css'.flatten.length=l'.length*k:=hE.flat;have h1':=h1.elems hE;obtain ⟨v',w',hr,h2,h3,_⟩:=run_append_own (P:=P) w base t ty e i z k bytes ht hi hz hsize hby hzs hsz v l.length css.flatten hown ad l'.length c css'.flatten hl hnews h1' h63 hbytes hbase;have hbk:=append_block (P:=P) t ty e i z k bytes ht hi hz hsize hby hzs v l.length css.flatten hown ad l'.length c css'.flatten hl hnews h1' h63 hbytes hr;refine ⟨v',w',hr,?_,h3,hbk⟩;refine h.push hR hW (css':=css') hE (fun xs hxs=>?_) h3 hbk;have:xs=css.flatten:=by
   rcases hown.2 with ⟨rfl,hn⟩ | ⟨g,cap,cur,rfl,_,hg,_,_,_,hq⟩
   ·have h5:=hxs.1;have h6:=hown.1;rw [hn] at h5 h6;have h7:xs=[]:=List.eq_nil_of_length_eq_zero (by simpa using h5);have h8:css.flatten=[]:=List.eq_nil_of_length_eq_zero (by rw [h6];simp);rw [h7,h8]
   ·rcases hxs.2 with ⟨hv,_⟩ | ⟨g',cap',cur',hv,_,hg',_,_,_,hq'⟩
    ·cases hv
    ·cases hv;rw [hg] at hg';cases hg';rw [<- hq,<- hq']
  rw [this];exact h2
def Copied (base:Nat) (e:TypeId) (k:Nat) (R:Bl->World->List Value->α->Prop) (S:Bl) (b0:Nat) (l':List α) (v:Value) (w:World):Prop :=
 if l'=[] then v=.slice (some ⟨b0,0,none⟩) 0 0 else Grow base e k R S v l' w
theorem Copied.grow {b0:Nat} (h:Copied base e k R S b0 l' v w) (hb:base<=b0) (hB:Blk w b0 #[] e):Grow base e k R S v l' w:=by
 unfold Copied at h
 split at h
 ·rename_i hn;rw [h,hn];exact ⟨[],⟨by simp,.inr ⟨b0,0,#[],rfl,hb,hB,nR _,Nat.zero_le _,by simp,by simp⟩⟩,Elems.nil⟩
 ·exact h
theorem copy_run (ht:P.underlying t=some (.slice e)) (hi:P.info? e=some i) (hz:i.zero=some z) (hsize:i.size=k) (hby:i.bytes=bytes) (hzs:z.cells.size=k) (hsz:0<k) (hR:SStay R) (hW:SWeak R) (h1:OneK R)
  (b0:Nat) (hx:SRows k R S' w x l') (hcv:∀ cs y,R S' w cs y->R (fun b=>S b/\(Value.slice none 0 0).ownBlock≠some b) w cs y) (h63:l'.length<=maxLen) (hbytes:l'.length*bytes<=140737488355328) (hbase:base<=w.heap.size) :
  ∃ v' w',(Builtin.append_ #[t,t] ty #[.slice (some ⟨b0,0,none⟩) 0 0,x]).run P w=.ok v' w'/\Copied base e k R S b0 l' v' w'/\Mod [] w w':=by
 by_cases hn:l'=[]
 ·subst hn;obtain ⟨oa,c,rfl,-⟩:=hx.form;refine ⟨.slice (some ⟨b0,0,none⟩) 0 0,w,?_,by unfold Copied;rw [if_pos rfl],mR⟩;cases oa <;> simp [Builtin.append_,run_underlying ht,sizeOf,typeInfo,hi,Builtin.lenOf,Builtin.firstCells,storeCells,loadCells,loadCellsFrom]
 ·obtain ⟨v',w',hr,hG,hg,-⟩:=grow_cat (P:=P) (ty:=ty) ht hi hz hsize hby hzs hsz hR hW h1 (Grow.nil (base:=base) (e:=e) (k:=k) (R:=R) (S:=S) (w:=w)) hx (fun cs y hy=>hcv cs y hy) (by simpa using h63) (by simpa using hbytes) hbase;refine ⟨v',w',?_,by unfold Copied;rw [if_neg hn];simpa using hG,⟨hg.os,hg.tape,hg.output,hg.size,fun q hq _=>hg.block q hq (by simp [Value.ownBlock])⟩⟩;obtain ⟨oa,c,rfl,-⟩:=hx.form;cases oa with
  | none=>exact absurd hx.none_nil hn
  | some ad =>
   obtain ⟨css',hE,hnews⟩:=hx.elemsK hsz;have hl0:0<l'.length:=List.length_pos_iff.2 hn;have hl:css'.flatten.length=l'.length*i.size:=by rw [hsize];exact hE.flat
   have h2:=run_append_nil (P:=P) w t ty e i z ht hi hz ad l'.length c css'.flatten hl hnews hl0 (by simp only [maxLen] at h63;omega) (by rw [hby];omega);have h3:=run_append_grow (P:=P) w t ty e i z ht hi hz ⟨b0,0,none⟩ 0 0 [] (by simp) (by simp) ad l'.length c css'.flatten hl hnews (by omega) (by simp only [maxLen] at h63;omega) (by rw [hby,Nat.zero_add];exact growslice_fits (by omega) hbytes);rw [h3,Nat.zero_add];rw [h2] at hr;simpa using hr
theorem oper_cat {o:Oper} {a:Act} {K:Act->World->Prop} {Q:Exit->Act->World->Prop} (hgd:o.guard=none) (s y:Operand)
  (ho:o.op=.call { callee:=.builtin .append,args:=#[s,y],argTypes:=#[t,t] })
  (ht:P.underlying t=some (.slice e)) (hi:P.info? e=some i) (hz:i.zero=some z) (hsize:i.size=k) (hby:i.bytes=bytes) (hzs:z.cells.size=k) (hsz:0<k) (hR:SStay R) (hW:SWeak R) (h1:OneK R)
  (hs:a.eval s=v) (h:Grow base e k R S v l w) (hy:a.eval y=x) (hx:SRows k R S' w x l') (hcv:∀ cs y,R S' w cs y->R (fun b=>S b/\v.ownBlock≠some b) w cs y) (h63:l.length+l'.length<=maxLen) (hbytes:(l.length+l'.length)*bytes<=140737488355328) (hbase:base<=w.heap.size)
  (hK:∀ v' w',Grow base e k R S v' (l++l') w'->w.grownBy w' v.ownBlock->(v'.ownBlock=v.ownBlock∨v'.ownBlock=some w.heap.size)->K (a.put o.dst v') w'):o.wp P a w K Q:=by
 obtain ⟨v',w',hr,h2,h3,h4⟩:=grow_cat (ty:=o.type) ht hi hz hsize hby hzs hsz hR hW h1 h hx hcv h63 hbytes hbase;unfold Oper.wp execOp;simp only [ho,resolve,invoke,builtin,Sem.run_bind,Sem.run_pure,Result.andThen_ok,List.map_toArray,List.map_cons,List.map_nil,hs,hy,hr];exact hK v' w' h2 h3 h4
theorem oper_copy {o:Oper} {a:Act} {K:Act->World->Prop} {Q:Exit->Act->World->Prop} (hgd:o.guard=none) (s y:Operand)
  (ho:o.op=.call { callee:=.builtin .append,args:=#[s,y],argTypes:=#[t,t] })
  (ht:P.underlying t=some (.slice e)) (hi:P.info? e=some i) (hz:i.zero=some z) (hsize:i.size=k) (hby:i.bytes=bytes) (hzs:z.cells.size=k) (hsz:0<k) (hR:SStay R) (hW:SWeak R) (h1:OneK R)
  (b0:Nat) (hs:a.eval s=.slice (some ⟨b0,0,none⟩) 0 0) (hy:a.eval y=x) (hx:SRows k R S' w x l') (hcv:∀ cs y,R S' w cs y->R (fun b=>S b/\(Value.slice none 0 0).ownBlock≠some b) w cs y) (h63:l'.length<=maxLen) (hbytes:l'.length*bytes<=140737488355328) (hbase:base<=w.heap.size)
  (hK:∀ v' w',Copied base e k R S b0 l' v' w'->Mod [] w w'->K (a.put o.dst v') w'):o.wp P a w K Q:=by
 obtain ⟨v',w',hr,h2,h3⟩:=copy_run (ty:=o.type) ht hi hz hsize hby hzs hsz hR hW h1 b0 hx hcv h63 hbytes hbase;unfold Oper.wp execOp;simp only [ho,resolve,invoke,builtin,Sem.run_bind,Sem.run_pure,Result.andThen_ok,List.map_toArray,List.map_cons,List.map_nil,hs,hy,hr];exact hK v' w' h2 h3
theorem wpList_copy {ops:Array Oper} {rest:List Oper} {o:Oper} {a:Act} {Q:Exit->Act->World->Prop} (hgd:o.guard=none) (s y:Operand)
  (ho:o.op=.call { callee:=.builtin .append,args:=#[s,y],argTypes:=#[t,t] })
  (ht:P.underlying t=some (.slice e)) (hi:P.info? e=some i) (hz:i.zero=some z) (hsize:i.size=k) (hby:i.bytes=bytes) (hzs:z.cells.size=k) (hsz:0<k) (hR:SStay R) (hW:SWeak R) (h1:OneK R)
  (b0:Nat) (hs:a.eval s=.slice (some ⟨b0,0,none⟩) 0 0) (hy:a.eval y=x) (hx:SRows k R S' w x l') (hcv:∀ cs y,R S' w cs y->R (fun b=>S b/\(Value.slice none 0 0).ownBlock≠some b) w cs y) (h63:l'.length<=maxLen) (hbytes:l'.length*bytes<=140737488355328) (hbase:base<=w.heap.size)
  (hK:∀ v' w',Copied base e k R S b0 l' v' w'->Mod [] w w'->wpList P ops Q rest (a.put o.dst v') w'):wpList P ops Q (o::rest) a w:=by
 obtain ⟨v',w',hr,h2,h3⟩:=copy_run (ty:=o.type) ht hi hz hsize hby hzs hsz hR hW h1 b0 hx hcv h63 hbytes hbase;refine wpList_plain hgd fun K hKK=>?_
 unfold Oper.wp execOp;simp only [ho,resolve,invoke,builtin,Sem.run_bind,Sem.run_pure,Result.andThen_ok,List.map_toArray,List.map_cons,List.map_nil,hs,hy,hr];exact hKK _ _ (hK v' w' h2 h3)
end
set_option maxRecDepth 100000
theorem seed_any (oa:Option Addr) (n cap:Nat) (hc:n<=cap) (hc1:cap<=maxLen) (w:World):Calls Tryz.prog 8 #[.slice oa n cap] w fun e w'=>e=.returned (.slice oa (min n 600) cap)/\Mod [] w w':=by
 have hml:maxLen=9223372036854775807:=rfl;have HM:=Hi (Mod.refl [] w)
 by_cases h:n<=600
 ·obtain ⟨m,hm⟩:∃ m,m=min n 600:=⟨_,rfl⟩
  have e:n=m:=by omega
  rw [<- hm];have k1:decide ((600:Int)<(n:Int))=false:=dF (by omega);have k2:decide (600<n)=false:=dF (by omega);have HE:=Hi e;clear e hm h hc hc1 hml;go_enter Tryz.func8,Tryz.ntmps8;go_wp2;go_ret;exact ⟨by first | rfl | (rw [<- HE.out];rfl),HM.out⟩
 ·have e:min n 600=600:=by omega
  rw [e];have k1:decide ((600:Int)<(n:Int))=true:=dT (by omega);have k2:decide (600<n)=true:=dT (by omega);have b2:(600:Int)<=(cap:Int):=by omega
  have b3:600<=cap:=by omega
  clear e h hc hc1 hml;go_enter Tryz.func8,Tryz.ntmps8;go_wp2;go_ret;exact ⟨rfl,HM.out⟩
theorem rest_any (x n:Int) (hx:I64 x) (h0:0<n) (h1:n<=1000) (w:World):Calls Tryz.prog 9 #[.int .i64 x,.int .i64 n] w fun e w'=>e=.returned (.int .i64 (x % n))/\Mod [] w w':=by
 have HM:=Hi (Mod.refl [] w);have t1:=tmod_range x n h0;have t2:=tmod_twice x n h0;have e1:IntKind.i64.wrap (x.tmod n)=x.tmod n:=IntWalk.i64_in _ (by omega);have e2:IntKind.i64.wrap (x.tmod n+n)=x.tmod n+n:=IntWalk.i64_in _ (by omega);have e3:IntKind.i64.wrap ((x.tmod n+n).tmod n)=x % n:=by rw [t2];exact IntWalk.i64_in _ (by have:=Int.emod_nonneg x (by omega:n≠0);have:=Int.emod_lt_of_pos x h0;omega)
 have HT:=Hi t2;have hn0:(n == 0)=false:=by simp;omega
 have hn1:n≠0:=by omega
 clear t1 t2 hx h1;go_enter Tryz.func9,Tryz.ntmps9;go_wp2;go_ret;exact ⟨by rw [<- HT.out];rfl,HM.out⟩
theorem right_of {F:DFont} (h:Mr.FR F) {S:Bl} {fg fc fl ff fx fr fn fv:Hd} {w:World} (hS:SFont S w (fontCells F.unit fg fc fl ff fx fr fn fv).toList F) :
  Calls Tryz.prog 10 #[.agg (fontCells F.unit fg fc fl ff fx fr fn fv)] w fun e w'=>e=.returned (.bool true)/\Mod [] w w':=by
 have hR:∀ W,Mod [] w W->Calls Tryz.prog 18 #[.agg (fontCells F.unit fg fc fl ff fx fr fn fv)] W fun e w'=>e=.returned (.tuple #[.int .i64 ((0,0):Ck.Got).1,.int .i64 (((0,0):Ck.Got).2:Int)])/\Mod [] W w':=fun W m=>by
  obtain ⟨-,h1,h2,h3,h4,h5,h6,h7,h8⟩:=(SFont.stay _ _ _ _ _ hS (m.same0 _)).hds;have o1:=h1.old (B:=0) (by decide) SGlyph.old fun _ _ _=>Nat.zero_le _
  have hc:=fun W' (m':Mod [] W W')=>composed_any F.unit fg fc fl ff fx fr fn fv F.glyphs 0 W' (o1.mod RGlyph.stay m') (by have:=h.gll;omega) (fun x hx=>by have:=(h.gl x hx).parl;omega) (fun L hL=>Cp.full_of_lower hL h.lower)
   (fun x hx p hp=>by
    obtain ⟨i,hi⟩:=List.mem_iff_getElem?.1 hx;have hl:=(gI.1 hi).1;rcases h.low i x hi with e | ⟨h9,a,b,e⟩
    ·rw [e] at hp;cases hp
    ·rw [e] at hp;rw [mI.1 hp];unfold isIn;rw [dT (by simp only;omega),dT (by simp only;omega)];rfl)
   (Mr.D F.glyphs) (Mr.Q F.glyphs) (Mr.own F.glyphs) h.eqs (fun g x hx=>by unfold Mr.own;rw [hx]) (fun g=>nT (h.D_le g) (by decide)) (fun g=>nT (h.Q_le g) (by decide)) (fun g=>nT (h.own_le g) (by decide))
  rw [h.comp] at hc;have hf:=font_any W o1 (h2.old (B:=0) (by decide) SChar.old fun _ _ _=>Nat.zero_le _) (h3.old (B:=0) (by decide) SLookup.old fun _ _ _=>Nat.zero_le _) (h4.old (B:=0) (by decide) SFeature.old fun _ _ _=>Nat.zero_le _) (h5.old (B:=0) (by decide) SAxis.old fun _ _ _=>Nat.zero_le _) (h6.old (B:=0) (by decide) SRegion.old fun _ _ _=>Nat.zero_le _) (h7.old (B:=0) (by decide) SCode.old fun _ _ _=>Nat.zero_le _) (h8.old (B:=0) (by decide) SInt.old fun _ _ _=>Nat.zero_le _) (u:=F.unit) (fc:=fc) (ff:=ff) (fn:=fn) (fv:=fv) hc;rw [h.looks h1.n h3.n h5.n h6.n] at hf;exact hf
 exact Right_any F.unit fg fc fl ff fx fr fn fv (0,0) w hR
structure DP (P:Bl->World->Prop):Prop where
 stay:∀ S w w',P S w->SameB S w w'->P S w'
 weak:∀ S S' w,P S w->(∀ b,b<w.heap.size->S b->S' b)->P S' w
theorem DP.rows {α:Type} {k:Nat} {R:Bl->World->List Value->α->Prop} (hk:0<k) (h1:SStay R) (h2:SWeak R) (v:Value) (l:List α):DP fun S w=>SRows k R S w v l :=
 ⟨fun _ _ _ h m=>h.same h1 m,fun _ _ _ h m=>h.weak hk h2 m⟩
theorem DP.font (cs:List Value) (F:DFont):DP fun S w=>SFont S w cs F:=⟨fun _ _ _ h m=>SFont.stay _ _ _ _ _ h m,fun _ _ _ h m=>SFont.weak _ _ _ _ _ h m⟩
theorem DP.elems {α:Type} {k:Nat} {R:Bl->World->List Value->α->Prop} (h1:SStay R) (h2:SWeak R) (css:List (List Value)) (l:List α):DP fun S w=>Elems k R S w css l :=
 ⟨fun _ _ _ h m=>h.same h1 m,fun _ _ _ h m=>h.weak h2 m⟩
theorem DP.and {P Q:Bl->World->Prop} (h:DP P) (h':DP Q):DP fun S w=>P S w/\Q S w:=⟨fun _ _ _ h1 m=>⟨h.stay _ _ _ h1.1 m,h'.stay _ _ _ h1.2 m⟩,fun _ _ _ h1 m=>⟨h.weak _ _ _ h1.1 m,h'.weak _ _ _ h1.2 m⟩⟩
def LEB (B:Nat) (bx:List (Nat×Array Value×TypeId)):Bl:=fun b=>b<B/\b ∉ bx.map (·.1)
structure LE (W:World) (P:Bl->World->Prop) (B:Nat) (bx:List (Nat×Array Value×TypeId)) (w:World):Prop where
 data:P (LEB B bx) w
 own:Own W w bx
 size:B<=w.heap.size
section
variable {W w w':World} {P P':Bl->World->Prop} {B:Nat} {bx:List (Nat×Array Value×TypeId)}
theorem LE.call (hP:DP P) (h:LE W P B bx w) (m:Mod [] w w'):LE W P B bx w':=⟨hP.stay _ _ _ h.data (m.same0 _),h.own.call m,nT h.size m.size⟩
theorem LE.new (hP:DP P) (h:LE W P B bx w) (m:Mod [] w w') {b:Nat} {cs:Array Value} {t:TypeId} (hb:w.heap.size<=b) (hB:Blk w' b cs t):LE W P B (bx++[(b,cs,t)]) w':=by
 have h1:=h.call hP m;refine ⟨hP.weak _ _ _ h1.data fun x _ hx=>⟨hx.1,?_⟩,h.own.new m hb hB,h1.size⟩;rw [List.map_append,List.mem_append];rintro (hm | hm)
 ·exact hx.2 hm
 ·have:=mI.1 hm;have:=hx.1;have:=h.size;simp only at *
  omega
theorem LE.box (hP:DP P) (h:LE W P B bx w) (cs:Array Value) (t:TypeId):LE W P B (bx++[(w.heap.size,cs,t)]) (w.alloc (.cells cs t)):=h.new hP (mR.alloc _) (nR _) (Blk.new _ _ _)
theorem LE.set (hP:DP P) (h:LE W P B bx w) (k:Nat) {b:Nat} {cs:Array Value} {t:TypeId} (hk:bx[k]?=some (b,cs,t)) (i:Nat) (v:Value):LE W P B (bx.set k (b,cs.setIfInBounds i v,t)) (w.setCell ⟨b,i,none⟩ v):=by
 have e:(bx.set k (b,cs.setIfInBounds i v,t)).map (·.1)=bx.map (·.1):=by
  rw [List.map_set];apply List.ext_getElem?;intro j;rw [List.getElem?_set]
  split
  ·rename_i hj;subst hj;have hl:=(gI.1 hk).1;have he:=(gI.1 hk).2;simp [hl,he]
  ·rfl
 have eL:LEB B (bx.set k (b,cs.setIfInBounds i v,t))=LEB B bx:=by unfold LEB;rw [e]
 refine ⟨?_,h.own.set k hk i v,by simpa using h.size⟩;rw [eL];exact hP.stay _ _ _ h.data (SameB.set w (fun hs=>hs.2 (mM (f:=(·.1)) (List.mem_of_getElem? hk))) v)
theorem LE.grew (hP:DP P) (h:LE W P B bx w) {row:Option Nat} {base:Nat} (g:w.grownBy w' row) (hr:∀ b,row=some b->base<=b) (hB:B<=base) (hl:∀ p∈bx,p.1<base) (hW:W.heap.size<=base):LE W P B bx w' :=
 ⟨hP.stay _ _ _ h.data (SameB.grown g fun b hb hs=>by have:=hr b hb;have:=hs.1;omega),h.own.grown g hr hW hl,nT h.size g.size⟩
theorem LE.more (hP:DP P) (hP':DP P') (h:LE W P B bx w) (h':P' (LEB w.heap.size bx) w):LE W (fun S w=>P S w/\P' S w) w.heap.size bx w :=
 ⟨⟨hP.weak _ _ _ h.data fun b hb hs=>⟨hb,hs.2⟩,h'⟩,h.own,nR _⟩
theorem LE.up (hP:DP P) (h:LE W P B bx w):LE W P w.heap.size bx w:=⟨hP.weak _ _ _ h.data fun b hb hs=>⟨hb,hs.2⟩,h.own,nR _⟩
theorem LE.to (hP:DP P) (h:LE W P B bx w) (hPP:∀ S w,P S w->P' S w):LE W P' B bx w:=⟨hPP _ _ h.data,h.own,h.size⟩
theorem LE.drop (hP:DP P) {x:Nat×Array Value×TypeId} (h:LE W P B (bx++[x]) w):LE W P B bx w :=
 ⟨hP.weak _ _ _ h.data fun b _ hs=>⟨hs.1,fun hm=>hs.2 (by rw [List.map_append];exact List.mem_append_left _ hm)⟩,
  ⟨h.own.mod,fun p hp=>h.own.blk p (List.mem_append_left _ hp),by have:=h.own.nodup;rw [List.map_append,List.nodup_append] at this;exact this.1⟩,h.size⟩
theorem LE.lt (h:LE W P B bx w):∀ p∈bx,p.1<w.heap.size:=fun p hp=>(h.own.blk p hp).2.lt
end
theorem Grow.blk {α:Type} {base k:Nat} {e:TypeId} {R:Bl->World->List Value->α->Prop} {S:Bl} {v:Value} {l:List α} {w:World} (h:Grow base e k R S v l w) (hl:l≠[]) :
  ∃ g c cur css,v=.slice (some ⟨g,0,none⟩) l.length c/\base<=g/\l.length<=maxLen/\l.length*k<=cur.size/\Blk w g cur e/\Elems k R (fun b=>S b/\b≠g) w css l/\∀ i j,i<l.length->j<k->cur[i*k+j]?=(css.getD i [])[j]?:=by
 obtain ⟨css,ho,he⟩:=h;rcases ho.2 with ⟨rfl,hn⟩ | ⟨g,cap,cur,rfl,hb,hg,hc,hcm,hcs,ht⟩
 ·exact absurd (List.eq_nil_of_length_eq_zero hn) hl
 ·refine ⟨g,cap,cur,css,rfl,hb,nT hc hcm,by rw [hcs];exact Nat.mul_le_mul_right _ hc,hg,?_,fun i j hi hj=>?_⟩
  ·have e1:(fun b=>S b/\(Value.slice (some ⟨g,0,none⟩) l.length cap).ownBlock≠some b)=fun b=>S b/\b≠g:=by
    funext b
    simp only [Value.ownBlock,ne_eq,Option.some.injEq];rw [eq_iff_iff];exact ⟨fun h=>⟨h.1,fun h2=>h.2 h2.symm⟩,fun h=>⟨h.1,fun h2=>h.2 h2.symm⟩⟩
   rw [e1] at he;exact he
  ·have hic:i<css.length:=by rw [he.1];exact hi
   have h5:=flatten_at (css:=css) (fun q hq=>(he.2 q hq (by have:=he.1;omega)).1) i j hic hj;rw [List.getD_eq_getElem?_getD,gE hic,Option.getD_some,<- h5,<- ht,List.getElem?_take];have:i*k+j<l.length*k:=by
    have:(i+1)*k<=l.length*k:=Nat.mul_le_mul_right _ hi;rw [Nat.add_mul] at this;omega
   simp [this]
theorem SRows.ofBlk {α:Type} {k:Nat} {e:TypeId} {R:Bl->World->List Value->α->Prop} {S:Bl} {g c:Nat} {cur:Array Value} {l:List α} {w:World} (hB:Blk w g cur e) (hl:l.length<=maxLen) (hS:S g) (css:List (List Value))
  (hE:Elems k R S w css l) (hc:∀ i j,i<l.length->j<k->cur[i*k+j]?=(css.getD i [])[j]?):SRows k R S w (.slice (some ⟨g,0,none⟩) l.length c) l:=by
 refine ⟨_,c,rfl,hl,fun i hi=>⟨_,rfl,hS,css.getD i [],?_,fun j hj=>?_,?_⟩⟩
 ·have hic:i<css.length:=by rw [hE.1];exact hi
  rw [List.getD_eq_getElem?_getD,gE hic];exact (hE.2 i hic hi).1
 ·rw [addr_add_add];have e1:(⟨g,0,Option.none⟩:Addr).add (i*k+j)=⟨g,i*k+j,Option.none⟩:=by unfold Addr.add;split <;> simp_all
  rw [e1,hB.cell];exact hc i j hi hj
 ·have hic:i<css.length:=by rw [hE.1];exact hi
  rw [List.getD_eq_getElem?_getD,gE hic];exact (hE.2 i hic hi).2
theorem SRows.one {α:Type} {k:Nat} {e:TypeId} {R:Bl->World->List Value->α->Prop} {S:Bl} {b c:Nat} {cs:List Value} {x:α} {w:World} (hB:Blk w b cs.toArray e) (hk:cs.length=k) (hS:S b) (hR:R S w cs x):SRows k R S w (.slice (some ⟨b,0,none⟩) 1 c) [x] :=
 SRows.ofBlk (l:=[x]) hB (by show 1<=maxLen;decide) hS [cs] ⟨rfl,fun i h1 h2=>by obtain rfl:i=0:=(by simpa using h1);exact ⟨hk,hR⟩⟩ fun i j hi hj=>by obtain rfl:i=0:=(by simpa using hi);simp
theorem Mr.newChars_succ (i:Nat) (r:Int):Mr.newChars (i+1) r=Mr.newChars i r++[⟨(i:Int)*100+r,(i:Int)⟩]:=by unfold Mr.newChars;rw [List.range_succ,List.map_append];rfl
theorem Mr.newChars_len (i:Nat) (r:Int):(Mr.newChars i r).length=i:=by unfold Mr.newChars;simp
theorem SFont.of {S:Bl} {w:World} {F:DFont} {u:Int} {g c l fe ax rg fu cv:Hd} (hu:I64 F.unit) (e:u=F.unit) (h1:SRows 9 SGlyph S w (.slice g.a g.n g.c) F.glyphs) (h2:SRows 2 SChar S w (.slice c.a c.n c.c) F.chars) (h3:SRows 3 SLookup S w (.slice l.a l.n l.c) F.lookups) (h4:SRows 2 SFeature S w (.slice fe.a fe.n fe.c) F.features)
  (h5:SRows 4 SAxis S w (.slice ax.a ax.n ax.c) F.axes) (h6:SRows 1 SRegion S w (.slice rg.a rg.n rg.c) F.regions) (h7:SRows 1 SCode S w (.slice fu.a fu.n fu.c) F.funcs) (h8:SRows 1 SInt S w (.slice cv.a cv.n cv.c) F.cvt):SFont S w (fontCells u g c l fe ax rg fu cv).toList F:=by
 subst e;exact ⟨_,_,_,_,_,_,_,_,rfl,hu,h1,h2,h3,h4,h5,h6,h7,h8⟩
theorem SFont.unit {S:Bl} {w:World} {cs:List Value} {F:DFont} (h:SFont S w cs F):I64 F.unit:=by
 obtain ⟨_,_,_,_,_,_,_,_,_,hu,_⟩:=h;exact hu
theorem LE.glyphs {α:Type} {k:Nat} {R:Bl->World->List Value->α->Prop} (h1:SStay R) (h2:SWeak R) {W w:World} {P:Bl->World->Prop} (hP:DP P) {bx:List (Nat×Array Value×TypeId)} {B cb i c:Nat} {cur:Array Value} {e:TypeId} {css:List (List Value)} {l:List α}
  (h:LE W (fun S w=>P S w/\Elems k R S w css l) B (bx++[(cb,cur,e)]) w) (hc:∀ q j,q<i->j<k->cur[q*k+j]?=(css.getD q [])[j]?) (hl:l.length=i) (hi:i<=maxLen) :
  LE W (fun S w=>P S w/\SRows k R S w (.slice (some ⟨cb,0,none⟩) i c) l) w.heap.size bx w:=by
 have hD:DP fun S w=>P S w/\Elems k R S w css l:=hP.and (DP.elems h1 h2 css l)
 have hB:=(h.own.blk (cb,cur,e) (by simp)).2;have hn:cb ∉ bx.map (·.1):=by
  have:=h.own.nodup;rw [List.map_append,List.nodup_append] at this;exact fun hm=>this.2.2 cb hm cb (by simp) rfl
 have hd:=(h.drop hD).up hD;subst hl;exact ⟨⟨hd.data.1,SRows.ofBlk hB hi ⟨hB.lt,hn⟩ css hd.data.2 hc⟩,hd.own,hd.size⟩
def IsNew (B:Nat) (t:TypeId) (n:Nat) (cs:Array Value) (v:Value) (w:World):Prop:=∃ b,v=.slice (some ⟨b,0,none⟩) n n/\Blk w b cs t/\B<=b
theorem IsNew.stays {B:Nat} {t:TypeId} {n:Nat} {cs:Array Value} (v:Value):Stays (IsNew B t n cs v):=fun w w' ⟨b,h0,h1,h2⟩ m=>⟨b,h0,h1.kept m (by simp),h2⟩
def IsGrow {α:Type} (base:Nat) (e:TypeId) (k:Nat) (R:Bl->World->List Value->α->Prop) (S:Bl) (l:List α) (n:Nat) (v:Value) (w:World):Prop:=(∃ o c,v=.slice o n c)/\Grow base e k R S v l w
theorem IsGrow.stays {α:Type} {base:Nat} {e:TypeId} {k:Nat} {R:Bl->World->List Value->α->Prop} {S:Bl} {l:List α} {n:Nat} (hR:SStay R) (v:Value):Stays (IsGrow base e k R S l n v):=fun w w' h m=>⟨h.1,h.2.mod hR m⟩
theorem IsGrow.elim {α:Type} {base:Nat} {e:TypeId} {k:Nat} {R:Bl->World->List Value->α->Prop} {S:Bl} {l:List α} {n:Nat} {v:Value} {w:World} {p:Prop} (h:IsGrow base e k R S l n v w) (hK:∀ o c,v=.slice o n c->Grow base e k R S v l w->p):p:=let ⟨⟨o,c,h0⟩,h1⟩:=h;hK o c h0 h1
theorem one_glyph:OneK SGlyph:=by
 intro S w cs x ⟨v3,v4,v5,v6,v7,v8,hc,h0,h1,h2,h3,h4,h5,h6,h7⟩ u hu;rw [hc] at hu;simp only [List.mem_cons,List.not_mem_nil,or_false] at hu;rcases hu with rfl | rfl | rfl | rfl | rfl | rfl | rfl | rfl | rfl
 ·rfl
 ·rfl
 ·rfl
 ·exact oneS h2
 ·exact oneS h3
 ·exact oneS h4
 ·exact oneS h5
 ·exact oneS h6
 ·exact oneS h7
theorem one_ins:OneK SIns:=by
 intro S w cs x ⟨hc,_⟩ u hu;rw [hc] at hu;simp only [List.mem_cons,List.not_mem_nil,or_false] at hu;rcases hu with rfl | rfl <;> rfl
theorem one_char:OneK SChar:=by
 intro S w cs x ⟨hc,_⟩ u hu;rw [hc] at hu;simp only [List.mem_cons,List.not_mem_nil,or_false] at hu;rcases hu with rfl | rfl <;> rfl
theorem one_lookup:OneK SLookup:=by
 intro S w cs x ⟨v2,hc,_,h1⟩ u hu;rw [hc] at hu;simp only [List.mem_cons,List.not_mem_nil,or_false] at hu;rcases hu with rfl | rfl | rfl
 ·rfl
 ·rfl
 ·exact oneS h1
theorem elems_last {S:Bl} {w:World} {css:List (List Value)} {l:List DGlyph} {i:Nat} {g:DGlyph} {v:Value} {a:Int} (h:Elems 9 SGlyph S w css l) (hi:l[i]?=some g) (hv:SRows 2 SIns S w v (g.hint++[⟨24,a⟩])) :
  Elems 9 SGlyph S w (css.set i (((css.getD i []).set 5 (.slice none 0 0)).set 8 v)) (l.set i (Mr.newGlyph g a)):=by
 refine ⟨by simp [h.1],fun j h1 h2=>?_⟩;rw [List.length_set] at h1 h2;rw [List.getElem_set,List.getElem_set]
 split
 ·rename_i hj;subst hj;obtain ⟨hl,he⟩:=gI.1 hi;have h3:=h.2 i h1 h2;rw [List.getD_eq_getElem?_getD,gE h1,Option.getD_some];obtain ⟨k9,v3,v4,v5,v6,v7,v8,hc,h0,h11,h12,h13,h14,h15,h16,h17⟩:=h3;rw [hc,he];rw [he] at h0 h11 h12 h13 h14 h15 h16 h17;exact ⟨rfl,v3,v4,.slice none 0 0,v6,v7,v,rfl,h0,h11,h12,h13,SRows.nil w,h15,h16,hv⟩
 ·exact h.2 j h1 h2
theorem cells_last {css:List (List Value)} {cur:Array Value} {n i:Nat} {v:Value} (hi:i<n) (hl:css.length=n) (hk:(css.getD i []).length=9) (hs:n*9<=cur.size) (hc:∀ q j,q<n->j<9->cur[q*9+j]?=(css.getD q [])[j]?) :
  ∀ q j,q<n->j<9->((cur.setIfInBounds (i*9+5) (.slice none 0 0)).setIfInBounds (i*9+8) v)[q*9+j]?=((css.set i (((css.getD i []).set 5 (.slice none 0 0)).set 8 v)).getD q [])[j]?:=by
 intro q j hq hj;have h1:=hc q j hq hj;rw [Array.getElem?_setIfInBounds,Array.getElem?_setIfInBounds,Array.size_setIfInBounds]
 by_cases hqi:i=q
 ·subst hqi;have hr:∀ X:List Value,(css.set i X).getD i []=X:=fun X=>by rw [List.getD_eq_getElem?_getD,List.getElem?_set_self (by omega)];rfl
  rw [hr,List.getElem?_set,List.getElem?_set,List.length_set]
  by_cases h8:j=8
  ·rw [if_pos (by omega),if_pos (by omega),if_pos (by omega),if_pos (by omega)]
  ·rw [if_neg (by omega),if_neg (show ¬ 8=j by omega)]
   by_cases h5:j=5
   ·rw [if_pos (by omega),if_pos (by omega),if_pos (by omega),if_pos (by omega)]
   ·rw [if_neg (by omega),if_neg (show ¬ 5=j by omega)];exact h1
 ·have hr:∀ X:List Value,(css.set i X).getD q []=css.getD q []:=fun X=>by rw [List.getD_eq_getElem?_getD,List.getElem?_set_ne hqi,<- List.getD_eq_getElem?_getD]
  rw [hr,if_neg (by omega),if_neg (by omega)];exact h1
def NL (B:Nat) (W:World):Bl:=fun b=>B<=b/\∃ cs t,Blk W b cs t/\t≠57
def LkA (B:Nat) (v:Value) (W:World):Prop:=IsNew B 3 1 #[.int .i64 0] v W
def LkB (B:Nat) (v:Value) (W:World):Prop:=∃ u,IsNew B 22 1 #[u] v W/\LkA B u W
def LkC (B n:Nat) (v:Value) (W:World):Prop:=IsNew B 51 1 #[.int .i64 0,.int .i64 (n:Int)] v W
def LkD (B n:Nat) (v:Value) (W:World):Prop:=∃ u1 u4,v=.agg #[.slice none 0 0,u1,.slice none 0 0,.slice none 0 0,u4,.int .i64 0]/\LkB B u1 W/\LkC B n u4 W
def LkE (B n:Nat) (v:Value) (W:World):Prop:=∃ u1 u4,IsNew B 54 1 #[.slice none 0 0,u1,.slice none 0 0,.slice none 0 0,u4,.int .i64 0] v W/\LkB B u1 W/\LkC B n u4 W
def LkF (B n:Nat) (v:Value) (W:World):Prop:=∃ u,v=.agg #[.int .i64 4,.bool false,u]/\LkE B n u W
def LkG (B n:Nat) (v:Value) (W:World):Prop:=∃ u,IsNew B 57 1 #[.int .i64 4,.bool false,u] v W/\LkE B n u W
section
variable {B n:Nat} {v:Value} {W:World} {p:Prop}
theorem LkA.stays (v:Value):Stays (LkA B v):=IsNew.stays v
theorem LkB.stays (v:Value):Stays (LkB B v):=fun w w' ⟨u,h,h1⟩ m=>⟨u,IsNew.stays v w w' h m,LkA.stays u w w' h1 m⟩
theorem LkC.stays (v:Value):Stays (LkC B n v):=IsNew.stays v
theorem LkD.stays (v:Value):Stays (LkD B n v):=fun w w' ⟨u1,u4,h,h1,h2⟩ m=>⟨u1,u4,h,LkB.stays u1 w w' h1 m,LkC.stays u4 w w' h2 m⟩
theorem LkE.stays (v:Value):Stays (LkE B n v):=fun w w' ⟨u1,u4,h,h1,h2⟩ m=>⟨u1,u4,IsNew.stays v w w' h m,LkB.stays u1 w w' h1 m,LkC.stays u4 w w' h2 m⟩
theorem LkF.stays (v:Value):Stays (LkF B n v):=fun w w' ⟨u,h,h1⟩ m=>⟨u,h,LkE.stays u w w' h1 m⟩
theorem LkG.stays (v:Value):Stays (LkG B n v):=fun w w' ⟨u,h,h1⟩ m=>⟨u,IsNew.stays v w w' h m,LkE.stays u w w' h1 m⟩
theorem LkA.elim (h:LkA B v W) (hK:∀ b,v=.slice (some ⟨b,0,none⟩) 1 1->p):p:=let ⟨b,h0,_⟩:=h;hK b h0
theorem LkB.elim (h:LkB B v W) (hK:∀ b,v=.slice (some ⟨b,0,none⟩) 1 1->p):p:=let ⟨_,⟨b,h0,_⟩,_⟩:=h;hK b h0
theorem LkC.elim (h:LkC B n v W) (hK:∀ b,v=.slice (some ⟨b,0,none⟩) 1 1->p):p:=let ⟨b,h0,_⟩:=h;hK b h0
theorem LkE.elim (h:LkE B n v W) (hK:∀ b,v=.slice (some ⟨b,0,none⟩) 1 1->p):p:=let ⟨_,_,⟨b,h0,_⟩,_⟩:=h;hK b h0
theorem LkD.elim (h:LkD B n v W) (hK:∀ b1 b4,v=.agg #[.slice none 0 0,.slice (some ⟨b1,0,none⟩) 1 1,.slice none 0 0,.slice none 0 0,.slice (some ⟨b4,0,none⟩) 1 1,.int .i64 0]->LkB B (.slice (some ⟨b1,0,none⟩) 1 1) W->LkC B n (.slice (some ⟨b4,0,none⟩) 1 1) W->p):p:=by
 obtain ⟨u1,u4,h0,h1,h2⟩:=h;refine h1.elim fun b1 e1=>h2.elim fun b4 e4=>?_
 subst e1 e4;exact hK _ _ h0 h1 h2
theorem LkF.elim (h:LkF B n v W) (hK:∀ b,v=.agg #[.int .i64 4,.bool false,.slice (some ⟨b,0,none⟩) 1 1]->LkE B n (.slice (some ⟨b,0,none⟩) 1 1) W->p):p:=by
 obtain ⟨u,h0,h1⟩:=h;refine h1.elim fun b e=>?_
 subst e;exact hK _ h0 h1
theorem NL.of {b:Nat} {cs:Array Value} {t:TypeId} (hB:B<=b) (h:Blk W b cs t) (ht:t≠57):NL B W b:=⟨hB,cs,t,h,ht⟩
theorem LkA.row (h:LkA B v W):SRows 1 SInt (NL B W) W v [0]:=by
 obtain ⟨b,rfl,hb,hB⟩:=h;exact SRows.one (cs:=[.int .i64 0]) hb rfl (NL.of hB hb (by decide)) ⟨rfl,by unfold I64;omega⟩
theorem LkB.row (h:LkB B v W):SRows 1 SSet (NL B W) W v [[0]]:=by
 obtain ⟨u,⟨b,rfl,hb,hB⟩,h1⟩:=h;exact SRows.one (cs:=[u]) hb rfl (NL.of hB hb (by decide)) ⟨u,rfl,h1.row⟩
theorem LkC.row (h:LkC B n v W) (hn:n<=maxLen):SRows 2 SCall (NL B W) W v [⟨0,(n:Int)⟩]:=by
 obtain ⟨b,rfl,hb,hB⟩:=h;exact SRows.one (cs:=[.int .i64 0,.int .i64 (n:Int)]) hb rfl (NL.of hB hb (by decide)) ⟨rfl,by unfold I64;simp only;omega,by unfold I64;unfold maxLen at hn;simp only;omega⟩
theorem LkE.row (h:LkE B n v W) (hn:n<=maxLen):SRows 6 SRule (NL B W) W v [⟨[],[[0]],[],[],[⟨0,(n:Int)⟩],0⟩]:=by
 obtain ⟨u1,u4,⟨b,rfl,hb,hB⟩,h1,h2⟩:=h;exact SRows.one (cs:=[.slice none 0 0,u1,.slice none 0 0,.slice none 0 0,u4,.int .i64 0]) hb rfl (NL.of hB hb (by decide)) ⟨_,_,_,_,_,rfl,SRows.nil W,h1.row,SRows.nil W,SRows.nil W,h2.row hn,by unfold I64;simp only;omega⟩
theorem LkE.one (h:LkE B n v W):v.oneCell'=true:=by
 obtain ⟨_,_,⟨b,rfl,_⟩,_⟩:=h;rfl
theorem LkG.parts (h:LkG B n v W) (hn:n<=maxLen):∃ b u,v=.slice (some ⟨b,0,none⟩) 1 1/\Elems 3 SLookup (NL B W) W [[.int .i64 4,.bool false,u]] [Mr.newLookup n]/\(∀ j x,[[Value.int .i64 4,.bool false,u]].flatten[j]?=some x->W.cell? ((⟨b,0,none⟩:Addr).add j)=some x)/\∀ x∈[[Value.int .i64 4,.bool false,u]].flatten,x.oneCell'=true:=by
 obtain ⟨u,⟨b,rfl,hb,hB⟩,h1⟩:=h;refine ⟨b,u,rfl,⟨rfl,fun i h2 h3=>?_⟩,fun j x hx=>?_,?_⟩
 ·obtain rfl:i=0:=by simpa using h2
  exact ⟨rfl,u,rfl,by show I64 4;unfold I64;omega,h1.row hn⟩
 ·have e1:(⟨b,0,Option.none⟩:Addr).add j=⟨b,j,Option.none⟩:=by unfold Addr.add;split <;> simp_all
  rw [e1,hb.cell];rw [<- hx];simp
 ·intro x hx;simp only [List.flatten_cons,List.flatten_nil,List.append_nil,List.mem_cons,List.not_mem_nil,or_false] at hx;rcases hx with rfl | rfl | rfl
  ·rfl
  ·rfl
  ·exact h1.one
end
theorem Grow.notNL {α:Type} {base k:Nat} {R:Bl->World->List Value->α->Prop} {S:Bl} {v:Value} {l:List α} {W:World} (h:Grow base 57 k R S v l W) {b:Nat} (he:v.ownBlock=some b):¬ ∃ cs t,Blk W b cs t/\t≠57:=by
 rintro ⟨cs,t,hB,ht⟩;obtain ⟨css,ho,-⟩:=h;rcases ho.2 with ⟨rfl,-⟩ | ⟨g,cap,cur,rfl,-,hg,-⟩
 ·cases he
 ·simp only [Value.ownBlock,Option.some.injEq] at he;subst he;have h9:Blk W g cur 57:=hg;unfold Blk at h9 hB;rw [h9] at hB;cases hB;exact ht rfl
set_option maxHeartbeats 8000000
theorem take_inK {w:World} {oa:Option Addr} {n cap h K:Nat} {l:List Int} (hN:Rows 1 RInt 0 w (.slice oa n cap) l) (hL:(l.take K).length=h):SRows 1 SInt (fun b=>b<w.heap.size) w (.slice oa h cap) (l.take K):=by
 have h1:SRows 1 SInt (fun b=>0<=b) w (.slice oa n cap) l:=hN.new SInt.new;have h2:=h1.weak (S':=fun b=>b<w.heap.size) (by decide) SInt.weak fun b hb _=>hb
 obtain ⟨oa',c',he,hl,h3⟩:=h2;cases he;refine ⟨_,_,by rw [hL],by rw [List.length_take];omega,fun i hi=>?_⟩;have hi':i<l.length:=by rw [List.length_take] at hi;omega
 obtain ⟨a,ha,hS,cs,hk,hc,hr⟩:=h3 i hi';exact ⟨a,ha,hS,cs,hk,hc,by rw [List.getElem_take];exact hr⟩
def LessF (F:DFont):Prop:=Mr.FR F/\F.lookups.length<=39/\(∀ g∈F.glyphs,g.hint.length<=100)/\F.glyphs.length<=10/\2<=F.glyphs.length
theorem made_less (l:List Int):LessF (Mk.made l):=⟨(Mr.made_right l).1,(Mr.made_right l).2.1,(Mr.made_right l).2.2,(made_ok l).gll.2,(made_ok l).gll.1⟩
theorem less_push {w W W':World} {P0:Bl->World->Prop} {fb gb hb B1 i:Nat} {CF CG CH:Array Value} {v v':Value} {y r:Int} (h1:fb<B1) (h2:gb<B1) (h3:hb<B1) (h4:w.heap.size<=B1) (h5:fb<=B1) (hP:DP P0) (hy:(i:Int)*100+r=y)
  (hL:LE w P0 fb [(fb,CF,32),(gb,CG,32),(hb,CH,32)] W) (hG0:Grow B1 37 2 SChar (fun _=>False) v (Mr.newChars i r) W) (hB:B1<=W.heap.size) (hG:Grow B1 37 2 SChar (fun _=>False) v' (Mr.newChars i r++[⟨y,(i:Int)⟩]) W') (hg:W.grownBy W' v.ownBlock) :
  (∃ oc' cc',v'=.slice oc' (i+1) cc')/\LE w P0 fb [(fb,CF,32),(gb,CG,32),(hb,CH,32)] W'/\Grow B1 37 2 SChar (fun _=>False) v' (Mr.newChars (i+1) r) W'/\B1<=W'.heap.size:=by
 rw [<- hy,<- Mr.newChars_succ] at hG;obtain ⟨oc',cc',e⟩:=hG.form;rw [Mr.newChars_len] at e;refine ⟨⟨oc',cc',e⟩,hL.grew hP hg (fun b hb=>(hG0.lt b hb).1) h5 (fun p hp=>?_) h4,hG,nT hB hg.size⟩;simp only [List.mem_cons,List.not_mem_nil,or_false] at hp;rcases hp with rfl | rfl | rfl
 ·exact h1
 ·exact h2
 ·exact h3
theorem less_rights {F:DFont} (hF:LessF F) {S:Bl} {W:World} {g c lk fe ax rg fu cv:Hd} (hS:SFont S W (fontCells F.unit g c lk fe ax rg fu cv).toList F) {r a:Int} {i:Nat} {G:DGlyph} {hc hg hl:Hd}
  (h2:SRows 2 SChar S W (.slice hc.a hc.n hc.c) (Mr.newChars F.glyphs.length r)) (r0:0<=r) (r1:r<100) (h1:SRows 9 SGlyph S W (.slice hg.a hg.n hg.c) (F.glyphs.set i (Mr.newGlyph G a))) (hG:F.glyphs[i]?=some G) (a0:0<=a) (a1:a<1000)
  (h3:SRows 3 SLookup S W (.slice hl.a hl.n hl.c) (F.lookups++[Mr.newLookup F.lookups.length])) :
  (Calls Tryz.prog 10 #[.agg (fontCells F.unit g c lk ⟨none,0,0⟩ ax rg fu cv)] W fun e w'=>e=.returned (.bool true)/\Mod [] W w')/\(Calls Tryz.prog 10 #[.agg (fontCells F.unit g hc lk fe ax rg fu cv)] W fun e w'=>e=.returned (.bool true)/\Mod [] W w') /\
  (Calls Tryz.prog 10 #[.agg (fontCells F.unit hg c lk fe ax rg fu cv)] W fun e w'=>e=.returned (.bool true)/\Mod [] W w')/\(Calls Tryz.prog 10 #[.agg (fontCells F.unit g c hl ⟨none,0,0⟩ ax rg fu cv)] W fun e w'=>e=.returned (.bool true)/\Mod [] W w') /\
  (Calls Tryz.prog 10 #[.agg (fontCells F.unit g c lk fe ax rg fu cv)] W fun e w'=>e=.returned (.bool true)/\Mod [] W w'):=by
 have hu:=hS.unit;obtain ⟨-,k1,k2,k3,k4,k5,k6,k7,k8⟩:=hS.hds
 exact ⟨right_of hF.1.bare (SFont.of (F:={ F with features:=[] }) hu rfl k1 k2 k3 (SRows.nil W) k5 k6 k7 k8),right_of (hF.1.charred r0 r1) (SFont.of (F:={ F with chars:=Mr.newChars F.glyphs.length r }) hu rfl k1 h2 k3 k4 k5 k6 k7 k8),
  right_of (hF.1.last hF.2.2.1 hG a0 a1) (SFont.of (F:={ F with glyphs:=F.glyphs.set i (Mr.newGlyph G a) }) hu rfl h1 k2 k3 k4 k5 k6 k7 k8),right_of (hF.1.more hF.2.1) (SFont.of (F:={ F with lookups:=F.lookups++[Mr.newLookup F.lookups.length],features:=[] }) hu rfl k1 k2 h3 (SRows.nil W) k5 k6 k7 k8),right_of hF.1 hS⟩
theorem less_walk (l:List Int) (oa:Option Addr) (n cap:Nat) (k:Int) (w:World) (hN:Rows 1 RInt 0 w (.slice oa n cap) l) (hc:n<=cap) (hc1:cap<=maxLen) (hk:I64 k) :
  Calls Tryz.prog 3 #[.slice oa n cap,.int .i64 k] w fun e w'=>e=.returned (.bool true)/\Mod [] w w':=by
 have hn:n=l.length:=by obtain ⟨_,_,he,_⟩:=hN;simp at he;omega
 have hL:(l.take 600).length=min n 600:=by rw [List.length_take,hn];omega
 obtain ⟨F,hF⟩:∃ F,F=Mk.made (l.take 600):=⟨_,rfl⟩
 have CM:=Hi (fun (W:World) (m:Mod [] w W)=>made_any (l.take 600) (.slice oa (min n 600) cap) W (take_inK (hN.mod RInt.stay m) hL));have HF:Hid (LessF F):=by rw [hF];exact made_less _
 have CS:=Hi (fun (W:World)=>seed_any oa n cap hc hc1 W);have HK:=Hi hk;rw [<- hF] at CM;clear hF hn hL hN hc hc1 hk;go_enter Tryz.func3,Tryz.ntmps3;go_wp2_with fail;refine (awake_any w).mono ?_;rintro e w1 ⟨rfl,m1⟩;have M1:=Hi m1;clear m1;go_wp2_with fail;refine (CS.out w1).mono ?_;rintro e w2 ⟨rfl,m2⟩;have M2:=Hi (M1.out.then m2);clear m2 M1;go_wp2_with fail;refine (CM.out w2 M2.out).mono ?_;rintro e w3 ⟨cs,rfl,hS,m3⟩;obtain ⟨g,c,lk,fe,ax,rg,fu,cv,rfl⟩:=font_hds hS;have HS:Hid (SFont (fun b=>w2.heap.size<=b) w3 (fontCells F.unit g c lk fe ax rg fu cv).toList F/\Mod [] w w3):=⟨hS,M2.out.then m3⟩
 clear hS m3 CM CS M2;obtain ⟨FC,hFC⟩:∃ FC,FC=fontCells F.unit g c lk fe ax rg fu cv:=⟨_,rfl⟩
 have HL0:Hid (LE w (fun S w=>SFont S w FC.toList F) w3.heap.size [(w3.heap.size,FC,32)] (w3.alloc (.cells FC 32))):=by
  have hP:=DP.font FC.toList F;have h0:LE w (fun S w=>SFont S w FC.toList F) w3.heap.size [] w3:=⟨SFont.weak _ _ _ _ _ (hFC ▸ HS.out.1) fun b hb _=>⟨hb,by simp⟩,⟨HS.out.2,by simp,List.nodup_nil⟩,nR _⟩
  exact h0.box hP FC 32
 have hD:DP (fun S w=>SFont S w FC.toList F):=DP.font _ _;obtain ⟨P0,hP0⟩:∃ P0:Bl->World->Prop,P0=fun S w=>SFont S w FC.toList F:=⟨_,rfl⟩
 rw [<- hP0] at hD HL0;have HP:Hid (DP P0/\∀ S w,P0 S w->SFont S w (fontCells F.unit g c lk fe ax rg fu cv).toList F):=⟨hD,fun S w h=>by rw [hP0] at h;rw [<- hFC];exact h⟩
 clear hD hP0 HS;unfold fontCells at hFC ⊢;rw [hFC] at HL0;clear hFC FC;go_upto_region 3 with fail;generalize w3.alloc _=w4 at *
 generalize w3.heap.size=fb at *
 have q0:=(HL0.out.own.at 0 rfl).cell 0;have q1:=(HL0.out.own.at 0 rfl).cell 1;have q2:=(HL0.out.own.at 0 rfl).cell 2;have q3:=(HL0.out.own.at 0 rfl).cell 3;have q4:=(HL0.out.own.at 0 rfl).cell 4;have q5:=(HL0.out.own.at 0 rfl).cell 5;have q6:=(HL0.out.own.at 0 rfl).cell 6;have q7:=(HL0.out.own.at 0 rfl).cell 7;have q8:=(HL0.out.own.at 0 rfl).cell 8;simp only [gA,gZ,gS] at q0 q1 q2 q3 q4 q5 q6 q7 q8;have HL1:=Hi (HL0.out.box HP.out.1 #[.int .i64 F.unit,.slice g.a g.n g.c,.slice c.a c.n c.c,.slice lk.a lk.n lk.c,.slice none 0 0,.slice ax.a ax.n ax.c,.slice rg.a rg.n rg.c,.slice fu.a fu.n fu.c,.slice cv.a cv.n cv.c] 32);simp only [List.cons_append,List.nil_append] at HL1;go_upto_region 5 with fail;clear q0 q1 q2 q3 q4 q5 q6 q7 q8 HL0;generalize w4.alloc _=w5 at *
 generalize w4.heap.size=gb at *
 have q0:=(HL1.out.own.at 0 rfl).cell 0;have q1:=(HL1.out.own.at 0 rfl).cell 1;have q2:=(HL1.out.own.at 0 rfl).cell 2;have q3:=(HL1.out.own.at 0 rfl).cell 3;have q4:=(HL1.out.own.at 0 rfl).cell 4;have q5:=(HL1.out.own.at 0 rfl).cell 5;have q6:=(HL1.out.own.at 0 rfl).cell 6;have q7:=(HL1.out.own.at 0 rfl).cell 7;have q8:=(HL1.out.own.at 0 rfl).cell 8;simp only [gA,gZ,gS] at q0 q1 q2 q3 q4 q5 q6 q7 q8;have HL2:=Hi (HL1.out.box HP.out.1 #[.int .i64 F.unit,.slice g.a g.n g.c,.slice none 0 0,.slice lk.a lk.n lk.c,.slice fe.a fe.n fe.c,.slice ax.a ax.n ax.c,.slice rg.a rg.n rg.c,.slice fu.a fu.n fu.c,.slice cv.a cv.n cv.c] 32);simp only [List.cons_append,List.nil_append] at HL2;go_upto_region 7 with fail;clear q0 q1 q2 q3 q4 q5 q6 q7 q8 HL1;generalize w5.alloc _=w6 at *
 generalize w5.heap.size=hb at *
 have hW:w.heap.size<=w6.heap.size:=HL2.out.own.mod.size;have HB:Hid (fb<w6.heap.size/\gb<w6.heap.size/\hb<w6.heap.size/\w.heap.size<=w6.heap.size/\fb<=w6.heap.size):=⟨HL2.out.own.lt 0 rfl,HL2.out.own.lt 1 rfl,HL2.out.own.lt 2 rfl,hW,HL2.out.size⟩
 clear hW;generalize hB1:w6.heap.size=B1 at *
 have HB1:=Hi hB1;clear hB1;obtain ⟨N,hN⟩:∃ N,N=F.glyphs.length:=⟨_,rfl⟩
 have hgn:g.n=N:=by rw [hN];exact (HP.out.2 _ _ HL2.out.data).hds.2.1.n
 have HN:Hid (N=F.glyphs.length/\2<=N/\N<=10):=⟨hN,by rw [hN];exact HF.out.2.2.2.2,by rw [hN];exact HF.out.2.2.2.1⟩
 clear hN;have e0:0<=k % 100:=Int.emod_nonneg _ (by decide);have e1:k % 100<100:=Int.emod_lt_of_pos _ (by decide);obtain ⟨r,hr⟩:∃ r,k % 100=r:=⟨_,rfl⟩
 have HR:Hid (k % 100=r/\0<=r/\r<100):=⟨hr,by omega,by omega⟩
 clear e0 e1 hr;obtain ⟨ga,gn,gc⟩:=g;simp only at hgn;subst hgn;go_wp2_with fail
 go_loopg [9] gn (fun gk v9 W=>∃ (i:Nat) (oc:Option Addr) (cc:Nat),v9=.int .i64 (i:Int)/\Hid (i+gk=gn)/\Hid (LE w P0 fb [(fb,#[.int .i64 F.unit,.slice ga gn gc,.slice c.a c.n c.c,.slice lk.a lk.n lk.c,.slice fe.a fe.n fe.c,.slice ax.a ax.n ax.c,.slice rg.a rg.n rg.c,.slice fu.a fu.n fu.c,.slice cv.a cv.n cv.c],32),(gb,#[.int .i64 F.unit,.slice ga gn gc,.slice c.a c.n c.c,.slice lk.a lk.n lk.c,.slice none 0 0,.slice ax.a ax.n ax.c,.slice rg.a rg.n rg.c,.slice fu.a fu.n fu.c,.slice cv.a cv.n cv.c],32),(hb,#[.int .i64 F.unit,.slice ga gn gc,.slice oc i cc,.slice lk.a lk.n lk.c,.slice fe.a fe.n fe.c,.slice ax.a ax.n ax.c,.slice rg.a rg.n rg.c,.slice fu.a fu.n fu.c,.slice cv.a cv.n cv.c],32)] W/\Grow B1 37 2 SChar (fun _=>False) (.slice oc i cc) (Mr.newChars i r) W/\B1<=W.heap.size))
 case atStart=>exact ⟨0,none,0,rfl,by show 0+gn=gn;omega,HL2.out,Grow.nil,by have:=HB1.out;omega⟩
 case round =>
  obtain ⟨i,oc,cc,rfl,hi,HT⟩:=hrel;clear HL2;have q1:=(HT.out.1.own.at 0 rfl).cell 1;simp only [gA,gZ,gS] at q1
  by_cases hin:i<gn
  case pos =>
   have k3:decide ((i:Int)<(gn:Int))=true:=dT (by omega);have k4:decide (i<gn)=true:=dT hin;have hi3:i<10:=by have:=HN.out;omega
   have ei:IntKind.i64.wrap ((i:Int)+1)=(i:Int)+1:=IntWalk.i64_in _ (by omega);have em:IntKind.i64.wrap ((i:Int)*100)=(i:Int)*100:=IntWalk.i64_in _ (by omega);have ea:IntKind.i64.wrap ((i:Int)*100+r)=(i:Int)*100+r:=IntWalk.i64_in _ (by have:=HR.out;omega);obtain ⟨y,hy⟩:∃ y,(i:Int)*100+r=y:=⟨_,rfl⟩
   rw [hy] at ea;have HY:=Hi hy;have HI3:=Hi hi3;have HIN:=Hi hin;have HLB:Hid ((Mr.newChars i r).length+[(⟨y,(i:Int)⟩:DChar)].length<=maxLen/\((Mr.newChars i r).length+[(⟨y,(i:Int)⟩:DChar)].length)*16<=140737488355328):=by rw [Mr.newChars_len];show (i+1<=maxLen/\(i+1)*16<=_);unfold maxLen;omega
   have HCH:Hid (SChar (fun _=>True) w [.int .i64 y,.int .i64 (i:Int)] ⟨y,(i:Int)⟩):=⟨rfl,by unfold I64;have:=HR.out;simp only;omega,by unfold I64;simp only;omega⟩
   obtain ⟨c0,ci,cz0,cz1,cz2⟩:=info_parts inf_Char;clear hi3 hin;have hnm:hb ∉ (Value.slice oc i cc).ownBlock.toList:=fun hm=>by have:=(HT.out.2.1.lt hb (by simpa using hm)).1;have:=HB.out.2.2.1;omega
   have A0:∀ W,Mod (Value.slice oc i cc).ownBlock.toList wr W->W.cell? ⟨hb,2,none⟩=some (.slice oc i cc):=fun W m=>((HT.out.1.own.at 2 rfl).kept m hnm).cell 2
   clear hnm;have CR:=Hi (fun W=>rest_any k 100 HK.out (by decide) (by decide) W);rw [HR.out.1] at CR;go_upto_region 10 with fail;refine Sw.wp_region_sw (I:=Mod (Value.slice oc i cc).ownBlock.toList wr) (F0:=(fun W=>LE w P0 fb [(fb,#[.int .i64 F.unit,.slice ga gn gc,.slice c.a c.n c.c,.slice lk.a lk.n lk.c,.slice fe.a fe.n fe.c,.slice ax.a ax.n ax.c,.slice rg.a rg.n rg.c,.slice fu.a fu.n fu.c,.slice cv.a cv.n cv.c],32),(gb,#[.int .i64 F.unit,.slice ga gn gc,.slice c.a c.n c.c,.slice lk.a lk.n lk.c,.slice none 0 0,.slice ax.a ax.n ax.c,.slice rg.a rg.n rg.c,.slice fu.a fu.n fu.c,.slice cv.a cv.n cv.c],32),(hb,#[.int .i64 F.unit,.slice ga gn gc,.slice oc i cc,.slice lk.a lk.n lk.c,.slice fe.a fe.n fe.c,.slice ax.a ax.n ax.c,.slice rg.a rg.n rg.c,.slice fu.a fu.n fu.c,.slice cv.a cv.n cv.c],32)] W/\Grow B1 37 2 SChar (fun _=>False) (.slice oc i cc) (Mr.newChars i r) W/\B1<=W.heap.size)) (fun _ _ h k=>h.then (k.more (by simp))) 11 [(0,none),(1,none),(2,none),(3,none),(4,none),(7,none),(5,some ((fun kx W=>kx=.int .i64 r/\LE w P0 fb [(fb,#[.int .i64 F.unit,.slice ga gn gc,.slice c.a c.n c.c,.slice lk.a lk.n lk.c,.slice fe.a fe.n fe.c,.slice ax.a ax.n ax.c,.slice rg.a rg.n rg.c,.slice fu.a fu.n fu.c,.slice cv.a cv.n cv.c],32),(gb,#[.int .i64 F.unit,.slice ga gn gc,.slice c.a c.n c.c,.slice lk.a lk.n lk.c,.slice none 0 0,.slice ax.a ax.n ax.c,.slice rg.a rg.n rg.c,.slice fu.a fu.n fu.c,.slice cv.a cv.n cv.c],32),(hb,#[.int .i64 F.unit,.slice ga gn gc,.slice oc i cc,.slice lk.a lk.n lk.c,.slice fe.a fe.n fe.c,.slice ax.a ax.n ax.c,.slice rg.a rg.n rg.c,.slice fu.a fu.n fu.c,.slice cv.a cv.n cv.c],32)] W/\Grow B1 37 2 SChar (fun _=>False) (.slice oc i cc) (Mr.newChars i r) W/\B1<=W.heap.size))),(6,none),(8,none),(9,some ((fun kx W=>(∃ b,kx=.slice (some ⟨b,0,none⟩) 1 1/\Blk W b #[.int .i64 y,.int .i64 (i:Int)] 37)/\LE w P0 fb [(fb,#[.int .i64 F.unit,.slice ga gn gc,.slice c.a c.n c.c,.slice lk.a lk.n lk.c,.slice fe.a fe.n fe.c,.slice ax.a ax.n ax.c,.slice rg.a rg.n rg.c,.slice fu.a fu.n fu.c,.slice cv.a cv.n cv.c],32),(gb,#[.int .i64 F.unit,.slice ga gn gc,.slice c.a c.n c.c,.slice lk.a lk.n lk.c,.slice none 0 0,.slice ax.a ax.n ax.c,.slice rg.a rg.n rg.c,.slice fu.a fu.n fu.c,.slice cv.a cv.n cv.c],32),(hb,#[.int .i64 F.unit,.slice ga gn gc,.slice oc i cc,.slice lk.a lk.n lk.c,.slice fe.a fe.n fe.c,.slice ax.a ax.n ax.c,.slice rg.a rg.n rg.c,.slice fu.a fu.n fu.c,.slice cv.a cv.n cv.c],32)] W/\Grow B1 37 2 SChar (fun _=>False) (.slice oc i cc) (Mr.newChars i r) W/\B1<=W.heap.size))),(10,some ((fun kx W=>(∃ oc' cc',kx=.slice oc' (i+1) cc')/\LE w P0 fb [(fb,#[.int .i64 F.unit,.slice ga gn gc,.slice c.a c.n c.c,.slice lk.a lk.n lk.c,.slice fe.a fe.n fe.c,.slice ax.a ax.n ax.c,.slice rg.a rg.n rg.c,.slice fu.a fu.n fu.c,.slice cv.a cv.n cv.c],32),(gb,#[.int .i64 F.unit,.slice ga gn gc,.slice c.a c.n c.c,.slice lk.a lk.n lk.c,.slice none 0 0,.slice ax.a ax.n ax.c,.slice rg.a rg.n rg.c,.slice fu.a fu.n fu.c,.slice cv.a cv.n cv.c],32),(hb,#[.int .i64 F.unit,.slice ga gn gc,.slice oc i cc,.slice lk.a lk.n lk.c,.slice fe.a fe.n fe.c,.slice ax.a ax.n ax.c,.slice rg.a rg.n rg.c,.slice fu.a fu.n fu.c,.slice cv.a cv.n cv.c],32)] W/\Grow B1 37 2 SChar (fun _=>False) kx (Mr.newChars (i+1) r) W/\B1<=W.heap.size)))] (by kernel_rfl) (by kernel_rfl) (Sq.nodup_of (by kernel_rfl)) ?hTS177 (((Mod.refl [] wr).drew).more (by simp)) (fun W W' h m=>⟨h.1.call HP.out.1 m,h.2.1.mod SChar.stay m,nT h.2.2 m.size⟩) ⟨HT.out.1.call HP.out.1 (mR.drew),HT.out.2.1.mod SChar.stay (mR.drew),HT.out.2.2⟩ ?mainS177
   case hTS177 =>
    intro p hp T hT v;simp only [List.mem_cons,List.not_mem_nil,or_false] at hp;rcases hp with rfl | rfl | rfl | rfl | rfl | rfl | rfl | rfl | rfl | rfl | rfl <;> first | (cases hT;done) | (cases hT;first | exact (fun W W' h m=>⟨h.1,h.2.1.call HP.out.1 m,h.2.2.1.mod SChar.stay m,nT h.2.2.2 m.size⟩) | exact (fun W W' h m=>⟨h.1.elim fun b h=>⟨b,h.1,h.2.kept m (by simp)⟩,h.2.1.call HP.out.1 m,h.2.2.1.mod SChar.stay m,nT h.2.2.2 m.size⟩))
   iterate 6 refine Sw.vv (w0:=wr.drew) (((Mod.refl [] wr).drew).more (by simp)) ?_
   refine Sw.xx (fun w' hw' hF K Q hK=>?_) (fun kv hkv=>?_)
   ·go_wp2_with fail;refine (CR.out w').mono ?_;rintro e w'' ⟨rfl,m''⟩;go_wp2;exact hK _ _ (hw'.then (m''.more (by simp))) ⟨rfl,hF.1.call HP.out.1 m'',hF.2.1.mod SChar.stay m'',nT hF.2.2 m''.size⟩
   obtain ⟨_,_,rfl,-⟩:=hkv
   iterate 2 refine Sw.vv (w0:=wr.drew) (((Mod.refl [] wr).drew).more (by simp)) ?_
   refine Sw.xx (fun w' hw' hF K Q hK=>?_) (fun kv hkv=>?_)
   ·go_wp2;exact hK _ _ (hw'.alloc _) ⟨⟨_,rfl,Blk.new _ _ _⟩,hF.2.1.call HP.out.1 (mR.alloc _),hF.2.2.1.mod SChar.stay (mR.alloc _),nT hF.2.2.2 (by simp)⟩
   obtain ⟨_,_,⟨nb,rfl,_⟩,_⟩:=hkv;refine Sw.xx (fun w' hw' hF K Q hK=>?_) (fun kv hkv=>?_)
   ·obtain ⟨⟨b8,he8,hB8⟩,hO⟩:=hF;cases he8;refine oper_cat (base:=B1) (v:=.slice oc i cc) (l:=Mr.newChars i r) (l':=[⟨y,(i:Int)⟩]) rfl _ _ rfl Tryz.underlying25 ci cz0 cz1 cz2 rfl (by decide) SChar.stay SChar.weak one_char rfl hO.2.1 rfl (SRows.one (S:=fun _=>True) hB8 rfl trivial HCH.out) (fun _ _ h=>h) HLB.out.1 HLB.out.2 hO.2.2 (fun v' w'' hG hg hbk=>?_);exact hK _ _ (hw'.then (Mod.ofGrown hg)) (less_push HB.out.1 HB.out.2.1 HB.out.2.2.1 HB.out.2.2.2.1 HB.out.2.2.2.2 HP.out.1 HY.out hO.1 hO.2.1 hO.2.2 hG hg)
   obtain ⟨_,_,⟨oc',cc',rfl⟩,_⟩:=hkv;refine Sw.nil_go ?_;intro w' hw' hF;simp only [qS,qZ];have HF2:=Hi hF.2;clear hF hw' A0 CR ci cz0 cz1 cz2 HLB HCH em ea;have g1:=(HF2.out.1.own.at 2 rfl).cell 2;have g2:=(HF2.out.1.own.at 2 rfl).frozen 2;have HT2:Hid (LE w P0 fb [(fb,#[.int .i64 F.unit,.slice ga gn gc,.slice c.a c.n c.c,.slice lk.a lk.n lk.c,.slice fe.a fe.n fe.c,.slice ax.a ax.n ax.c,.slice rg.a rg.n rg.c,.slice fu.a fu.n fu.c,.slice cv.a cv.n cv.c],32),(gb,#[.int .i64 F.unit,.slice ga gn gc,.slice c.a c.n c.c,.slice lk.a lk.n lk.c,.slice none 0 0,.slice ax.a ax.n ax.c,.slice rg.a rg.n rg.c,.slice fu.a fu.n fu.c,.slice cv.a cv.n cv.c],32),(hb,#[.int .i64 F.unit,.slice ga gn gc,.slice oc' (i+1) cc',.slice lk.a lk.n lk.c,.slice fe.a fe.n fe.c,.slice ax.a ax.n ax.c,.slice rg.a rg.n rg.c,.slice fu.a fu.n fu.c,.slice cv.a cv.n cv.c],32)] (w'.setCell ⟨hb,2,none⟩ (.slice oc' (i+1) cc'))/\Grow B1 37 2 SChar (fun _=>False) (.slice oc' (i+1) cc') (Mr.newChars (i+1) r) (w'.setCell ⟨hb,2,none⟩ (.slice oc' (i+1) cc'))/\B1<=(w'.setCell ⟨hb,2,none⟩ (.slice oc' (i+1) cc')).heap.size):=⟨HF2.out.1.set HP.out.1 2 rfl 2 (.slice oc' (i+1) cc'),HF2.out.2.1.set SChar.stay (p:=⟨hb,2,none⟩) (fun he=>by have:=(HF2.out.2.1.lt hb he).1;have:=HB.out.2.2.1;omega) (fun h=>h) _,by have:=HF2.out.2.2;simpa using this⟩
   simp only [gA,gZ,gS] at g1;clear HF2;go_wp2;go_roundg (gk - 1)
   case measure=>have:=hi.out;have:=HIN.out;omega
   case rel=>exact ⟨i+1,oc',cc',by rw [Int.natCast_add];rfl,by have:=hi.out;have:=HIN.out;show i+1+(gk - 1)=gn;omega,HT2.out⟩
  case neg =>
   obtain rfl:i=gn:=by have:=hi.out;omega
   have k3:decide ((i:Int)<(i:Int))=false:=dF (by omega);have k4:decide (i<i)=false:=dF (by omega);clear hin hi;obtain ⟨P1,hP1⟩:∃ P1:Bl->World->Prop,P1=fun S W=>P0 S W/\SRows 2 SChar S W (.slice oc i cc) (Mr.newChars i r):=⟨_,rfl⟩
   have HP1:Hid (DP P1/\∀ S W,P1 S W->SFont S W (fontCells F.unit ⟨ga,i,gc⟩ c lk fe ax rg fu cv).toList F/\SRows 2 SChar S W (.slice oc i cc) (Mr.newChars i r)):=by
    show DP P1/\_;rw [hP1];exact ⟨HP.out.1.and (DP.rows (by decide) SChar.stay SChar.weak _ _),fun S W h=>⟨HP.out.2 S W h.1,h.2⟩⟩
   have HL3:Hid (LE w P1 wr.heap.size [(fb,#[.int .i64 F.unit,.slice ga i gc,.slice c.a c.n c.c,.slice lk.a lk.n lk.c,.slice fe.a fe.n fe.c,.slice ax.a ax.n ax.c,.slice rg.a rg.n rg.c,.slice fu.a fu.n fu.c,.slice cv.a cv.n cv.c],32),(gb,#[.int .i64 F.unit,.slice ga i gc,.slice c.a c.n c.c,.slice lk.a lk.n lk.c,.slice none 0 0,.slice ax.a ax.n ax.c,.slice rg.a rg.n rg.c,.slice fu.a fu.n fu.c,.slice cv.a cv.n cv.c],32),(hb,#[.int .i64 F.unit,.slice ga i gc,.slice oc i cc,.slice lk.a lk.n lk.c,.slice fe.a fe.n fe.c,.slice ax.a ax.n ax.c,.slice rg.a rg.n rg.c,.slice fu.a fu.n fu.c,.slice cv.a cv.n cv.c],32)] wr):=by
    show LE _ P1 _ _ _;rw [hP1];refine HT.out.1.more HP.out.1 (DP.rows (by decide) SChar.stay SChar.weak _ _) (HT.out.2.1.done (by decide) SChar.weak (fun _ _ h=>h.elim) fun b hb=>⟨(HT.out.2.1.lt b hb).2,fun hm=>?_⟩);have h1:=(HT.out.2.1.lt b hb).1;have h2:=HB.out;simp only [List.map_cons,List.map_nil,List.mem_cons,List.not_mem_nil,or_false] at hm;omega
   clear hP1 HT HP HB HB1;have q0:=(HL3.out.own.at 0 rfl).cell 0;have q2:=(HL3.out.own.at 0 rfl).cell 2;have q3:=(HL3.out.own.at 0 rfl).cell 3;have q4:=(HL3.out.own.at 0 rfl).cell 4;have q5:=(HL3.out.own.at 0 rfl).cell 5;have q6:=(HL3.out.own.at 0 rfl).cell 6;have q7:=(HL3.out.own.at 0 rfl).cell 7;have q8:=(HL3.out.own.at 0 rfl).cell 8;simp only [gA,gZ,gS] at q0 q2 q3 q4 q5 q6 q7 q8;go_upto_region 12 with fail;have HL4:=Hi (HL3.out.box HP1.out.1 #[.int .i64 F.unit,.slice ga i gc,.slice c.a c.n c.c,.slice lk.a lk.n lk.c,.slice fe.a fe.n fe.c,.slice ax.a ax.n ax.c,.slice rg.a rg.n rg.c,.slice fu.a fu.n fu.c,.slice cv.a cv.n cv.c] 32);simp only [List.cons_append,List.nil_append] at HL4;have hsz:wr.heap.size<=(wr.alloc (.cells #[.int .i64 F.unit,.slice ga i gc,.slice c.a c.n c.c,.slice lk.a lk.n lk.c,.slice fe.a fe.n fe.c,.slice ax.a ax.n ax.c,.slice rg.a rg.n rg.c,.slice fu.a fu.n fu.c,.slice cv.a cv.n cv.c] 32)).heap.size:=by simp
   clear q0 q1 q2 q3 q4 q5 q6 q7 q8 HL3 k3 k4;generalize wr.alloc _=w7 at *
   generalize hkb:wr.heap.size=kb at *
   clear hkb;have HSZ:=Hi hsz;clear hsz;have HL4a:=Hi (HL4.out.call HP1.out.1 (mR.alloc (.cells #[] 46)));have HX:Hid (SRows 9 SGlyph (LEB kb [(fb,#[.int .i64 F.unit,.slice ga i gc,.slice c.a c.n c.c,.slice lk.a lk.n lk.c,.slice fe.a fe.n fe.c,.slice ax.a ax.n ax.c,.slice rg.a rg.n rg.c,.slice fu.a fu.n fu.c,.slice cv.a cv.n cv.c],32),(gb,#[.int .i64 F.unit,.slice ga i gc,.slice c.a c.n c.c,.slice lk.a lk.n lk.c,.slice none 0 0,.slice ax.a ax.n ax.c,.slice rg.a rg.n rg.c,.slice fu.a fu.n fu.c,.slice cv.a cv.n cv.c],32),(hb,#[.int .i64 F.unit,.slice ga i gc,.slice oc i cc,.slice lk.a lk.n lk.c,.slice fe.a fe.n fe.c,.slice ax.a ax.n ax.c,.slice rg.a rg.n rg.c,.slice fu.a fu.n fu.c,.slice cv.a cv.n cv.c],32),(kb,#[.int .i64 F.unit,.slice ga i gc,.slice c.a c.n c.c,.slice lk.a lk.n lk.c,.slice fe.a fe.n fe.c,.slice ax.a ax.n ax.c,.slice rg.a rg.n rg.c,.slice fu.a fu.n fu.c,.slice cv.a cv.n cv.c],32)]) (w7.alloc (.cells #[] 46)) (.slice ga i gc) F.glyphs):=(HP1.out.2 _ _ HL4a.out.data).1.hds.2.1;have HXV:Hid (∀ cs y,SGlyph (LEB kb [(fb,#[.int .i64 F.unit,.slice ga i gc,.slice c.a c.n c.c,.slice lk.a lk.n lk.c,.slice fe.a fe.n fe.c,.slice ax.a ax.n ax.c,.slice rg.a rg.n rg.c,.slice fu.a fu.n fu.c,.slice cv.a cv.n cv.c],32),(gb,#[.int .i64 F.unit,.slice ga i gc,.slice c.a c.n c.c,.slice lk.a lk.n lk.c,.slice none 0 0,.slice ax.a ax.n ax.c,.slice rg.a rg.n rg.c,.slice fu.a fu.n fu.c,.slice cv.a cv.n cv.c],32),(hb,#[.int .i64 F.unit,.slice ga i gc,.slice oc i cc,.slice lk.a lk.n lk.c,.slice fe.a fe.n fe.c,.slice ax.a ax.n ax.c,.slice rg.a rg.n rg.c,.slice fu.a fu.n fu.c,.slice cv.a cv.n cv.c],32),(kb,#[.int .i64 F.unit,.slice ga i gc,.slice c.a c.n c.c,.slice lk.a lk.n lk.c,.slice fe.a fe.n fe.c,.slice ax.a ax.n ax.c,.slice rg.a rg.n rg.c,.slice fu.a fu.n fu.c,.slice cv.a cv.n cv.c],32)]) (w7.alloc (.cells #[] 46)) cs y->SGlyph (fun b=>LEB kb [(fb,#[.int .i64 F.unit,.slice ga i gc,.slice c.a c.n c.c,.slice lk.a lk.n lk.c,.slice fe.a fe.n fe.c,.slice ax.a ax.n ax.c,.slice rg.a rg.n rg.c,.slice fu.a fu.n fu.c,.slice cv.a cv.n cv.c],32),(gb,#[.int .i64 F.unit,.slice ga i gc,.slice c.a c.n c.c,.slice lk.a lk.n lk.c,.slice none 0 0,.slice ax.a ax.n ax.c,.slice rg.a rg.n rg.c,.slice fu.a fu.n fu.c,.slice cv.a cv.n cv.c],32),(hb,#[.int .i64 F.unit,.slice ga i gc,.slice oc i cc,.slice lk.a lk.n lk.c,.slice fe.a fe.n fe.c,.slice ax.a ax.n ax.c,.slice rg.a rg.n rg.c,.slice fu.a fu.n fu.c,.slice cv.a cv.n cv.c],32),(kb,#[.int .i64 F.unit,.slice ga i gc,.slice c.a c.n c.c,.slice lk.a lk.n lk.c,.slice fe.a fe.n fe.c,.slice ax.a ax.n ax.c,.slice rg.a rg.n rg.c,.slice fu.a fu.n fu.c,.slice cv.a cv.n cv.c],32)] b/\(Value.slice none 0 0).ownBlock≠some b) (w7.alloc (.cells #[] 46)) cs y):=fun cs y h=>SGlyph.weak _ _ _ _ _ h fun b _ hb=>⟨hb,by simp [Value.ownBlock]⟩
   obtain ⟨gi0,gi,gz0,gz1,gz2⟩:=info_parts inf_Glyph;have q1:=(HL4a.out.own.at 0 rfl).cell 1;simp only [gA,gZ,gS] at q1;have HGB:Hid (F.glyphs.length<=maxLen/\F.glyphs.length*176<=140737488355328):=by have:=HN.out;show _/\_;unfold maxLen;omega
   go_wp2_with (at_builtin;refine wpList_copy (base:=(w7.alloc (.cells #[] 46)).heap.size) (k:=9) (e:=46) (l':=F.glyphs) (S:=LEB kb [(fb,#[.int .i64 F.unit,.slice ga i gc,.slice c.a c.n c.c,.slice lk.a lk.n lk.c,.slice fe.a fe.n fe.c,.slice ax.a ax.n ax.c,.slice rg.a rg.n rg.c,.slice fu.a fu.n fu.c,.slice cv.a cv.n cv.c],32),(gb,#[.int .i64 F.unit,.slice ga i gc,.slice c.a c.n c.c,.slice lk.a lk.n lk.c,.slice none 0 0,.slice ax.a ax.n ax.c,.slice rg.a rg.n rg.c,.slice fu.a fu.n fu.c,.slice cv.a cv.n cv.c],32),(hb,#[.int .i64 F.unit,.slice ga i gc,.slice oc i cc,.slice lk.a lk.n lk.c,.slice fe.a fe.n fe.c,.slice ax.a ax.n ax.c,.slice rg.a rg.n rg.c,.slice fu.a fu.n fu.c,.slice cv.a cv.n cv.c],32),(kb,#[.int .i64 F.unit,.slice ga i gc,.slice c.a c.n c.c,.slice lk.a lk.n lk.c,.slice fe.a fe.n fe.c,.slice ax.a ax.n ax.c,.slice rg.a rg.n rg.c,.slice fu.a fu.n fu.c,.slice cv.a cv.n cv.c],32)]) rfl _ _ rfl Tryz.underlying24 gi gz0 gz1 gz2 rfl (by decide) SGlyph.stay SGlyph.weak one_glyph w7.heap.size rfl rfl HX.out HXV.out HGB.out.1 HGB.out.2 (nR _) ?_);intro v' w9 hcp hm9;have hne:F.glyphs≠[]:=fun h9=>by have:=HN.out;rw [h9] at this;simp at this;omega
   unfold Copied at hcp;rw [if_neg hne] at hcp;obtain ⟨cb,cc2,cur,css,rfl,hcb,-,hcs,hBc,hE,hcl⟩:=hcp.blk hne;have hNi:F.glyphs.length=i:=HN.out.1.symm;rw [hNi] at hcs hcl ⊢;have hn5:=HL4a.out.new HP1.out.1 hm9 (by simpa using hcb) hBc
   have hm5:=hn5.more HP1.out.1 (DP.elems SGlyph.stay SGlyph.weak css F.glyphs) (hE.weak SGlyph.weak fun b hb hs=>⟨hb,fun hm=>by
    rw [List.map_append,List.mem_append] at hm;rcases hm with hm | hm
    ·exact hs.1.2 hm
    ·exact hs.2 (by simpa using hm)⟩)
   obtain ⟨P2,hP2⟩:∃ P2:Bl->World->Prop,P2=fun S W=>P1 S W/\Elems 9 SGlyph S W css F.glyphs:=⟨_,rfl⟩
   rw [<- hP2] at hm5;have HP2:Hid (DP P2/\∀ S W,P2 S W->P1 S W/\Elems 9 SGlyph S W css F.glyphs):=by
    show DP P2/\_;rw [hP2];exact ⟨HP1.out.1.and (DP.elems SGlyph.stay SGlyph.weak css F.glyphs),fun S W h=>h⟩
   have HCUR:Hid (i*9<=cur.size/\∀ q j,q<i->j<9->cur[q*9+j]?=(css.getD q [])[j]?):=⟨hcs,hcl⟩
   have HL5:=Hi hm5;simp only [List.cons_append,List.nil_append] at HL5;clear hn5 hm5 hP2 hcs hcl hE hBc hcp hm9 hcb hne hNi q1 HGB HX HXV HL4a HL4 gi gz0 gz1 gz2;generalize w9.heap.size=B5 at *
   have q1:=(HL5.out.own.at 3 rfl).cell 1;have q9:=(HL5.out.own.at 3 rfl).frozen 1;simp only [gA,gZ,gS] at q1;go_upto_region 13 with fail;have HL6:=Hi (HL5.out.set HP2.out.1 3 rfl 1 (.slice (some ⟨cb,0,none⟩) i cc2));simp only [List.set_cons_succ,List.set_cons_zero] at HL6;clear q1 q9 HL5;generalize w9.setCell _ _=w10 at *
   have q1:=(HL6.out.own.at 3 rfl).cell 1;simp only [gA,gZ,gS,List.setIfInBounds_toArray,List.set_cons_succ,List.set_cons_zero] at q1;obtain ⟨L,hL⟩:∃ L,L+1=i:=⟨i - 1,by have:=HN.out;omega⟩
   have eL:IntKind.i64.wrap ((i:Int) - 1)=(L:Int):=by rw [show (i:Int) - 1=(L:Int) by omega];exact IntWalk.i64_in _ (by have:=HN.out;omega)
   have l0:(0:Int)<=(L:Int):=by omega
   have l1:(L:Int)<(i:Int):=by omega
   have hs5:L*9+8<cur.size:=by have:=HCUR.out.1;omega
   obtain ⟨x5,q5⟩:∃ x,cur[L*9+5]?=some x:=⟨_,Array.getElem?_eq_getElem (by omega)⟩
   have q6:=(HL6.out.own.at 4 rfl).cell (L*9+5);rw [q5] at q6;have q7:=(HL6.out.own.at 4 rfl).frozen (L*9+5);have HLL:=Hi (And.intro hL hs5);clear hL hs5 q5;go_upto_region 15 with fail;have HL7:=Hi (HL6.out.set HP2.out.1 4 rfl (L*9+5) (.slice none 0 0));simp only [List.set_cons_succ,List.set_cons_zero] at HL7;clear q1 q6 q7 HL6;generalize w10.setCell _ _=w11 at *
   have q0:0<=k % 1000:=Int.emod_nonneg _ (by decide);have q1:k % 1000<1000:=Int.emod_lt_of_pos _ (by decide);have CR:=Hi (fun W=>rest_any k 1000 HK.out (by decide) (by decide) W);obtain ⟨r2,hr2⟩:∃ r2,k % 1000=r2:=⟨_,rfl⟩
   rw [hr2] at CR q0 q1;have HR2:=Hi (And.intro q0 q1);clear q0 q1 hr2;have hLF:L<F.glyphs.length:=by have:=HN.out;have:=HLL.out;omega
   obtain ⟨G,hG⟩:∃ G,F.glyphs[L]?=some G:=⟨_,gE hLF⟩
   have hEl:=(HP2.out.2 _ _ HL7.out.data).2;have hcl:L<css.length:=by rw [hEl.1];exact hLF
   have hE8:=(hEl.2 L hcl hLF).2;rw [(gI.1 hG).2] at hE8;obtain ⟨v3,v4,v5,v6,v7,v8,hc8,-,-,-,-,-,-,-,h8⟩:=hE8;obtain ⟨o8,c8,rfl,-⟩:=h8.form;have hk9:(css.getD L []).length=9:=by rw [List.getD_eq_getElem?_getD,gE hcl];exact (hEl.2 L hcl hLF).1
   have hc9:(cur.setIfInBounds (L*9+5) (.slice none 0 0))[L*9+8]?=some (.slice o8 G.hint.length c8):=by
    rw [Array.getElem?_setIfInBounds,if_neg (by omega),HCUR.out.2 L 8 (by have:=HLL.out;omega) (by decide),List.getD_eq_getElem?_getD,gE hcl,Option.getD_some,hc8];rfl
   obtain ⟨S5,hS5⟩:∃ S5,SRows 2 SIns S5 w11 (.slice o8 G.hint.length c8) G.hint:=⟨_,h8⟩
   have HH:=Hi (fun W (m:Mod [] w11 W)=>hS5.same SIns.stay (m.same0 S5));have HGK:=Hi (And.intro hG (And.intro hk9 (And.intro (show css.length=i by rw [hEl.1];exact HN.out.1.symm) (HF.out.2.2.1 G (List.mem_of_getElem? hG)))));have A8:∀ W,Mod [] w11 W->W.cell? ⟨cb,L*9+8,none⟩=some (.slice o8 G.hint.length c8):=fun W m=>((HL7.out.own.at 4 rfl).every W m (L*9+8)).trans hc9
   have A1:∀ W,Mod [] w11 W->W.cell? ⟨kb,1,none⟩=some (.slice (some ⟨cb,0,none⟩) i cc2):=fun W m=>(HL7.out.own.at 3 rfl).every W m 1
   have HC9:=Hi hc9;clear hLF hG hEl hcl hk9 hc9 hS5 h8 hc8;have HN8:Hid (G.hint.length<=maxLen/\G.hint.length*16<=140737488355328/\G.hint.length+[(⟨24,r2⟩:DIns)].length<=maxLen/\(G.hint.length+[(⟨24,r2⟩:DIns)].length)*16<=140737488355328):=by
    have:=HGK.out.2.2.2;show _/\_;refine ⟨?_,?_,?_,?_⟩ <;> (try simp only [List.length_cons,List.length_nil]) <;> (try unfold maxLen) <;> omega
   have HI:Hid (SIns (fun _=>True) w11 [.int .i64 24,.int .i64 r2] ⟨24,r2⟩):=⟨rfl,by show I64 24;unfold I64;omega,by show I64 r2;unfold I64;have:=HR2.out;omega⟩
   obtain ⟨ii0,ii,iz0,iz1,iz2⟩:=info_parts inf_Ins;obtain ⟨hn,hhn⟩:∃ hn,hn=G.hint.length:=⟨_,rfl⟩
   rw [<- hhn] at A8;have HHN:=Hi hhn;clear hhn;refine Sn.wp_region_sw (I:=Mod [] w11) (F0:=(fun _=>True)) (fun _ _ h k=>h.then k) 16 [(0,none),(1,none),(2,none),(4,none),(5,none),(6,none),(7,none),(8,none),(9,none),(11,none),(3,some ((fun v _ w=>IsNew w11.heap.size 48 0 #[] v w))),(10,some ((fun v _ w=>IsGrow w11.heap.size 48 2 SIns (fun _=>False) G.hint hn v w))),(12,some ((fun v F w=>v=.int .i64 r2/\F w))),(13,none),(14,some ((fun v F w=>F w/\IsNew w11.heap.size 48 1 #[.int .i64 24,.int .i64 r2] v w))),(15,some ((fun v _ w=>Grow w11.heap.size 48 2 SIns (fun _=>False) v (G.hint++[⟨24,r2⟩]) w)))] (by kernel_rfl) (by kernel_rfl) (Sq.nodup_of (by kernel_rfl)) ?hTS385 ((Mod.refl [] w11).drew) (fun _ _ _ _=>trivial) trivial ?mainS385
   case hTS385 =>
    intro p hp T hT v F9 hF9;simp only [List.mem_cons,List.not_mem_nil,or_false] at hp;rcases hp with rfl | rfl | rfl | rfl | rfl | rfl | rfl | rfl | rfl | rfl | rfl | rfl | rfl | rfl | rfl | rfl <;> first | (cases hT;done) | (cases hT;first | exact (fun _ _ h m=>h.mod SIns.stay m) | exact (fun _ _ h m=>⟨h.1,hF9 _ _ h.2 m⟩) | exact (fun _ _ h m=>⟨hF9 _ _ h.1 m,IsNew.stays _ _ _ h.2 m⟩) | exact IsGrow.stays SIns.stay v | exact IsNew.stays v)
   refine Sn.v_go (w0:=w11.drew) ((Mod.refl [] w11).drew) (a':=?_) rfl (by kernel_rfl) ?_ (fun w' hw' K Q hK=>?_) ?_;rotate_left 2
   ·go_wp2;exact hK _ mR
   rotate_left
   ·rfl
   refine Sn.v_go (w0:=w11.drew) ((Mod.refl [] w11).drew) (a':=?_) rfl (by kernel_rfl) ?_ (fun w' hw' K Q hK=>?_) ?_;rotate_left 2
   ·go_wp2;exact hK _ mR
   rotate_left
   ·rfl
   refine Sn.v_go (w0:=w11.drew) ((Mod.refl [] w11).drew) (a':=?_) rfl (by kernel_rfl) ?_ (fun w' hw' K Q hK=>?_) ?_;rotate_left 2
   ·go_wp2;exact hK _ mR
   rotate_left
   ·rfl
   refine Sn.v_go (w0:=w11.drew) ((Mod.refl [] w11).drew) (a':=?_) rfl (by kernel_rfl) ?_ (fun w' hw' K Q hK=>?_) ?_;rotate_left 2
   ·go_wp2;exact hK _ mR
   rotate_left
   ·rfl
   refine Sn.v_go (w0:=w11.drew) ((Mod.refl [] w11).drew) (a':=?_) rfl (by kernel_rfl) ?_ (fun w' hw' K Q hK=>?_) ?_;rotate_left 2
   ·go_wp2;exact hK _ mR
   rotate_left
   ·rfl
   refine Sn.v_go (w0:=w11.drew) ((Mod.refl [] w11).drew) (a':=?_) rfl (by kernel_rfl) ?_ (fun w' hw' K Q hK=>?_) ?_;rotate_left 2
   ·go_wp2;exact hK _ mR
   rotate_left
   ·rfl
   refine Sn.v_go (w0:=w11.drew) ((Mod.refl [] w11).drew) (a':=?_) rfl (by kernel_rfl) ?_ (fun w' hw' K Q hK=>?_) ?_;rotate_left 2
   ·go_wp2;exact hK _ mR
   rotate_left
   ·rfl
   refine Sn.v_go (w0:=w11.drew) ((Mod.refl [] w11).drew) (a':=?_) rfl (by kernel_rfl) ?_ (fun w' hw' K Q hK=>?_) ?_;rotate_left 2
   ·go_wp2;exact hK _ mR
   rotate_left
   ·rfl
   refine Sn.v_go (w0:=w11.drew) ((Mod.refl [] w11).drew) (a':=?_) rfl (by kernel_rfl) ?_ (fun w' hw' K Q hK=>?_) ?_;rotate_left 2
   ·go_wp2;exact hK _ mR
   rotate_left
   ·rfl
   refine Sn.v_go (w0:=w11.drew) ((Mod.refl [] w11).drew) (a':=?_) rfl (by kernel_rfl) ?_ (fun w' hw' K Q hK=>?_) ?_;rotate_left 2
   ·go_wp2;exact hK _ mR
   rotate_left
   ·rfl
   refine Sn.x_go2 (g:=?_) 58 _ rfl (by kernel_rfl) rfl (fun v=>by simp only [List.set_cons_succ,List.set_cons_zero];exact rfl) (fun w' hw' hF K Q hK=>?_) (fun kv hkv=>?_)
   ·go_wp2;exact hK _ _ (hw'.alloc _) ⟨_,rfl,Blk.new _ _ _,hw'.size⟩
   obtain ⟨w9',h9,b9,rfl,h91,hb9⟩:=hkv;clear h91 h9 w9';refine Sn.x_go2 (g:=?_) 65 _ rfl (by kernel_rfl) rfl (fun v=>by simp only [List.set_cons_succ,List.set_cons_zero];exact rfl) (fun w' hw' hF K Q hK=>?_) (fun kv hkv=>?_)
   ·obtain ⟨b8,he8,hB,_⟩:=hF;cases he8;refine oper_copy (base:=w11.heap.size) (k:=2) (e:=48) (S:=fun _=>False) (l':=G.hint) rfl _ _ rfl Tryz.underlying44 ii iz0 iz1 iz2 rfl (by decide) SIns.stay SIns.weak one_ins b9 rfl (congrArg (fun q=>Value.slice o8 q c8) HHN.out) (HH.out w' hw') (fun _ _ h=>h) HN8.out.1 HN8.out.2.1 hw'.size (fun v' w'' hcp m=>?_);have hgr:=hcp.grow hb9 (hB.kept m (by simp));exact hK _ _ (hw'.then m) ⟨HHN.out.symm ▸ hgr.form,hgr⟩
   obtain ⟨w9',h9,⟨oh,ch,rfl⟩,h91⟩:=hkv;clear h91 h9 w9';refine Sn.x_go2 (g:=?_) 67 _ rfl (by kernel_rfl) rfl (fun v=>by simp only [List.set_cons_succ,List.set_cons_zero];exact rfl) (fun w' hw' hF K Q hK=>?_) (fun kv hkv=>?_)
   ·go_wp2_with fail;refine (CR.out w').mono ?_;rintro e w'' ⟨rfl,m''⟩;go_wp2;exact hK _ _ (hw'.then m'') ⟨rfl,IsGrow.stays SIns.stay _ _ _ hF m''⟩
   obtain ⟨w9',h9,rfl,h91⟩:=hkv;clear h91 h9 w9';refine Sn.v_go (w0:=w11.drew) ((Mod.refl [] w11).drew) (a':=?_) rfl (by kernel_rfl) ?_ (fun w' hw' K Q hK=>?_) ?_;rotate_left 2
   ·go_wp2;exact hK _ mR
   rotate_left
   ·rfl
   refine Sn.x_go2 (g:=?_) 69 _ rfl (by kernel_rfl) rfl (fun v=>by simp only [List.set_cons_succ,List.set_cons_zero];exact rfl) (fun w' hw' hF K Q hK=>?_) (fun kv hkv=>?_)
   ·go_wp2;exact hK _ _ (hw'.alloc _) ⟨⟨by trivial,IsGrow.stays SIns.stay _ _ _ hF.2 (mR.alloc _)⟩,⟨_,rfl,Blk.new _ _ _,hw'.size⟩⟩
   obtain ⟨w9',h9,h91,nb,rfl,h92⟩:=hkv;clear h92 h91 h9 w9';refine Sn.x_go2 (g:=?_) 70 _ rfl (by kernel_rfl) rfl (fun v=>by simp only [List.set_cons_succ,List.set_cons_zero];exact rfl) (fun w' hw' hF K Q hK=>?_) (fun kv hkv=>?_)
   ·obtain ⟨⟨_,hgh⟩,b8,he8,hB8,hb8⟩:=hF;cases he8;refine oper_cat (base:=w11.heap.size) (v:=.slice oh hn ch) (l:=G.hint) (l':=[⟨24,r2⟩]) rfl _ _ rfl Tryz.underlying44 ii iz0 iz1 iz2 rfl (by decide) SIns.stay SIns.weak one_ins rfl hgh.2 rfl (SRows.one (S:=fun _=>True) hB8 rfl trivial HI.out) (fun _ _ h=>h) HN8.out.2.2.1 HN8.out.2.2.2 hw'.size (fun v' w'' hG hg hbk=>?_);exact hK _ _ (hw'.grew hg fun b hb=>(hgh.2.lt b hb).1) hG
   obtain ⟨w9',h9,hG5⟩:=hkv;obtain ⟨o9,c9,rfl⟩:=hG5.form;clear hG5 h9 w9';refine Sn.nil_go ?_;intro w' hw' hF;simp only [qS,qZ];generalize hw12:w'=w12 at *
   have hG2:Grow w11.heap.size 48 2 SIns (fun _=>False) (.slice o9 (G.hint++[(⟨24,r2⟩:DIns)]).length c9) (G.hint++[⟨24,r2⟩]) w12:=hF;have m12:Mod [] w11 w12:=hw';clear hF hw' hw12 CR A8 A1 HH hb9;have hu:=(HL7.out.call HP2.out.1 m12).up HP2.out.1
   have hv:=hG2.done (S':=LEB w12.heap.size [(fb,#[.int .i64 F.unit,.slice ga i gc,.slice c.a c.n c.c,.slice lk.a lk.n lk.c,.slice fe.a fe.n fe.c,.slice ax.a ax.n ax.c,.slice rg.a rg.n rg.c,.slice fu.a fu.n fu.c,.slice cv.a cv.n cv.c],32),(gb,#[.int .i64 F.unit,.slice ga i gc,.slice c.a c.n c.c,.slice lk.a lk.n lk.c,.slice none 0 0,.slice ax.a ax.n ax.c,.slice rg.a rg.n rg.c,.slice fu.a fu.n fu.c,.slice cv.a cv.n cv.c],32),(hb,#[.int .i64 F.unit,.slice ga i gc,.slice oc i cc,.slice lk.a lk.n lk.c,.slice fe.a fe.n fe.c,.slice ax.a ax.n ax.c,.slice rg.a rg.n rg.c,.slice fu.a fu.n fu.c,.slice cv.a cv.n cv.c],32),(kb,#[.int .i64 F.unit,.slice (some ⟨cb,0,none⟩) i cc2,.slice c.a c.n c.c,.slice lk.a lk.n lk.c,.slice fe.a fe.n fe.c,.slice ax.a ax.n ax.c,.slice rg.a rg.n rg.c,.slice fu.a fu.n fu.c,.slice cv.a cv.n cv.c],32),(cb,cur.setIfInBounds (L*9+5) (.slice none 0 0),46)]) (by decide) SIns.weak (fun _ _ h=>h.elim) fun b hb=>⟨(hG2.lt b hb).2,fun hm=>by
    obtain ⟨p,hp,hpe⟩:=List.mem_map.1 hm;have h3:=HL7.out.lt p hp;have h4:=(hG2.lt b hb).1
    omega⟩
   have hE2:=elems_last (HP2.out.2 _ _ hu.data).2 HGK.out.1 hv;have hm:=hu.more HP2.out.1 (DP.elems SGlyph.stay SGlyph.weak _ _) hE2;obtain ⟨GL,hGL⟩:∃ GL,GL=F.glyphs.set L (Mr.newGlyph G r2):=⟨_,rfl⟩
   obtain ⟨cs2,hcs2⟩:∃ cs2,cs2=css.set L (((css.getD L []).set 5 (.slice none 0 0)).set 8 (.slice o9 (G.hint++[(⟨24,r2⟩:DIns)]).length c9)):=⟨_,rfl⟩
   rw [<- hGL,<- hcs2] at hm;have HL8:Hid (LE w (fun S W=>P1 S W/\Elems 9 SGlyph S W cs2 GL) w12.heap.size [(fb,#[.int .i64 F.unit,.slice ga i gc,.slice c.a c.n c.c,.slice lk.a lk.n lk.c,.slice fe.a fe.n fe.c,.slice ax.a ax.n ax.c,.slice rg.a rg.n rg.c,.slice fu.a fu.n fu.c,.slice cv.a cv.n cv.c],32),(gb,#[.int .i64 F.unit,.slice ga i gc,.slice c.a c.n c.c,.slice lk.a lk.n lk.c,.slice none 0 0,.slice ax.a ax.n ax.c,.slice rg.a rg.n rg.c,.slice fu.a fu.n fu.c,.slice cv.a cv.n cv.c],32),(hb,#[.int .i64 F.unit,.slice ga i gc,.slice oc i cc,.slice lk.a lk.n lk.c,.slice fe.a fe.n fe.c,.slice ax.a ax.n ax.c,.slice rg.a rg.n rg.c,.slice fu.a fu.n fu.c,.slice cv.a cv.n cv.c],32),(kb,#[.int .i64 F.unit,.slice (some ⟨cb,0,none⟩) i cc2,.slice c.a c.n c.c,.slice lk.a lk.n lk.c,.slice fe.a fe.n fe.c,.slice ax.a ax.n ax.c,.slice rg.a rg.n rg.c,.slice fu.a fu.n fu.c,.slice cv.a cv.n cv.c],32),(cb,cur.setIfInBounds (L*9+5) (.slice none 0 0),46)] w12):=hm.to (HP2.out.1.and (DP.elems SGlyph.stay SGlyph.weak cs2 GL)) fun S W h=>⟨(HP2.out.2 S W h.1).1,h.2⟩
   have HGL:Hid (GL=F.glyphs.set L (Mr.newGlyph G r2)/\GL.length=i/\∀ q j,q<i->j<9->((cur.setIfInBounds (L*9+5) (.slice none 0 0)).setIfInBounds (L*9+8) (.slice o9 (G.hint++[(⟨24,r2⟩:DIns)]).length c9))[q*9+j]?=(cs2.getD q [])[j]?):=by
    refine ⟨hGL,by rw [hGL,List.length_set];exact HN.out.1.symm,?_⟩;rw [hcs2];exact cells_last (by have:=HLL.out;omega) HGK.out.2.2.1 HGK.out.2.1 HCUR.out.1 HCUR.out.2
   generalize (G.hint++[(⟨24,r2⟩:DIns)]).length=ln at *
   have q8:=(HL8.out.own.at 4 rfl).cell (L*9+8);rw [HC9.out] at q8;have q9:=(HL8.out.own.at 4 rfl).frozen (L*9+8);clear hm hE2 hv hu m12 hG2 hGL hcs2 HN8 HI ii iz0 iz1 iz2 HC9 HL7;go_upto_region 16 with fail;have hs8:=HL8.out.set (HP1.out.1.and (DP.elems SGlyph.stay SGlyph.weak cs2 GL)) 4 rfl (L*9+8) (.slice o9 ln c9);simp only [List.set_cons_succ,List.set_cons_zero] at hs8;have HL9:Hid (LE w (fun S W=>P1 S W/\SRows 9 SGlyph S W (.slice (some ⟨cb,0,none⟩) i cc2) GL) _ [(fb,#[.int .i64 F.unit,.slice ga i gc,.slice c.a c.n c.c,.slice lk.a lk.n lk.c,.slice fe.a fe.n fe.c,.slice ax.a ax.n ax.c,.slice rg.a rg.n rg.c,.slice fu.a fu.n fu.c,.slice cv.a cv.n cv.c],32),(gb,#[.int .i64 F.unit,.slice ga i gc,.slice c.a c.n c.c,.slice lk.a lk.n lk.c,.slice none 0 0,.slice ax.a ax.n ax.c,.slice rg.a rg.n rg.c,.slice fu.a fu.n fu.c,.slice cv.a cv.n cv.c],32),(hb,#[.int .i64 F.unit,.slice ga i gc,.slice oc i cc,.slice lk.a lk.n lk.c,.slice fe.a fe.n fe.c,.slice ax.a ax.n ax.c,.slice rg.a rg.n rg.c,.slice fu.a fu.n fu.c,.slice cv.a cv.n cv.c],32),(kb,#[.int .i64 F.unit,.slice (some ⟨cb,0,none⟩) i cc2,.slice c.a c.n c.c,.slice lk.a lk.n lk.c,.slice fe.a fe.n fe.c,.slice ax.a ax.n ax.c,.slice rg.a rg.n rg.c,.slice fu.a fu.n fu.c,.slice cv.a cv.n cv.c],32)] _):=LE.glyphs (bx:=[(fb,#[.int .i64 F.unit,.slice ga i gc,.slice c.a c.n c.c,.slice lk.a lk.n lk.c,.slice fe.a fe.n fe.c,.slice ax.a ax.n ax.c,.slice rg.a rg.n rg.c,.slice fu.a fu.n fu.c,.slice cv.a cv.n cv.c],32),(gb,#[.int .i64 F.unit,.slice ga i gc,.slice c.a c.n c.c,.slice lk.a lk.n lk.c,.slice none 0 0,.slice ax.a ax.n ax.c,.slice rg.a rg.n rg.c,.slice fu.a fu.n fu.c,.slice cv.a cv.n cv.c],32),(hb,#[.int .i64 F.unit,.slice ga i gc,.slice oc i cc,.slice lk.a lk.n lk.c,.slice fe.a fe.n fe.c,.slice ax.a ax.n ax.c,.slice rg.a rg.n rg.c,.slice fu.a fu.n fu.c,.slice cv.a cv.n cv.c],32),(kb,#[.int .i64 F.unit,.slice (some ⟨cb,0,none⟩) i cc2,.slice c.a c.n c.c,.slice lk.a lk.n lk.c,.slice fe.a fe.n fe.c,.slice ax.a ax.n ax.c,.slice rg.a rg.n rg.c,.slice fu.a fu.n fu.c,.slice cv.a cv.n cv.c],32)]) SGlyph.stay SGlyph.weak HP1.out.1 hs8 HGL.out.2.2 HGL.out.2.1 (by have:=HN.out;unfold maxLen;omega);clear hs8 HL8 q8 q9;generalize w12.setCell _ _=w13 at *
   obtain ⟨P3,hP3⟩:∃ P3:Bl->World->Prop,P3=fun S W=>P1 S W/\SRows 9 SGlyph S W (.slice (some ⟨cb,0,none⟩) i cc2) GL:=⟨_,rfl⟩
   rw [<- hP3] at HL9;have HP3:Hid (DP P3/\∀ S W,P3 S W->(SFont S W (fontCells F.unit ⟨ga,i,gc⟩ c lk fe ax rg fu cv).toList F/\SRows 2 SChar S W (.slice oc i cc) (Mr.newChars i r))/\SRows 9 SGlyph S W (.slice (some ⟨cb,0,none⟩) i cc2) GL):=by
    show DP P3/\_;rw [hP3];exact ⟨HP1.out.1.and (DP.rows (by decide) SGlyph.stay SGlyph.weak _ _),fun S W h=>⟨HP1.out.2 S W h.1,h.2⟩⟩
   clear hP3 HP1 HP2;have q0:=(HL9.out.own.at 0 rfl).cell 0;have q1:=(HL9.out.own.at 0 rfl).cell 1;have q2:=(HL9.out.own.at 0 rfl).cell 2;have q3:=(HL9.out.own.at 0 rfl).cell 3;have q4:=(HL9.out.own.at 0 rfl).cell 4;have q5:=(HL9.out.own.at 0 rfl).cell 5;have q6:=(HL9.out.own.at 0 rfl).cell 6;have q7:=(HL9.out.own.at 0 rfl).cell 7;have q8:=(HL9.out.own.at 0 rfl).cell 8;simp only [gA,gZ,gS] at q0 q1 q2 q3 q4 q5 q6 q7 q8;go_upto_region 18 with fail;have HL10:=Hi (HL9.out.box HP3.out.1 #[.int .i64 F.unit,.slice ga i gc,.slice c.a c.n c.c,.slice lk.a lk.n lk.c,.slice none 0 0,.slice ax.a ax.n ax.c,.slice rg.a rg.n rg.c,.slice fu.a fu.n fu.c,.slice cv.a cv.n cv.c] 32);simp only [List.cons_append,List.nil_append] at HL10;clear q0 q1 q2 q3 q4 q5 q6 q7 q8 HL9;generalize w13.alloc _=w14 at *
   generalize w13.heap.size=lb at *
   obtain ⟨S5,hS5,hS6⟩:∃ S5:Bl,SRows 3 SLookup S5 w14 (.slice lk.a lk.n lk.c) F.lookups/\∀ b,S5 b->b ∉ ([(fb,#[.int .i64 F.unit,.slice ga i gc,.slice c.a c.n c.c,.slice lk.a lk.n lk.c,.slice fe.a fe.n fe.c,.slice ax.a ax.n ax.c,.slice rg.a rg.n rg.c,.slice fu.a fu.n fu.c,.slice cv.a cv.n cv.c],32),(gb,#[.int .i64 F.unit,.slice ga i gc,.slice c.a c.n c.c,.slice lk.a lk.n lk.c,.slice none 0 0,.slice ax.a ax.n ax.c,.slice rg.a rg.n rg.c,.slice fu.a fu.n fu.c,.slice cv.a cv.n cv.c],32),(hb,#[.int .i64 F.unit,.slice ga i gc,.slice oc i cc,.slice lk.a lk.n lk.c,.slice fe.a fe.n fe.c,.slice ax.a ax.n ax.c,.slice rg.a rg.n rg.c,.slice fu.a fu.n fu.c,.slice cv.a cv.n cv.c],32),(kb,#[.int .i64 F.unit,.slice (some ⟨cb,0,none⟩) i cc2,.slice c.a c.n c.c,.slice lk.a lk.n lk.c,.slice fe.a fe.n fe.c,.slice ax.a ax.n ax.c,.slice rg.a rg.n rg.c,.slice fu.a fu.n fu.c,.slice cv.a cv.n cv.c],32),(lb,#[.int .i64 F.unit,.slice ga i gc,.slice c.a c.n c.c,.slice lk.a lk.n lk.c,.slice none 0 0,.slice ax.a ax.n ax.c,.slice rg.a rg.n rg.c,.slice fu.a fu.n fu.c,.slice cv.a cv.n cv.c],32)]:List (Nat×Array Value×TypeId)).map (·.1):=⟨_,(HP3.out.2 _ _ HL10.out.data).1.1.hds.2.2.2.1,fun b hb=>hb.2⟩
   have HLN:=Hi (And.intro hS5.n (And.intro HF.out.2.1 hS6));have HH:=Hi (fun W (m:Mod [] w14 W)=>hS5.same SLookup.stay (m.same0 S5));clear hS5 hS6;obtain ⟨S7,hS7⟩:∃ S7:Bl,S7=fun b=>S5 b∨w14.heap.size<=b:=⟨_,rfl⟩
   have HS7:=Hi hS7;clear hS7;have HCV:Hid (∀ W cs y,SLookup S5 W cs y->SLookup (fun b=>S7 b/\(Value.slice none 0 0).ownBlock≠some b) W cs y):=fun W cs y h=>SLookup.weak _ _ _ _ _ h fun b _ hb=>⟨by rw [HS7.out];exact .inl hb,by simp [Value.ownBlock]⟩
   have HLM:Hid (F.lookups.length<=maxLen/\F.lookups.length*40<=140737488355328/\F.lookups.length+1<=maxLen/\(F.lookups.length+1)*40<=140737488355328):=by have:=HLN.out.2.1;show _/\_;unfold maxLen;omega
   obtain ⟨li0,li,lz0,lz1,lz2⟩:=info_parts inf_Lookup;have A3:∀ W,Mod [] w14 W->W.cell? ⟨fb,3,none⟩=some (.slice lk.a lk.n lk.c):=fun W m=>(HL10.out.own.at 0 rfl).every W m 3
   obtain ⟨la,ln,lc⟩:=lk;simp only at A3 HLN HH;refine Dg.wp_region_dag 15 [false,true,true,false,false,false,true,true,true,true,false,false,false,false,false] [(0,IsNew w14.heap.size 57 0 #[]),(3,IsGrow w14.heap.size 57 3 SLookup S7 F.lookups ln),(4,LkA w14.heap.size),(5,LkB w14.heap.size),(10,LkC w14.heap.size ln),(11,LkD w14.heap.size ln),(12,LkE w14.heap.size ln),(13,LkF w14.heap.size ln),(14,LkG w14.heap.size ln)] (by kernel_rfl) (by kernel_rfl) ?hTd549 ?maind549
   case hTd549=>simp [IsGrow.stays SLookup.stay,IsNew.stays,LkA.stays,LkB.stays,LkC.stays,LkD.stays,LkE.stays,LkF.stays,LkG.stays]
   simp only [pickM]
   iterate 6
    refine sv ?_
   refine steady_done (Dg.dag_ok (by kernel_rfl) ?_ ?_)
   ·refine Dg.steps_cons (Dg.step_go _ rfl rfl fun a hl w' hw' hd K Q hK=>?_) ?_
    ·exact oper_bs0 (r:=.slice (some ⟨w'.heap.size,0,none⟩) 0 0) (w1:=w'.alloc (.cells #[] 57)) rfl (by kernel_rfl) (hK _ _ (mR.alloc _) ⟨_,rfl,Blk.new _ _ _,hw'.size⟩)
    refine Dg.steps_cons (Dg.step_go _ rfl rfl fun a hl w' hw' hd K Q hK=>?_) ?_
    ·obtain ⟨u,e,b9,rfl,hB,hb9⟩:=Dg.dep_get hd 0 0 75 rfl (by kernel_rfl) rfl;have e2:a.eval (.tmp 77)=.slice la ln lc:=(Dg.like_eval hl (by kernel_rfl)).trans rfl;refine oper_copy (base:=w14.heap.size) (k:=3) (e:=57) (S:=S7) (l':=F.lookups) rfl _ _ rfl Tryz.underlying26 li lz0 lz1 lz2 rfl (by decide) SLookup.stay SLookup.weak one_lookup b9 e e2 (HH.out w' hw') (HCV.out w') HLM.out.1 HLM.out.2.1 hw'.size (fun v' w'' hcp m=>?_);have hgr:=hcp.grow hb9 (hB.kept m (by simp));exact hK _ _ m ⟨HLN.out.1.symm ▸ hgr.form,hgr⟩
    refine Dg.steps_cons (Dg.step_go _ rfl rfl fun a hl w' hw' hd K Q hK=>?_) ?_
    ·exact oper_bs1 (r:=.slice (some ⟨w'.heap.size,0,none⟩) 1 1) (w1:=w'.alloc (.cells #[.int .i64 0] 3)) _ rfl rfl (by kernel_rfl) (hK _ _ (mR.alloc _) ⟨_,rfl,Blk.new _ _ _,hw'.size⟩)
    refine Dg.steps_cons (Dg.step_go _ rfl rfl fun a hl w' hw' hd K Q hK=>?_) ?_
    ·obtain ⟨u,e,h⟩:=Dg.dep_get hd 2 4 79 rfl (by kernel_rfl) rfl;refine LkA.elim h (fun b he=>?_);subst he;exact oper_bs1 (r:=.slice (some ⟨w'.heap.size,0,none⟩) 1 1) (w1:=w'.alloc (.cells #[.slice (some ⟨b,0,none⟩) 1 1] 22)) _ rfl e (by kernel_rfl) (hK _ _ (mR.alloc _) ⟨_,⟨_,rfl,Blk.new _ _ _,hw'.size⟩,LkA.stays _ _ _ h (mR.alloc _)⟩)
    refine Dg.steps_cons (Dg.step_go _ rfl rfl fun a hl w' hw' hd K Q hK=>?_) ?_
    ·have e:a.eval (.tmp 84)=.agg #[.int .i64 0,.int .i64 (ln:Int)]:=(Dg.like_eval hl (by kernel_rfl)).trans rfl;exact oper_bs1 (r:=.slice (some ⟨w'.heap.size,0,none⟩) 1 1) (w1:=w'.alloc (.cells #[.int .i64 0,.int .i64 (ln:Int)] 51)) _ rfl e (by kernel_rfl) (hK _ _ (mR.alloc _) ⟨_,rfl,Blk.new _ _ _,hw'.size⟩)
    refine Dg.steps_cons (Dg.step_go _ rfl rfl fun a hl w' hw' hd K Q hK=>?_) ?_
    ·obtain ⟨u,e,h⟩:=Dg.dep_get hd 3 5 80 rfl (by kernel_rfl) rfl;obtain ⟨u2,e2,h2⟩:=Dg.dep_get hd 4 10 85 rfl (by kernel_rfl) rfl;refine LkB.elim h (fun b he=>?_);refine LkC.elim h2 (fun b2 he2=>?_);subst he he2;exact oper_bd2 (r:=.agg #[.slice none 0 0,.slice (some ⟨b,0,none⟩) 1 1,.slice none 0 0,.slice none 0 0,.slice (some ⟨b2,0,none⟩) 1 1,.int .i64 0]) (w1:=w') _ _ rfl e e2 (by kernel_rfl) (hK _ _ mR ⟨_,_,rfl,h,h2⟩)
    refine Dg.steps_cons (Dg.step_go _ rfl rfl fun a hl w' hw' hd K Q hK=>?_) ?_
    ·obtain ⟨u,e,h⟩:=Dg.dep_get hd 5 11 86 rfl (by kernel_rfl) rfl;refine LkD.elim h (fun b1 b4 he h1 h4=>?_);subst he;exact oper_bs1 (r:=.slice (some ⟨w'.heap.size,0,none⟩) 1 1) (w1:=w'.alloc (.cells #[.slice none 0 0,.slice (some ⟨b1,0,none⟩) 1 1,.slice none 0 0,.slice none 0 0,.slice (some ⟨b4,0,none⟩) 1 1,.int .i64 0] 54)) _ rfl e (by kernel_rfl) (hK _ _ (mR.alloc _) ⟨_,_,⟨_,rfl,Blk.new _ _ _,hw'.size⟩,LkB.stays _ _ _ h1 (mR.alloc _),LkC.stays _ _ _ h4 (mR.alloc _)⟩)
    refine Dg.steps_cons (Dg.step_go _ rfl rfl fun a hl w' hw' hd K Q hK=>?_) ?_
    ·obtain ⟨u,e,h⟩:=Dg.dep_get hd 6 12 87 rfl (by kernel_rfl) rfl;refine LkE.elim h (fun b he=>?_);subst he;exact oper_bd2 (r:=.agg #[.int .i64 4,.bool false,.slice (some ⟨b,0,none⟩) 1 1]) (w1:=w') _ _ rfl rfl e (by kernel_rfl) (hK _ _ mR ⟨_,rfl,h⟩)
    refine Dg.steps_cons (Dg.step_go _ rfl rfl fun a hl w' hw' hd K Q hK=>?_) ?_
    ·obtain ⟨u,e,h⟩:=Dg.dep_get hd 7 13 88 rfl (by kernel_rfl) rfl;refine LkF.elim h (fun b1 he h1=>?_);subst he;exact oper_bs1 (r:=.slice (some ⟨w'.heap.size,0,none⟩) 1 1) (w1:=w'.alloc (.cells #[.int .i64 4,.bool false,.slice (some ⟨b1,0,none⟩) 1 1] 57)) _ rfl e (by kernel_rfl) (hK _ _ (mR.alloc _) ⟨_,⟨_,rfl,Blk.new _ _ _,hw'.size⟩,LkE.stays _ _ _ h1 (mR.alloc _)⟩)
    exact Dg.steps_nil
   refine Dg.fin_cons (g:=?_) 75 _ rfl rfl (fun v=>by simp only [List.set_cons_succ,List.set_cons_zero];exact rfl) (fun kv1=>?_);refine Dg.fin_cons (g:=?_) 78 _ rfl rfl (fun v=>by simp only [List.set_cons_succ,List.set_cons_zero];exact rfl) (fun kv2=>?_);refine Dg.fin_cons (g:=?_) 79 _ rfl rfl (fun v=>by simp only [List.set_cons_succ,List.set_cons_zero];exact rfl) (fun kv3=>?_);refine Dg.fin_cons (g:=?_) 80 _ rfl rfl (fun v=>by simp only [List.set_cons_succ,List.set_cons_zero];exact rfl) (fun kv4=>?_);refine Dg.fin_cons (g:=?_) 85 _ rfl rfl (fun v=>by simp only [List.set_cons_succ,List.set_cons_zero];exact rfl) (fun kv5=>?_);refine Dg.fin_cons (g:=?_) 86 _ rfl rfl (fun v=>by simp only [List.set_cons_succ,List.set_cons_zero];exact rfl) (fun kv6=>?_);refine Dg.fin_cons (g:=?_) 87 _ rfl rfl (fun v=>by simp only [List.set_cons_succ,List.set_cons_zero];exact rfl) (fun kv7=>?_);refine Dg.fin_cons (g:=?_) 88 _ rfl rfl (fun v=>by simp only [List.set_cons_succ,List.set_cons_zero];exact rfl) (fun kv8=>?_);refine Dg.fin_cons (g:=?_) 89 _ rfl rfl (fun v=>by simp only [List.set_cons_succ,List.set_cons_zero];exact rfl) (fun kv9=>?_);refine Dg.fin_nil (fun w' hw' hF=>?_);simp only [qS,qZ];refine IsGrow.elim hF.1.1.1.1.1.1.1.2 (fun ol cl hel hgl=>?_);have hgp:=hF.2.parts (by rw [HLN.out.1];exact HLM.out.1);clear hF;obtain ⟨bG,uG,heG,hEG,hnG,h1G⟩:=hgp;subst hel heG;have hEG:=hEG.weak (S':=fun b=>S7 b/\(Value.slice ol ln cl).ownBlock≠some b) SLookup.weak fun b _ hb=>⟨by rw [HS7.out];exact .inr hb.1,fun he=>hgl.notNL he hb.2⟩
   have HGL2:=Hi hgl;have HEG:=Hi hEG;have HNG:=Hi hnG;have H1G:=Hi h1G;have HW:=Hi hw';clear hgl hEG hnG h1G hw' HH A3 HCV;have HNW:Hid (w14.heap.size<=w'.heap.size):=HW.out.size;go_wp2_with (at_builtin;refine wpList_push (k:=3) (e:=57) (base:=w14.heap.size) (l:=F.lookups) (l':=[Mr.newLookup ln]) rfl _ _ 26 rfl li0 _ 40 Tryz.underlying26 li lz0 lz1 lz2 rfl (by decide) SLookup.stay SLookup.weak rfl HGL2.out ⟨bG,0,none⟩ 1 1 _ rfl rfl HEG.out HNG.out H1G.out HLM.out.2.2.1 HLM.out.2.2.2 HNW.out ?_);intro v' w15 hGv hgv hbv;have m15:Mod [] w14 w15:=HW.out.grew hgv fun b hb=>(HGL2.out.lt b hb).1
   have hlt:=HL10.out.lt
   have hv:=hGv.done (S':=LEB w15.heap.size [(fb,#[.int .i64 F.unit,.slice ga i gc,.slice c.a c.n c.c,.slice la ln lc,.slice fe.a fe.n fe.c,.slice ax.a ax.n ax.c,.slice rg.a rg.n rg.c,.slice fu.a fu.n fu.c,.slice cv.a cv.n cv.c],32),(gb,#[.int .i64 F.unit,.slice ga i gc,.slice c.a c.n c.c,.slice la ln lc,.slice none 0 0,.slice ax.a ax.n ax.c,.slice rg.a rg.n rg.c,.slice fu.a fu.n fu.c,.slice cv.a cv.n cv.c],32),(hb,#[.int .i64 F.unit,.slice ga i gc,.slice oc i cc,.slice la ln lc,.slice fe.a fe.n fe.c,.slice ax.a ax.n ax.c,.slice rg.a rg.n rg.c,.slice fu.a fu.n fu.c,.slice cv.a cv.n cv.c],32),(kb,#[.int .i64 F.unit,.slice (some ⟨cb,0,none⟩) i cc2,.slice c.a c.n c.c,.slice la ln lc,.slice fe.a fe.n fe.c,.slice ax.a ax.n ax.c,.slice rg.a rg.n rg.c,.slice fu.a fu.n fu.c,.slice cv.a cv.n cv.c],32),(lb,#[.int .i64 F.unit,.slice ga i gc,.slice c.a c.n c.c,.slice la ln lc,.slice none 0 0,.slice ax.a ax.n ax.c,.slice rg.a rg.n rg.c,.slice fu.a fu.n fu.c,.slice cv.a cv.n cv.c],32)]) (by decide) SLookup.weak (fun b hb hs=>⟨hb,by
    rw [HS7.out] at hs;rcases hs with hs | hs
    ·exact HLN.out.2.2 b hs
    ·intro hm;obtain ⟨p,hp,hpe⟩:=List.mem_map.1 hm;have:=hlt p hp
     omega⟩) fun b hb=>⟨(hGv.lt b hb).2,fun hm=>by
    obtain ⟨p,hp,hpe⟩:=List.mem_map.1 hm;have:=hlt p hp;have:=(hGv.lt b hb).1
    omega⟩
   have hm:=((HL10.out.call HP3.out.1 m15).up HP3.out.1).more HP3.out.1 (DP.rows (by decide) SLookup.stay SLookup.weak _ _) hv;obtain ⟨on,cn,rfl⟩:=hGv.form;obtain ⟨ll,hll⟩:∃ ll,ll=(F.lookups++[Mr.newLookup ln]).length:=⟨_,rfl⟩
   rw [<- hll] at hm ⊢;obtain ⟨P4,hP4⟩:∃ P4:Bl->World->Prop,P4=fun S W=>P3 S W/\SRows 3 SLookup S W (.slice on ll cn) (F.lookups++[Mr.newLookup ln]):=⟨_,rfl⟩
   rw [<- hP4] at hm;have HP4:Hid (DP P4/\∀ S W,P4 S W->P3 S W/\SRows 3 SLookup S W (.slice on ll cn) (F.lookups++[Mr.newLookup ln])):=by
    show DP P4/\_;rw [hP4];exact ⟨HP3.out.1.and (DP.rows (by decide) SLookup.stay SLookup.weak _ _),fun S W h=>h⟩
   have HL11:=Hi hm;have q3:=(HL11.out.own.at 4 rfl).cell 3;have q9:=(HL11.out.own.at 4 rfl).frozen 3;simp only [gA,gZ,gS] at q3;clear hP4 hll hm hv hlt m15 hGv hgv hbv HGL2 HEG HNG H1G HW HNW HS7 HLM HL10 li lz0 lz1 lz2;go_upto_region 19 with fail;have HL12:=Hi (HL11.out.set HP4.out.1 4 rfl 3 (.slice on ll cn));simp only [List.setIfInBounds_toArray,List.set_cons_succ,List.set_cons_zero] at HL12;clear q3 q9 HL11;generalize w15.setCell _ _=w16 at *
   have HQ:=Hi (fun W (m:Mod [] w16 W) =>
    have hd:=HP4.out.2 _ _ (HL12.out.call HP4.out.1 m).data;have hd3:=HP3.out.2 _ _ hd.1
    less_rights HF.out hd3.1.1 (hc:=⟨oc,i,cc⟩) (hg:=⟨some ⟨cb,0,none⟩,i,cc2⟩) (hl:=⟨on,ll,cn⟩) (by rw [<- HN.out.1];exact hd3.1.2) HR.out.2.1 HR.out.2.2 (by rw [<- HGL.out.1];exact hd3.2) HGK.out.1 HR2.out.1 HR2.out.2 (by rw [<- HLN.out.1];exact hd.2))
   clear HGK HR HR2 HCUR HLL HGL HLN HK;have q0:=(HL12.out.own.at 1 rfl).cell 0;have q1:=(HL12.out.own.at 1 rfl).cell 1;have q2:=(HL12.out.own.at 1 rfl).cell 2;have q3:=(HL12.out.own.at 1 rfl).cell 3;have q4:=(HL12.out.own.at 1 rfl).cell 4;have q5:=(HL12.out.own.at 1 rfl).cell 5;have q6:=(HL12.out.own.at 1 rfl).cell 6;have q7:=(HL12.out.own.at 1 rfl).cell 7;have q8:=(HL12.out.own.at 1 rfl).cell 8;simp only [gA,gZ,gS] at q0 q1 q2 q3 q4 q5 q6 q7 q8;go_wp2_with fail;refine (HQ.out _ mR).1.mono ?_;rintro e w17 ⟨rfl,m9⟩;have M17:=Hi (m9);have HL13:=Hi (HL12.out.call HP4.out.1 m9);clear m9 q0 q1 q2 q3 q4 q5 q6 q7 q8 HL12;have q0:=(HL13.out.own.at 2 rfl).cell 0;have q1:=(HL13.out.own.at 2 rfl).cell 1;have q2:=(HL13.out.own.at 2 rfl).cell 2;have q3:=(HL13.out.own.at 2 rfl).cell 3;have q4:=(HL13.out.own.at 2 rfl).cell 4;have q5:=(HL13.out.own.at 2 rfl).cell 5;have q6:=(HL13.out.own.at 2 rfl).cell 6;have q7:=(HL13.out.own.at 2 rfl).cell 7;have q8:=(HL13.out.own.at 2 rfl).cell 8;simp only [gA,gZ,gS] at q0 q1 q2 q3 q4 q5 q6 q7 q8;go_wp2_with fail;refine (HQ.out _ M17.out).2.1.mono ?_;rintro e w18 ⟨rfl,m9⟩;have M18:=Hi (M17.out.then m9);have HL14:=Hi (HL13.out.call HP4.out.1 m9);clear m9 q0 q1 q2 q3 q4 q5 q6 q7 q8 HL13 M17;have q0:=(HL14.out.own.at 3 rfl).cell 0;have q1:=(HL14.out.own.at 3 rfl).cell 1;have q2:=(HL14.out.own.at 3 rfl).cell 2;have q3:=(HL14.out.own.at 3 rfl).cell 3;have q4:=(HL14.out.own.at 3 rfl).cell 4;have q5:=(HL14.out.own.at 3 rfl).cell 5;have q6:=(HL14.out.own.at 3 rfl).cell 6;have q7:=(HL14.out.own.at 3 rfl).cell 7;have q8:=(HL14.out.own.at 3 rfl).cell 8;simp only [gA,gZ,gS] at q0 q1 q2 q3 q4 q5 q6 q7 q8;go_wp2_with fail;refine (HQ.out _ M18.out).2.2.1.mono ?_;rintro e w19 ⟨rfl,m9⟩;have M19:=Hi (M18.out.then m9);have HL15:=Hi (HL14.out.call HP4.out.1 m9);clear m9 q0 q1 q2 q3 q4 q5 q6 q7 q8 HL14 M18;have q0:=(HL15.out.own.at 4 rfl).cell 0;have q1:=(HL15.out.own.at 4 rfl).cell 1;have q2:=(HL15.out.own.at 4 rfl).cell 2;have q3:=(HL15.out.own.at 4 rfl).cell 3;have q4:=(HL15.out.own.at 4 rfl).cell 4;have q5:=(HL15.out.own.at 4 rfl).cell 5;have q6:=(HL15.out.own.at 4 rfl).cell 6;have q7:=(HL15.out.own.at 4 rfl).cell 7;have q8:=(HL15.out.own.at 4 rfl).cell 8;simp only [gA,gZ,gS] at q0 q1 q2 q3 q4 q5 q6 q7 q8;go_wp2_with fail;refine (HQ.out _ M19.out).2.2.2.1.mono ?_;rintro e w20 ⟨rfl,m9⟩;have M20:=Hi (M19.out.then m9);have HL16:=Hi (HL15.out.call HP4.out.1 m9);clear m9 q0 q1 q2 q3 q4 q5 q6 q7 q8 HL15 M19;have q0:=(HL16.out.own.at 0 rfl).cell 0;have q1:=(HL16.out.own.at 0 rfl).cell 1;have q2:=(HL16.out.own.at 0 rfl).cell 2;have q3:=(HL16.out.own.at 0 rfl).cell 3;have q4:=(HL16.out.own.at 0 rfl).cell 4;have q5:=(HL16.out.own.at 0 rfl).cell 5;have q6:=(HL16.out.own.at 0 rfl).cell 6;have q7:=(HL16.out.own.at 0 rfl).cell 7;have q8:=(HL16.out.own.at 0 rfl).cell 8;simp only [gA,gZ,gS] at q0 q1 q2 q3 q4 q5 q6 q7 q8;go_wp2_with fail;refine (HQ.out _ M20.out).2.2.2.2.mono ?_;rintro e w21 ⟨rfl,m9⟩;have M21:=Hi (M20.out.then m9);have HL17:=Hi (HL16.out.call HP4.out.1 m9);clear m9 q0 q1 q2 q3 q4 q5 q6 q7 q8 HL16 M20;go_wp2;go_ret;exact ⟨rfl,HL17.out.own.mod⟩
def NumsS (W:World) (v:Value) (n cap:Nat) (l:List Int):Prop:=Rows 1 RInt 0 W v l/\n<=cap/\cap<=maxLen
section
open Go.ChangeShapes Go.WideShapes Go.ChangeAt Go.Joins
variable {H:Type} {enc:TypeId×Value->H} {W:World} {base:Nat}
set_option maxRecDepth 100000 in
theorem nums_in {oa:Option Addr} {n cap:Nat} {d:DataW H} {ps:List MemPlace} (h:DataW.Trod enc Tryz.prog W 0 (fun _=>true) true 22 (.slice oa n cap) d ps) (_hlt:∀ x∈ps,x.block<W.heap.size):∃ l:List Int,NumsS W (.slice oa n cap) n cap l:=by
 obtain ⟨fuel,h⟩:=h;have h0:DataW.trod enc Tryz.prog W 0 (fun _=>true) true fuel 22 [.slice oa n cap]=some (d,ps):=h;obtain ⟨l,hl⟩:=rowsOf Tryz.underlying22 cells_int (fun _ _ _ h=>int_open h) h0;refine ⟨l,hl,?_⟩;cases fuel with
 | zero=>cases h0
 | succ f =>
  unfold DataW.trod at h0;rw [Tryz.underlying22] at h0;cases oa with
  | none =>
   cases n with
   | zero =>
    cases cap with
    | zero=>exact ⟨nR _,Nat.zero_le _⟩
    | succ c=>simp at h0
   | succ n=>simp at h0
  | some a =>
   simp only at h0
   split at h0
   ·rename_i hc;exact ⟨hc.2.1,hc.2.2⟩
   ·cases h0
end
theorem less_walkS (oa:Option Addr) (n cap:Nat) (l:List Int) (k:Int) (w:World) (h:NumsS w (.slice oa n cap) n cap l) (hk:I64 k) :
  Calls Tryz.prog 3 #[.slice oa n cap,.int .i64 k] w fun e w'=>e=.returned (.bool true)/\Below w.heap.size w w' :=
 (less_walk l oa n cap k w h.1 h.2.1 h.2.2 hk).mono fun e w' ⟨h,m⟩=>⟨h,m.to_below⟩
end Go.Proofs.YthheaflbbficgaaGreat
