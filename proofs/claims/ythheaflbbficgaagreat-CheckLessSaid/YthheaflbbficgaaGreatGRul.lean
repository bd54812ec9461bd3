/- MkRow, MkRuleS, MkRule, MkLookS, MkLook. -/
import Derived.Test.YthheaflbbficgaaGreatGBase
import Derived.Test.YthheaflbbficgaaGreatGGly
import Derived.Test.YthheaflbbficgaaGreatGRing
import Derived.Deep.CutBlock
set_option linter.all false
namespace Go.Proofs.YthheaflbbficgaaGreat
set_option maxHeartbeats 8000000
open Go.RowKit
set_option maxRecDepth 100000
def rowF (n:Int):Nat->List (List Int)->Mk.M (List (List Int)):=fun _ l s=>Mk.bind (Mk.set n s) fun x s=>(l++[x],s)
theorem Mk.row_eq {n most k:Int} {s s1:Mk.S} (h:Mk.next (most+1) s=(k,s1)):Mk.row n most s=Mk.rep k.toNat (rowF n) [] s1:=by unfold Mk.row;rw [Mk.bind_eq h];rfl
theorem row_at (m:Nat) (sv:Value) (l:List Int) (f:MF) (s:Mk.S) (n:Nat) (hn:0<n) (hn1:n<=100000) (most:Int) (hm:0<=most) (hm1:most<=100) {og:Option Addr} {cg:Nat} (hgl:f.gl=.slice og n cg) {rl:List (List Int)} {rs:Mk.S} (he:Mk.row n most s=(rl,rs)) (w:World) (h:MK m sv l f s w) :
  Calls Tryz.prog 135 #[.pointer (some ⟨m,0,none⟩),.int .i64 most] w fun e w'=>∃ v,e=.returned v/\SRows 1 SSet (fun b=>w.heap.size<=b) w' v rl/\MK m sv l f rs w'/\Mod [m] w w':=by
 obtain ⟨k,s1,h1⟩:∃ a b,Mk.next (most+1) s=(a,b):=⟨_,_,rfl⟩
 rw [Mk.row_eq h1] at he;have C1:=Hi (next_at m sv l f s (most+1) (by omega) (by omega) h1 w h);have i1:=next_in (by omega) h1;obtain ⟨K,rfl⟩:∃ K:Nat,k=K:=⟨k.toNat,by omega⟩
 have HK0:=Hi (show K<1000 by omega);rw [Int.toNat_natCast] at he;have HE:=Hi he;have CP:=Hi (fun st x st' e=>set_at m sv l f st n hn hn1 hgl (rl:=x) (rs:=st') e);have HMW:=Hi h.blk.lt;have em:IntKind.i64.wrap (most+1)=most+1:=IntWalk.i64_in _ (by omega);clear h1 he h i1 hn hn1 hm hm1;obtain ⟨i0,hi,hz0,hz1,hz2⟩:=info_parts inf_Set;go_enter Tryz.func135,Tryz.ntmps135;go_wp2_with fail;refine C1.out.mono ?_;rintro e w1 ⟨rfl,K1,M1⟩;have HK:=Hi K1;have HM:=Hi M1;clear K1 M1 C1;go_wp2_with fail
 go_loopg [5,7] K (fun gk v5 i7 wr=>∃ (i:Nat) (L:List (List Int)) (st:Mk.S) (oa:Option Addr) (cap:Nat),v5=.slice oa L.length cap/\i7=.int .i64 (i:Int)/\Hid (i+gk=K)/\Hid (Mk.rep i (rowF n) [] s1=(L,st))/\Hid (L.length=i)/\Hid (MK m sv l f st wr/\Mod [m] w wr/\Grow w.heap.size 22 1 SSet (fun b=>w.heap.size<=b) v5 L wr))
 case atStart=>exact ⟨0,[],s1,none,0,rfl,rfl,by show 0+K=K;omega,rfl,rfl,HK.out,HM.out,Grow.nil⟩
 case round =>
  obtain ⟨i,L,st,oa,cap,rfl,rfl,hi5,HR,HL,HS⟩:=hrel;clear HK HM
  by_cases hin:i<K
  case neg =>
   obtain rfl:i=K:=by have:=hi5.out;omega
   have k1:decide ((i:Int)<(i:Int))=false:=dF (by omega);obtain ⟨rfl,rfl⟩:L=rl/\st=rs:=by have h9:=HE.out;rw [HR.out] at h9;simpa using h9
   go_wp2;go_ret;exact ⟨_,rfl,HS.out.2.2.done (by decide) SSet.weak (fun _ _ h=>h) (fun b hb=>(HS.out.2.2.lt b hb).1),HS.out.1,HS.out.2.1⟩
  have k1:decide ((i:Int)<(K:Int))=true:=dT (by omega);have k2:(i:Int)<(K:Int):=by omega
  have ei:IntKind.i64.wrap ((i:Int)+1)=(i:Int)+1:=IntWalk.i64_in _ (by have:=HK0.out;omega);obtain ⟨x,st',hx⟩:∃ a b,Mk.set n st=(a,b):=⟨_,_,rfl⟩
  have HX:=Hi hx;have CX:=Hi (CP.out st x st' hx wr HS.out.1);have HIN:=Hi hin;clear hx hin;go_wp2_with fail;refine CX.out.mono ?_;rintro e w2 ⟨v,rfl,hv,K2,M2⟩;obtain ⟨ox,cx,rfl,-⟩:=hv.form;have HG:=Hi (HS.out.2.2.keptB SSet.stay M2 (by simpa using HMW.out) (fun _ h=>h));have HV:Hid (SRows 1 SInt (fun b=>w.heap.size<=b/\(Value.slice oa L.length cap).ownBlock≠some b) w2 (.slice ox x.length cx) x) :=
   hv.weak (by decide) SInt.weak fun b _ hb=>⟨nT HS.out.2.1.size hb,fun he=>by have:=(HS.out.2.2.lt b he).2;omega⟩
  have HK2:=Hi K2;have HM2:=Hi (HS.out.2.1.then M2);clear hv K2 M2 HS CX;go_wp2_with (at_builtin;refine wpList_push (k:=1) (e:=22) (base:=w.heap.size) (l:=L) (l':=[x]) rfl _ _ 49 rfl i0 _ 24 Tryz.underlying49 hi hz0 hz1 hz2 rfl (by decide) SSet.stay SSet.weak rfl (HG.out.mod SSet.stay (mR.alloc _)) ⟨w2.heap.size,0,none⟩ _ _ [[.slice ox x.length cx]] rfl rfl (Elems.one rfl ⟨_,rfl,HV.out.mod SInt.stay (mR.alloc _)⟩) ?_ (by simp [Value.oneCell']) ?_ ?_ ?_ ?_)
  ·exact fun j u hu=>blk_news (Blk.new w2 #[.slice ox x.length cx] 22) rfl hu
  ·have h1:=HL.out;have h3:=HK0.out;have h4:=HIN.out;unfold maxLen;simp;omega
  ·have h1:=HL.out;have h3:=HK0.out;have h4:=HIN.out;simp;omega
  ·have:=HM2.out.size;simp;omega
  intro v' w3 hG hgr _;obtain ⟨oa',c',rfl⟩:=hG.form;have HS3:Hid (MK m sv l f st' w3/\Mod [m] w w3/\Grow w.heap.size 22 1 SSet (fun b=>w.heap.size<=b) (.slice oa' (L++[x]).length c') (L++[x]) w3):=by
   have hlt:=HG.out.lt;refine ⟨(MK.stays _ _ HK2.out (mR.alloc _)).grown hgr fun g hg=>?_,(HM2.out.alloc _).grew hgr fun g hg=>(hlt g hg).1,hG⟩;have:=(hlt g hg).1;have:=HMW.out;omega
  clear hG hgr HG HK2 HM2 HV;go_wp2;go_roundg (gk - 1)
  case measure=>have:=hi5.out;omega
  case rel =>
   refine ⟨i+1,L++[x],st',oa',c',rfl,by rw [Int.natCast_add];rfl,?_,?_,?_,HS3.out⟩
   ·have:=hi5.out;have:=HIN.out;show i+1+(gk - 1)=K;omega
   ·show Mk.rep (i+1) (rowF n) [] s1=_;rw [Mk.rep_next HR.out];unfold rowF;rw [Mk.bind_eq HX.out]
   ·have h1:=HL.out;show (L++[x]).length=i+1;rw [List.length_append];simp;omega
theorem SRows.elems {α:Type} {R:Bl->World->List Value->α->Prop} {S:Bl} {w:World} {a:Addr} {n c:Nat} {l:List α} (h:SRows 1 R S w (.slice (some a) n c) l) :
  ∃ css,Elems 1 R S w css l/\∀ j u,css.flatten[j]?=some u->w.cell? (a.add j)=some u:=by
 have key:∀ i:Fin l.length,∃ x:Value,R S w [x] l[i]/\w.cell? (a.add i)=some x:=fun i=>by
  obtain ⟨a',he,_,cs,hk,hc,-,hR⟩:=h.at i.1 i.2;cases he
  match cs,hk with
  | [x],_=>exact ⟨x,hR,by have:=hc (by decide);simpa using this⟩
 refine ⟨List.ofFn fun i=>[(key i).choose],⟨by simp,fun i h1 h2=>?_⟩,fun j u hu=>?_⟩
 ·rw [List.getElem_ofFn];exact ⟨rfl,(key ⟨i,h2⟩).choose_spec.1⟩
 ·have e1:(List.ofFn fun i=>[(key i).choose]).flatten=List.ofFn fun i=>(key i).choose:=by
   have h1:∀ (q:List Value),(q.map fun x=>[x]).flatten=q:=by intro q;induction q <;> simp_all
   rw [<- h1 (List.ofFn fun i=>(key i).choose),List.map_ofFn];rfl
  rw [e1] at hu;rw [List.getElem?_ofFn] at hu
  split at hu
  ·rename_i hj;cases hu;exact (key ⟨j,hj⟩).choose_spec.2
  ·cases hu
theorem SRows.none_nil {α:Type} {k c:Nat} {n:Nat} {R:Bl->World->List Value->α->Prop} {S:Bl} {w:World} {l:List α} (h:SRows k R S w (.slice none n c) l):l=[]:=by
 cases l with
 | nil=>rfl
 | cons x r=>obtain ⟨a,he,_⟩:=h.at 0 (by simp);cases he
theorem elems_one {S:Bl} {w:World} {css:List (List Value)} {l:List (List Int)} (h:Elems 1 SSet S w css l):∀ u∈css.flatten,u.oneCell'=true:=by
 intro u hu;obtain ⟨cs,hcs,hu⟩:=List.mem_flatten.1 hu;obtain ⟨i,hi,rfl⟩:=List.getElem_of_mem hcs;obtain ⟨v,hv,hr⟩:=(h.2 i hi (by have:=h.1;omega)).2;rw [hv] at hu;obtain rfl:u=v:=by simpa using hu
 exact oneS hr
theorem wpList_push0 {P:Program} {α:Type} {base k:Nat} {e:TypeId} {R:Bl->World->List Value->α->Prop} {S:Bl} {l:List α} {v:Value} {w:World} {ops:Array Oper} {rest:List Oper} {o:Oper} {a:Act} {Q:Exit->Act->World->Prop} (hgd:o.guard=none) (s x:Operand) (t:TypeId)
  (ho:o.op=.call { callee:=.builtin .append,args:=#[s,x],argTypes:=#[t,t] }) (i:TypeInfo) (ht:P.underlying t=some (.slice e)) (hi:P.info? e=some i) (hs:a.eval s=v) (h:Grow base e k R S v l w) (q:Nat) (hx:a.eval x=.slice none 0 q)
  (hK:wpList P ops Q rest (a.put o.dst v) w):wpList P ops Q (o::rest) a w:=by
 refine wpList_plain hgd fun K hKK=>?_
 have hrun:(Builtin.append_ #[t,t] o.type #[v,.slice none 0 q]).run P w=.ok v w:=by
  obtain ⟨css,hown,_⟩:=h;rcases hown.2 with ⟨rfl,hn⟩ | ⟨g,cap,cur,rfl,_,_,hc,_⟩
  ·simp [Builtin.append_,run_underlying ht,sizeOf,typeInfo,hi,Builtin.lenOf,Builtin.firstCells]
  ·simp [Builtin.append_,run_underlying ht,sizeOf,typeInfo,hi,Builtin.lenOf,Builtin.firstCells,hc,storeCells]
 unfold Oper.wp execOp;simp only [ho,resolve,invoke,builtin,Sem.run_bind,Sem.run_pure,Result.andThen_ok,List.map_toArray,List.map_cons,List.map_nil,hs,hx,hrun];exact hKK _ _ hK
def ruC (vb vi va vo vc:Value) (x:Int):Array Value:=#[vb,vi,va,vo,vc,.int .i64 x]
structure RuA (W:World) (m:Nat) (sv:Value) (l:List Int) (f:MF) (rb ob:Nat) (c:Array Value) (vb vi va:Value) (back inn ahead:List (List Int)) (s:Mk.S) (w:World):Prop where
 mkr:MK m sv l f s w
 mod:Mod [m] W w
 rblk:Blk w rb (ruC nilV nilV nilV nilV nilV 0) 54
 blk:Blk w ob c 54
 gi:Grow (ob+1) 22 1 SSet (fun b=>ob<b) vi inn w
 hb:SRows 1 SSet (fun b=>ob<b/\vi.ownBlock≠some b) w vb back
 ha:SRows 1 SSet (fun b=>ob<b/\vi.ownBlock≠some b) w va ahead
 ord:m<W.heap.size/\W.heap.size<=rb/\rb<ob/\ob<w.heap.size
section
variable {W:World} {m:Nat} {sv:Value} {l:List Int} {f:MF} {rb ob:Nat} {c:Array Value} {vb vi va:Value} {back inn ahead:List (List Int)} {s s':Mk.S} {w w':World}
theorem RuA.stays:Stays (RuA W m sv l f rb ob c vb vi va back inn ahead s):=fun w w' h k =>
 ⟨MK.stays _ _ h.mkr k,h.mod.then (k.more (by simp)),h.rblk.kept k (by simp),h.blk.kept k (by simp),h.gi.mod SSet.stay k,h.hb.mod SSet.stay k,h.ha.mod SSet.stay k,h.ord.1,h.ord.2.1,h.ord.2.2.1,Nat.lt_of_lt_of_le h.ord.2.2.2 k.size⟩
theorem RuA.call (h:RuA W m sv l f rb ob c vb vi va back inn ahead s w) (k:MK m sv l f s' w') (k2:Mod [m] w w'):RuA W m sv l f rb ob c vb vi va back inn ahead s' w':=by
 have h1:=h.ord;have h2:∀ (S:Bl),(∀ b,S b->ob<b)->SameB S w w':=fun S hS=>k2.sameB (by intro x hx hs;simp at hx;have:=hS x hs;omega)
 exact ⟨k,h.mod.then k2,h.rblk.kept k2 (by simp;omega),h.blk.kept k2 (by simp;omega),h.gi.keptB SSet.stay k2 (by simp;omega) (fun b hb=>hb),h.hb.same SSet.stay (h2 _ fun _ h=>h.1),h.ha.same SSet.stay (h2 _ fun _ h=>h.1),h1.1,h1.2.1,h1.2.2.1,Nat.lt_of_lt_of_le h1.2.2.2 k2.size⟩
theorem RuA.set (h:RuA W m sv l f rb ob c vb vi va back inn ahead s w) (i:Nat) (x:Value):RuA W m sv l f rb ob (c.setIfInBounds i x) vb vi va back inn ahead s (w.setCell ⟨ob,i,none⟩ x):=by
 have h1:=h.ord
 exact ⟨h.mkr.set (by show m<ob;omega) _,h.mod.setNew (p:=⟨ob,i,none⟩) (by show W.heap.size<=ob;omega) _,h.rblk.other (by show ob≠rb;omega) _,h.blk.set i x,
  h.gi.set SSet.stay (fun hb=>by have:=(h.gi.lt _ hb).1;simp at this;omega) (by simp) _,h.hb.same SSet.stay (SameB.set w (by simp) _),h.ha.same SSet.stay (SameB.set w (by simp) _),h1.1,h1.2.1,h1.2.2.1,by simpa using h1.2.2.2⟩
theorem RuA.newRow {v:Value} {r:List (List Int)} (h:RuA W m sv l f rb ob c vb vi va back inn ahead s w) (hS:SRows 1 SSet (fun b=>w.heap.size<=b) w' v r):SRows 1 SSet (fun b=>ob<b/\vi.ownBlock≠some b) w' v r :=
 hS.weak (by decide) SSet.weak fun b _ hb=>⟨by have:=h.ord;omega,fun he=>by have:=(h.gi.lt b he).2;omega⟩
theorem RuA.newSet {v:Value} {r:List Int} (h:RuA W m sv l f rb ob c vb vi va back inn ahead s w) (hS:SRows 1 SInt (fun b=>w.heap.size<=b) w' v r):SRows 1 SInt (fun b=>ob<b/\vi.ownBlock≠some b) w' v r :=
 hS.weak (by decide) SInt.weak fun b _ hb=>⟨by have:=h.ord;omega,fun he=>by have:=(h.gi.lt b he).2;omega⟩
theorem RuA.backIs {v:Value} {r:List (List Int)} (h:RuA W m sv l f rb ob c vb vi va back inn ahead s w) (hS:SRows 1 SSet (fun b=>ob<b/\vi.ownBlock≠some b) w v r):RuA W m sv l f rb ob c v vi va r inn ahead s w:=⟨h.mkr,h.mod,h.rblk,h.blk,h.gi,hS,h.ha,h.ord⟩
theorem RuA.aheadIs {v:Value} {r:List (List Int)} (h:RuA W m sv l f rb ob c vb vi va back inn ahead s w) (hS:SRows 1 SSet (fun b=>ob<b/\vi.ownBlock≠some b) w v r):RuA W m sv l f rb ob c vb vi v back inn r s w:=⟨h.mkr,h.mod,h.rblk,h.blk,h.gi,h.hb,hS,h.ord⟩
theorem RuA.push {r:List (List Int)} {v':Value} (h:RuA W m sv l f rb ob c vb vi va back inn ahead s w) (hG:Grow (ob+1) 22 1 SSet (fun b=>ob<b) v' (inn++r) w') (k:w.grownBy w' vi.ownBlock) (hbk:v'.ownBlock=vi.ownBlock∨v'.ownBlock=some w.heap.size) :
  RuA W m sv l f rb ob (c.setIfInBounds 1 v') vb v' va back (inn++r) ahead s (w'.setCell ⟨ob,1,none⟩ v'):=by
 have h1:=h.ord;have h3:=h.gi.lt;have h2:∀ {v:Value} {q:List (List Int)},SRows 1 SSet (fun b=>ob<b/\vi.ownBlock≠some b) w v q->SRows 1 SSet (fun b=>ob<b/\v'.ownBlock≠some b) w' v q:=fun hq =>
  (hq.weak (by decide) SSet.weak (S':=fun b=>(ob<b/\v'.ownBlock≠some b)/\vi.ownBlock≠some b) fun b hb hs=>⟨⟨hs.1,fun he=>by rcases hbk with hbk | hbk;exact hs.2 (hbk ▸ he);rw [hbk] at he;simp at he;omega⟩,hs.2⟩).same SSet.stay (SameB.grown k fun b hb hs=>hs.2 hb) |>.weak (by decide) SSet.weak fun b _ hs=>hs.1
 have hA:RuA W m sv l f rb ob c vb v' va back (inn++r) ahead s w' :=
  ⟨h.mkr.grown k fun b hb=>by have:=(h3 b hb).1;omega,h.mod.grew k fun b hb=>by have:=(h3 b hb).1;omega,h.rblk.grew k fun hb=>by have:=(h3 _ hb).1;omega,h.blk.grew k fun hb=>by have:=(h3 _ hb).1;omega,hG,h2 h.hb,h2 h.ha,h1.1,h1.2.1,h1.2.2.1,Nat.lt_of_lt_of_le h1.2.2.2 k.size⟩
 exact hA.set 1 v'
end
structure RuRows (S:Bl) (w:World) (vb vi va vo vc:Value) (d:DRule):Prop where
 back:SRows 1 SSet S w vb d.back
 ins:SRows 1 SSet S w vi d.ins
 ahead:SRows 1 SSet S w va d.ahead
 out:SRows 1 SInt S w vo d.out
 calls:SRows 2 SCall S w vc d.calls
section
variable {S S':Bl} {w w':World} {d:DRule} {vb vi va vo vc:Value}
theorem RuRows.same (h:RuRows S w vb vi va vo vc d) (m:SameB S w w'):RuRows S w' vb vi va vo vc d:=⟨h.back.same SSet.stay m,h.ins.same SSet.stay m,h.ahead.same SSet.stay m,h.out.same SInt.stay m,h.calls.same SCall.stay m⟩
theorem RuRows.weak (h:RuRows S w vb vi va vo vc d) (k:∀ b,b<w.heap.size->S b->S' b):RuRows S' w vb vi va vo vc d:=⟨h.back.weak (by decide) SSet.weak k,h.ins.weak (by decide) SSet.weak k,h.ahead.weak (by decide) SSet.weak k,h.out.weak (by decide) SInt.weak k,h.calls.weak (by decide) SCall.weak k⟩
end
structure RuSt (W:World) (m:Nat) (sv:Value) (l:List Int) (f:MF) (rb ob B:Nat) (c:Array Value) (vb vi va vo vc:Value) (d:DRule) (s:Mk.S) (w:World):Prop where
 mkr:MK m sv l f s w
 mod:Mod [m] W w
 rblk:Blk w rb (ruC nilV nilV nilV nilV nilV 0) 54
 blk:Blk w ob c 54
 rows:RuRows (fun b=>ob<b/\b<B) w vb vi va vo vc d
 ord:m<W.heap.size/\W.heap.size<=rb/\rb<ob/\ob<B/\B<=w.heap.size
section
variable {W:World} {m:Nat} {sv:Value} {l:List Int} {f:MF} {rb ob B B':Nat} {c:Array Value} {vb vi va vo vc u:Value} {d:DRule} {s s':Mk.S} {w w':World} {back inn ahead:List (List Int)}
theorem RuA.done (h:RuA W m sv l f rb ob c vb vi va back inn ahead s w):RuSt W m sv l f rb ob w.heap.size c vb vi va nilV nilV ⟨back,inn,ahead,[],[],0⟩ s w:=by
 have h1:=h.ord;exact ⟨h.mkr,h.mod,h.rblk,h.blk,⟨h.hb.weak (by decide) SSet.weak fun b hb hs=>⟨hs.1,hb⟩,h.gi.done (by decide) SSet.weak (fun b hb hs=>⟨hs,hb⟩) (fun b hb=>by have:=h.gi.lt b hb;omega),h.ha.weak (by decide) SSet.weak fun b hb hs=>⟨hs.1,hb⟩,SRows.nil _,SRows.nil _⟩,h1.1,h1.2.1,h1.2.2.1,h1.2.2.2,nR _⟩
theorem RuSt.stays:Stays (RuSt W m sv l f rb ob B c vb vi va vo vc d s):=fun w w' h k =>
 ⟨MK.stays _ _ h.mkr k,h.mod.then (k.more (by simp)),h.rblk.kept k (by simp),h.blk.kept k (by simp),h.rows.same (k.same0 _),h.ord.1,h.ord.2.1,h.ord.2.2.1,h.ord.2.2.2.1,nT h.ord.2.2.2.2 k.size⟩
theorem RuSt.call (h:RuSt W m sv l f rb ob B c vb vi va vo vc d s w) (k:MK m sv l f s' w') (k2:Mod [m] w w'):RuSt W m sv l f rb ob B c vb vi va vo vc d s' w':=by
 have h1:=h.ord;exact ⟨k,h.mod.then k2,h.rblk.kept k2 (by simp;omega),h.blk.kept k2 (by simp;omega),h.rows.same (k2.sameB (by intro x hx hs;simp at hx;omega)),h1.1,h1.2.1,h1.2.2.1,h1.2.2.2.1,nT h1.2.2.2.2 k2.size⟩
theorem RuSt.set (h:RuSt W m sv l f rb ob B c vb vi va vo vc d s w) (i:Nat) (x:Value):RuSt W m sv l f rb ob B (c.setIfInBounds i x) vb vi va vo vc d s (w.setCell ⟨ob,i,none⟩ x):=by
 have h1:=h.ord;exact ⟨h.mkr.set (by show m<ob;omega) _,h.mod.setNew (p:=⟨ob,i,none⟩) (by show W.heap.size<=ob;omega) _,h.rblk.other (by show ob≠rb;omega) _,h.blk.set i x,h.rows.same (SameB.set w (by simp) _),h1.1,h1.2.1,h1.2.2.1,h1.2.2.2.1,by simpa using h1.2.2.2.2⟩
theorem RuSt.grown (h:RuSt W m sv l f rb ob B c vb vi va vo vc d s w) (k:w.grownBy w' u.ownBlock) (hu:∀ b,u.ownBlock=some b->B<=b):RuSt W m sv l f rb ob B c vb vi va vo vc d s w':=by
 have h1:=h.ord;exact ⟨h.mkr.grown k fun b hb=>by have:=hu b hb;omega,h.mod.grew k fun b hb=>by have:=hu b hb;omega,h.rblk.grew k fun hb=>by have:=hu _ hb;omega,h.blk.grew k fun hb=>by have:=hu _ hb;omega,h.rows.same (SameB.grown k fun b hb hs=>by have:=hu b hb;omega),h1.1,h1.2.1,h1.2.2.1,h1.2.2.2.1,nT h1.2.2.2.2 k.size⟩
theorem RuSt.up (h:RuSt W m sv l f rb ob B c vb vi va vo vc d s w) (h1:B<=B') (h2:B'<=w.heap.size):RuSt W m sv l f rb ob B' c vb vi va vo vc d s w :=
 ⟨h.mkr,h.mod,h.rblk,h.blk,h.rows.weak fun b _ hb=>⟨hb.1,by omega⟩,h.ord.1,h.ord.2.1,h.ord.2.2.1,by have:=h.ord;omega,h2⟩
theorem RuSt.outDone {ps:List Int} {v:Value} (h:RuSt W m sv l f rb ob B c vb vi va u vc d s w) (hG:Grow B 3 1 SInt (fun _=>False) v ps w):RuSt W m sv l f rb ob w.heap.size c vb vi va v vc { d with out:=ps } s w:=by
 have h1:=h.up h.ord.2.2.2.2 (nR _);exact ⟨h1.mkr,h1.mod,h1.rblk,h1.blk,⟨h1.rows.back,h1.rows.ins,h1.rows.ahead,doneS (by decide) SInt.weak h.ord.2.2.2.1 hG,h1.rows.calls⟩,h1.ord⟩
theorem RuSt.callsDone {ps:List DCall} {v:Value} (h:RuSt W m sv l f rb ob B c vb vi va vo u d s w) (hG:Grow B 51 2 SCall (fun _=>False) v ps w):RuSt W m sv l f rb ob w.heap.size c vb vi va vo v { d with calls:=ps } s w:=by
 have h1:=h.up h.ord.2.2.2.2 (nR _);exact ⟨h1.mkr,h1.mod,h1.rblk,h1.blk,⟨h1.rows.back,h1.rows.ins,h1.rows.ahead,h1.rows.out,doneS (by decide) SCall.weak h.ord.2.2.2.1 hG⟩,h1.ord⟩
theorem RuSt.withX (h:RuSt W m sv l f rb ob B c vb vi va vo vc d s w) (x:Int):RuSt W m sv l f rb ob B c vb vi va vo vc { d with x:=x } s w:=⟨h.mkr,h.mod,h.rblk,h.blk,⟨h.rows.back,h.rows.ins,h.rows.ahead,h.rows.out,h.rows.calls⟩,h.ord⟩
end
structure OuSt (W:World) (m:Nat) (sv:Value) (l:List Int) (f:MF) (rb ob B:Nat) (c:Array Value) (vb vi va vc:Value) (d:DRule) (vz:Value) (L:List Int) (s:Mk.S) (w:World):Prop where
 st:RuSt W m sv l f rb ob B c vb vi va nilV vc d s w
 gr:Grow B 3 1 SInt (fun _=>False) vz L w
section
variable {W:World} {m:Nat} {sv:Value} {l:List Int} {f:MF} {rb ob B:Nat} {c:Array Value} {vb vi va vc vz v':Value} {d:DRule} {L:List Int} {s s':Mk.S} {w w':World} {x:Int}
theorem OuSt.stays:Stays (OuSt W m sv l f rb ob B c vb vi va vc d vz L s):=fun w w' h k=>⟨RuSt.stays _ _ h.st k,h.gr.mod SInt.stay k⟩
theorem OuSt.call (h:OuSt W m sv l f rb ob B c vb vi va vc d vz L s w) (k:MK m sv l f s' w') (k2:Mod [m] w w'):OuSt W m sv l f rb ob B c vb vi va vc d vz L s' w' :=
 ⟨h.st.call k k2,h.gr.keptB SInt.stay k2 (by have:=h.st.ord;simp;omega) (fun _ h=>h.elim)⟩
theorem OuSt.push (h:OuSt W m sv l f rb ob B c vb vi va vc d vz L s w) (hG:Grow B 3 1 SInt (fun _=>False) v' (L++[x]) w') (k:w.grownBy w' vz.ownBlock):OuSt W m sv l f rb ob B (c.setIfInBounds 3 v') vb vi va vc d v' (L++[x]) s (w'.setCell ⟨ob,3,none⟩ v'):=by
 have h1:=h.st.ord;exact ⟨(h.st.grown k fun b hb=>(h.gr.lt b hb).1).set 3 v',hG.set SInt.stay (fun hb=>by have h9:B<=ob:=(hG.lt _ hb).1;omega) (fun h=>h) _⟩
end
structure CaSt (W:World) (m:Nat) (sv:Value) (l:List Int) (f:MF) (rb ob B:Nat) (c:Array Value) (vb vi va vo:Value) (d:DRule) (vz:Value) (L:List DCall) (s:Mk.S) (w:World):Prop where
 st:RuSt W m sv l f rb ob B c vb vi va vo nilV d s w
 gr:Grow B 51 2 SCall (fun _=>False) vz L w
section
variable {W:World} {m:Nat} {sv:Value} {l:List Int} {f:MF} {rb ob B:Nat} {c:Array Value} {vb vi va vo vz v':Value} {d:DRule} {L:List DCall} {s s':Mk.S} {w w':World} {x:DCall}
theorem CaSt.stays:Stays (CaSt W m sv l f rb ob B c vb vi va vo d vz L s):=fun w w' h k=>⟨RuSt.stays _ _ h.st k,h.gr.mod SCall.stay k⟩
theorem CaSt.call (h:CaSt W m sv l f rb ob B c vb vi va vo d vz L s w) (k:MK m sv l f s' w') (k2:Mod [m] w w'):CaSt W m sv l f rb ob B c vb vi va vo d vz L s' w' :=
 ⟨h.st.call k k2,h.gr.keptB SCall.stay k2 (by have:=h.st.ord;simp;omega) (fun _ h=>h.elim)⟩
theorem CaSt.push (h:CaSt W m sv l f rb ob B c vb vi va vo d vz L s w) (hG:Grow B 51 2 SCall (fun _=>False) v' (L++[x]) w') (k:w.grownBy w' vz.ownBlock):CaSt W m sv l f rb ob B (c.setIfInBounds 4 v') vb vi va vo d v' (L++[x]) s (w'.setCell ⟨ob,4,none⟩ v'):=by
 have h1:=h.st.ord;exact ⟨(h.st.grown k fun b hb=>(h.gr.lt b hb).1).set 4 v',hG.set SCall.stay (fun hb=>by have h9:B<=ob:=(hG.lt _ hb).1;omega) (fun h=>h) _⟩
end
theorem setN_keep {P:World->Prop} {b:Nat} (hP:∀ w i v,P w->P (w.setCell ⟨b,i,none⟩ v)):∀ (vs:List Value) (i:Nat) (w:World),P w->P (setN w b i vs)
 | [],_,_,h=>h
 | v::r,i,w,h=>setN_keep hP r (i+1) _ (hP w i v h)
section
variable {W:World} {m:Nat} {sv:Value} {l:List Int} {f:MF} {rb ob B:Nat} {vb vi va vo vc:Value} {d:DRule} {s:Mk.S} {w:World}
theorem RuSt.fin (h:RuSt W m sv l f rb ob B (ruC vb vi va vo vc d.x) vb vi va vo vc d s w) (hI:I64 d.x) :
  SRule (fun b=>W.heap.size<=b) (setN w rb 0 [vb,vi,va,vo,vc,.int .i64 d.x]) [vb,vi,va,vo,vc,.int .i64 d.x] d/\MK m sv l f s (setN w rb 0 [vb,vi,va,vo,vc,.int .i64 d.x])/\Mod [m] W (setN w rb 0 [vb,vi,va,vo,vc,.int .i64 d.x])/\Blk (setN w rb 0 [vb,vi,va,vo,vc,.int .i64 d.x]) rb (ruC vb vi va vo vc d.x) 54:=by
 have h1:=h.ord;have h2:=setN_keep (b:=rb) (P:=fun w=>RuRows (fun b=>ob<b/\b<B) w vb vi va vo vc d/\MK m sv l f s w/\Mod [m] W w) (fun w i v hp=>⟨hp.1.same (SameB.set w (by simp;omega) _),hp.2.1.set (by show m<rb;omega) _,hp.2.2.setNew (p:=⟨rb,i,none⟩) (by show W.heap.size<=rb;omega) _⟩) [vb,vi,va,vo,vc,.int .i64 d.x] 0 w ⟨h.rows,h.mkr,h.mod⟩;have h3:=h2.1.weak (S':=fun b=>W.heap.size<=b) fun b _ hb=>by omega
 exact ⟨⟨_,_,_,_,_,rfl,h3.back,h3.ins,h3.ahead,h3.out,h3.calls,hI⟩,h2.2.1,h2.2.2,h.rblk.over _ rfl⟩
theorem RuA.start {a:List Int} {ox:Option Addr} {cx:Nat} (K:MK m sv l f s w) (M:Mod [m] W w) (hr:Blk w rb (ruC nilV nilV nilV nilV nilV 0) 54) (ho:Blk w ob (ruC nilV nilV nilV nilV nilV 0) 54) (hord:m<W.heap.size/\W.heap.size<=rb/\rb<ob) (hV:SRows 1 SInt (fun b=>ob<b) w (.slice ox a.length cx) a) :
  RuA W m sv l f rb ob (ruC nilV (.slice (some ⟨w.heap.size,0,none⟩) 1 1) nilV nilV nilV 0) nilV (.slice (some ⟨w.heap.size,0,none⟩) 1 1) nilV [] [a] [] s ((w.alloc (.cells #[.slice ox a.length cx] 22)).setCell ⟨ob,1,none⟩ (.slice (some ⟨w.heap.size,0,none⟩) 1 1)):=by
 have h0:=ho.lt;have al:Mod [] w (w.alloc (.cells #[.slice ox a.length cx] 22)):=mR.alloc _;have hV2:=(hV.weak (by decide) SInt.weak (S':=fun b=>ob<b/\b<w.heap.size) fun b hb h=>⟨h,hb⟩).mod SInt.stay al;have hG:Grow (ob+1) 22 1 SSet (fun b=>ob<b/\b<w.heap.size) (.slice (some ⟨w.heap.size,0,none⟩) 1 1) [a] (w.alloc (.cells #[.slice ox a.length cx] 22)) :=
  Grow.made (l:=[a]) (css:=[[.slice ox a.length cx]]) SSet.weak (by omega) (Blk.new _ _ _) rfl (Elems.one rfl ⟨_,rfl,hV2⟩) (fun x _ h=>by omega) (by simp [maxLen])
 have hA:RuA W m sv l f rb ob (ruC nilV nilV nilV nilV nilV 0) nilV (.slice (some ⟨w.heap.size,0,none⟩) 1 1) nilV [] [a] [] s (w.alloc (.cells #[.slice ox a.length cx] 22)) :=
  ⟨MK.stays _ _ K al,M.then (al.more (by simp)),hr.kept al (by simp),ho.kept al (by simp),hG.weak SSet.weak (fun b _ h=>h.1),SRows.nil _,SRows.nil _,hord.1,hord.2.1,hord.2.2,by have:=al.size;omega⟩
 exact hA.set 1 _
theorem RuSt.in0 {c:Array Value} {x:List Int} {r:List (List Int)} {g k q:Nat} (h:RuSt W m sv l f rb ob B c vb (.slice (some ⟨g,0,none⟩) k q) va vo vc d s w) (hd:d.ins=x::r):∃ ox cx,w.cell? ⟨g,0,none⟩=some (.slice ox x.length cx):=by
 have h1:=h.rows.ins;rw [hd] at h1;obtain ⟨a,he,_,cs,hk,hc,_,v,rfl,hv⟩:=h1.at 0 (by simp);cases he;obtain ⟨ox,cx,rfl,_⟩:=hv.form;exact ⟨ox,cx,by have:=hc (by decide);simpa [Addr.add] using this⟩
end
def SetAnd (S:Bl) (b:List Int) (Post:World->Prop) (v:Value) (w:World):Prop:=(∃ (ox:Option Addr) (cx:Nat),v=.slice ox b.length cx/\SRows 1 SInt S w v b)/\Post w
theorem SetAnd.stays {S:Bl} {b:List Int} {Post:World->Prop} (hP:Stays Post) (v:Value):Stays (SetAnd S b Post v):=fun w w' ⟨⟨ox,cx,h0,h1⟩,h2⟩ k=>⟨⟨ox,cx,h0,h1.mod SInt.stay k⟩,hP _ _ h2 k⟩
def NewSet (B:Nat) (S:Bl) (b:List Int) (Post:World->Prop) (v:Value) (w:World):Prop:=∃ (nb:Nat) (oy:Option Addr) (cy:Nat),v=.slice (some ⟨nb,0,none⟩) 1 1/\B<=nb/\Blk w nb #[.slice oy b.length cy] 22/\SRows 1 SInt S w (.slice oy b.length cy) b/\Post w
theorem NewSet.stays {B:Nat} {S:Bl} {b:List Int} {Post:World->Prop} (hP:Stays Post) (v:Value):Stays (NewSet B S b Post v):=fun w w' ⟨nb,oy,cy,h0,h1,h2,h3,h4⟩ k=>⟨nb,oy,cy,h0,h1,h2.kept k (by simp),h3.mod SInt.stay k,hP _ _ h4 k⟩
def RowAnd (S:Bl) (b:List (List Int)) (Post:World->Prop) (v:Value) (w:World):Prop:=(∃ (ox:Option Addr) (cx:Nat),v=.slice ox b.length cx/\SRows 1 SSet S w v b)/\Post w
theorem RowAnd.stays {S:Bl} {b:List (List Int)} {Post:World->Prop} (hP:Stays Post) (v:Value):Stays (RowAnd S b Post v):=fun w w' ⟨⟨ox,cx,h0,h1⟩,h2⟩ k=>⟨⟨ox,cx,h0,h1.mod SSet.stay k⟩,hP _ _ h2 k⟩
def nxF (n:Int):Nat->List Int->Mk.M (List Int):=fun _ l s=>Mk.bind (Mk.next n s) fun x s=>(l++[x],s)
def caF (n:Nat) (calls:List Int):Nat->List DCall->Mk.M (List DCall):=fun _ l s=>Mk.bind (Mk.next (n:Int) s) fun p s=>Mk.bind (Mk.next (calls.length:Int) s) fun q s=>(l++[(⟨p,calls.getD q.toNat 0⟩:DCall)],s)
theorem setL_len (n:Int):∀ (q:Nat) (i:Int) (l:List Int) (s:Mk.S),l.length<=4->(Mk.setL n q i l s).1.length<=4:=by
 intro q
 induction q with
 | zero=>intro i l s h;exact h
 | succ q ih =>
  intro i l s h;unfold Mk.setL
  split
  ·rename_i h2;unfold Mk.bind;refine ih _ _ _ ?_
   split
   ·simp;omega
   ·exact h
  ·exact h
theorem set_len (n:Int) (s:Mk.S):(Mk.set n s).1.length<=4:=by
 unfold Mk.set Mk.bind;exact setL_len _ _ _ _ _ (by simp)
theorem row_len (n:Int) (s:Mk.S):(Mk.row n 2 s).1.length<=2:=by
 unfold Mk.row;have h1:=Mk.next_lt (2+1) s (by decide);show (Mk.rep (Mk.next (2+1) s).1.toNat (fun _ l s=>Mk.bind (Mk.set n s) fun x s=>(l++[x],s)) [] (Mk.next (2+1) s).2).1.length<=2;have h2:=Mk.rep_inv (f:=fun _ l s=>((l++[(Mk.set n s).1],(Mk.set n s).2):List (List Int)×Mk.S)) (a:=[]) (s:=(Mk.next (2+1) s).2) (n:=(Mk.next (2+1) s).1.toNat) (fun i (l:List (List Int))=>l.length<=i) (nR _) fun i l s hi h=>by simp;omega
 refine nT h2 ?_;omega
def Mk.ruleT (n kind:Int) (calls:List Int) (a:List Int) (back ahead:List (List Int)):Mk.M DRule:=fun s =>
 if kind=1∨kind=5 then bind (nexts n a.length s) fun out s=>(⟨back,[a],ahead,out,[],0⟩,s)
 else if kind=2 then bind (next 4 s) fun k s=>bind (nexts n k.toNat s) fun out s=>(⟨back,[a],ahead,out,[],0⟩,s)
 else if kind=3 then bind (row n 2 s) fun more s=>bind (next n s) fun x s=>(⟨back,a::more,ahead,[x],[],0⟩,s)
 else bind (row n 2 s) fun more s=>bind (next 3 s) fun k s =>
  bind (if calls.length=0 then ([],s) else rep k.toNat (caF (a::more).length calls) [] s) fun cs s =>
  (⟨back,a::more,ahead,[],cs,0⟩,s)
theorem rule_at (m:Nat) (sv:Value) (l:List Int) (f:MF) (s:Mk.S) (n:Nat) (hn:0<n) (hn1:n<=100000) {og:Option Addr} {cg:Nat} (hgl:f.gl=.slice og n cg) (kind:Int) (hk0:1<=kind) (hk6:kind<=6) (calls:List Int) (hcl:calls.length<=1000) {oc:Option Addr} {cc:Nat} {rg:DRule} {rs:Mk.S} (he:Mk.rule n kind calls s=(rg,rs)) (w:World) (h:MK m sv l f s w) (hC:SRows 1 SInt (fun b=>b≠m) w (.slice oc calls.length cc) calls) :
  Calls Tryz.prog 81 #[.pointer (some ⟨m,0,none⟩),.int .i64 kind,.slice oc calls.length cc] w fun e w'=>∃ cs,e=.returned (.agg cs.toArray)/\SRule (fun b=>w.heap.size<=b) w' cs rg/\MK m sv l f rs w'/\Mod [m] w w':=by
 obtain ⟨a,s1,h1⟩:∃ a b,Mk.set n s=(a,b):=⟨_,_,rfl⟩
 unfold Mk.rule at he;rw [Mk.bind_eq h1] at he;have C1:=Hi (set_at m sv l f s n hn hn1 hgl h1);have CS:=Hi (fun st x st' e=>set_at m sv l f st n hn hn1 hgl (rl:=x) (rs:=st') e);have CR:=Hi (fun st x st' e=>row_at m sv l f st n hn hn1 2 (by decide) (by decide) hgl (rl:=x) (rs:=st') e);have CN:=Hi (fun st x st' n h1 h2 e=>next_at m sv l f st n h1 h2 (r:=x) (s':=st') e);have HE:=Hi he;have HN:=Hi (And.intro hn hn1);have HCL:=Hi hcl;have HC:=Hi hC;have HGL:=Hi hgl;have HK6:=Hi (And.intro hk0 hk6);have b3:w.cell? ⟨m,3,none⟩=some (.slice og n cg):=(h.blk.cell 3).trans (congrArg some hgl);have HAQ:=Hi h1;have H0:Hid (MK m sv l f s ((w.alloc (.cells (ruC nilV nilV nilV nilV nilV 0) 54)).alloc (.cells (ruC nilV nilV nilV nilV nilV 0) 54))/\Mod [] w ((w.alloc (.cells (ruC nilV nilV nilV nilV nilV 0) 54)).alloc (.cells (ruC nilV nilV nilV nilV nilV 0) 54))/\Blk ((w.alloc (.cells (ruC nilV nilV nilV nilV nilV 0) 54)).alloc (.cells (ruC nilV nilV nilV nilV nilV 0) 54)) w.heap.size (ruC nilV nilV nilV nilV nilV 0) 54/\Blk ((w.alloc (.cells (ruC nilV nilV nilV nilV nilV 0) 54)).alloc (.cells (ruC nilV nilV nilV nilV nilV 0) 54)) (w.heap.size+1) (ruC nilV nilV nilV nilV nilV 0) 54/\m<w.heap.size/\w.heap.size<=w.heap.size/\w.heap.size<w.heap.size+1):=by
  have m1:=(Mod.refl [] w).alloc (.cells (ruC nilV nilV nilV nilV nilV 0) 54);have m2:=m1.alloc (.cells (ruC nilV nilV nilV nilV nilV 0) 54);refine ⟨MK.stays _ _ h m2,m2,(Blk.new w _ _).kept ((Mod.refl [] _).alloc _) (by simp),?_,h.blk.lt,nR _,Nat.lt_succ_self _⟩;have:=Blk.new (w.alloc (.cells (ruC nilV nilV nilV nilV nilV 0) 54)) (ruC nilV nilV nilV nilV nilV 0) 54;simpa using this
 clear h1 he h hC hcl hgl hn hn1 hk0 hk6;obtain ⟨i0,ii,iz0,iz1,iz2⟩:=info_parts inf_Int;obtain ⟨t0,ti,tz0,tz1,tz2⟩:=info_parts inf_Set;obtain ⟨q0,qi,qz0,qz1,qz2⟩:=info_parts inf_Call;go_enter Tryz.func81,Tryz.ntmps81;go_upto_region 2 with fail;rw [show (w.alloc (.cells #[.slice none 0 0,.slice none 0 0,.slice none 0 0,.slice none 0 0,.slice none 0 0,.int .i64 0] 54)).alloc (.cells #[.slice none 0 0,.slice none 0 0,.slice none 0 0,.slice none 0 0,.slice none 0 0,.int .i64 0] 54)=(w.alloc (.cells (ruC nilV nilV nilV nilV nilV 0) 54)).alloc (.cells (ruC nilV nilV nilV nilV nilV 0) 54) from rfl];have b3a:=((H0.out.1.blk.cell 3).trans (congrArg some HGL.out))
 generalize (w.alloc (.cells (ruC nilV nilV nilV nilV nilV 0) 54)).alloc (.cells (ruC nilV nilV nilV nilV nilV 0) 54)=w0 at *
 clear b3;go_wp2_with fail;refine (C1.out w0 H0.out.1).mono ?_;rintro e w1 ⟨va1,rfl,hV,K1,M1⟩;obtain ⟨ox,cx,rfl,-⟩:=hV.form;have HWZ:=Hi (show w.heap.size=w.heap.size from rfl);have HS0:Hid (RuA w m sv l f w.heap.size (w.heap.size+1) (ruC nilV (.slice (some ⟨w1.heap.size,0,none⟩) 1 1) nilV nilV nilV 0) nilV (.slice (some ⟨w1.heap.size,0,none⟩) 1 1) nilV [] [a] [] s1 ((w1.alloc (.cells #[.slice ox a.length cx] 22)).setCell ⟨w.heap.size+1,1,none⟩ (.slice (some ⟨w1.heap.size,0,none⟩) 1 1))):=by
  have h9:=H0.out.2.2.2.2;have h8:=H0.out.2.2.2.1.lt;exact RuA.start K1 ((H0.out.2.1.more (by simp)).then M1) (H0.out.2.2.1.kept M1 (by simp;omega)) (H0.out.2.2.2.1.kept M1 (by simp;omega)) h9 (hV.weak (by decide) SInt.weak fun b _ hb=>by omega)
 have o1c:(w1.alloc (.cells #[.slice ox a.length cx] 22)).cell? ⟨w.heap.size+1,1,none⟩=some (.slice none 0 0):=((H0.out.2.2.2.1.kept M1 (by have:=H0.out.2.2.2.2;simp;omega)).alloc _).cell 1;have o1f:(w1.alloc (.cells #[.slice ox a.length cx] 22)).frozen? ⟨w.heap.size+1,1,none⟩=false:=((H0.out.2.2.2.1.kept M1 (by have:=H0.out.2.2.2.2;simp;omega)).alloc _).frozen 1;clear K1 M1 hV C1 H0 b3a;generalize hrb:w.heap.size=rb at HS0 o1c o1f ⊢;generalize hob:rb+1=ob at HS0 o1c o1f ⊢;clear hrb hob HWZ;go_upto_region 4 with fail;generalize (w1.alloc (.cells #[.slice ox a.length cx] 22)).setCell ⟨ob,1,none⟩ (.slice (some ⟨w1.heap.size,0,none⟩) 1 1)=w2 at *
 generalize w1.heap.size=ib at *
 clear o1c o1f
 by_cases hk:kind=6
 ·subst hk;obtain ⟨b,s2,h2⟩:∃ a b,Mk.set n s1=(a,b):=⟨_,_,rfl⟩
  obtain ⟨x,s3,h3⟩:∃ a b,Mk.next 41 s2=(a,b):=⟨_,_,rfl⟩
  obtain ⟨hrg1,hrs1⟩:rg=⟨[],[a,b],[],[],[],x*10 - 200⟩/\rs=s3:=by
   have h9:=HE.out;rw [if_pos rfl,Mk.bind_eq h2,Mk.bind_eq h3] at h9;exact ⟨(congrArg Prod.fst h9).symm,(congrArg Prod.snd h9).symm⟩
  subst hrs1;have HRG1:=Hi hrg1;have ix:=next_in (by decide) h3;have x1:IntKind.i64.wrap (x*10)=x*10:=wrapi (by omega) (by omega);have x2:IntKind.i64.wrap (x*10 - 200)=x*10 - 200:=wrapi (by omega) (by omega);have HX:Hid (I64 (x*10 - 200)):=I64.of (by omega) (by omega);have C2:=Hi (CS.out s1 b s2 h2);have C3:=Hi (CN.out s2 x rs 41 (by decide) (by decide) h3);clear h2 h3 ix hrg1 HE;go_upto_region 5 with fail;have B1:∀ W,Mod [m] w2 W->W.cell? ⟨ob,1,none⟩=some (.slice (some ⟨ib,0,none⟩) 1 1):=fun W k=>(HS0.out.blk.kept k (by have:=HS0.out.ord;simp;omega)).cell 1
  refine Sw.wp_region_sw (I:=Mod [m] w2) (F0:=RuA w m sv l f rb ob (ruC nilV (.slice (some ⟨ib,0,none⟩) 1 1) nilV nilV nilV 0) nilV (.slice (some ⟨ib,0,none⟩) 1 1) nilV [] [a] [] s1) (fun _ _ h k=>h.then (k.more (by simp))) 5 [(0,none),(1,none),(2,none),(3,some (SetAnd (fun x=>ob<x/\(Value.slice (some ⟨ib,0,none⟩) 1 1).ownBlock≠some x) b (RuA w m sv l f rb ob (ruC nilV (.slice (some ⟨ib,0,none⟩) 1 1) nilV nilV nilV 0) nilV (.slice (some ⟨ib,0,none⟩) 1 1) nilV [] [a] [] s2))),(4,some (NewSet w2.heap.size (fun x=>ob<x/\(Value.slice (some ⟨ib,0,none⟩) 1 1).ownBlock≠some x) b (RuA w m sv l f rb ob (ruC nilV (.slice (some ⟨ib,0,none⟩) 1 1) nilV nilV nilV 0) nilV (.slice (some ⟨ib,0,none⟩) 1 1) nilV [] [a] [] s2)))] (by kernel_rfl) (by kernel_rfl) (Sq.nodup_of (by kernel_rfl)) ?hTS116 (mR.drew) RuA.stays (RuA.stays _ _ HS0.out (mR.drew)) ?mainS116
  case hTS116 =>
   intro p hp T hT v;simp only [List.mem_cons,List.not_mem_nil,or_false] at hp;rcases hp with rfl | rfl | rfl | rfl | rfl <;> first | (cases hT;done) | (cases hT;first | exact NewSet.stays RuA.stays _ | exact SetAnd.stays RuA.stays _)
  iterate 3 refine Sw.vv (w0:=w2.drew) (mR.drew) ?_
  refine Sw.xx (fun w' hw' hF K Q hK=>?_) (fun kv hkv=>?_)
  ·go_wp2_with fail;refine (C2.out w' hF.mkr).mono ?_;rintro e w'' ⟨v,rfl,hv,K',M'⟩;obtain ⟨oy,cy,rfl,-⟩:=hv.form;go_wp2;exact hK _ _ (hw'.then M') ⟨⟨oy,cy,rfl,hF.newSet hv⟩,hF.call K' M'⟩
  obtain ⟨_,_,⟨oy,cy,rfl,_⟩,_⟩:=hkv;refine Sw.xx (fun w' hw' hF K Q hK=>?_) (fun kv hkv=>?_)
  ·go_wp2_with fail;obtain ⟨⟨oz,cz,he,hS⟩,hO⟩:=hF;cases he;exact hK _ _ (hw'.alloc _) ⟨_,_,_,rfl,hw'.size,Blk.new _ _ _,hS.mod SInt.stay (mR.alloc _),RuA.stays _ _ hO (mR.alloc _)⟩
  obtain ⟨_,_,nb,oy2,cy2,rfl,_⟩:=hkv;refine Sw.nil_go ?_;intro w' hw' hF;simp only [qS,qZ];obtain ⟨b9,oy3,cy3,he9,-,hB,hS,hO⟩:=hF;cases he9;have HB:=Hi hB;have HS:=Hi hS;have HO:=Hi hO;clear hB hS hO hw' B1 HS0 C2;go_wp2_with (at_builtin;refine wpList_push (k:=1) (e:=22) (base:=ob+1) (l:=[a]) (l':=[b]) rfl _ _ 49 rfl t0 _ 24 Tryz.underlying49 ti tz0 tz1 tz2 rfl (by decide) SSet.stay SSet.weak rfl HO.out.gi ⟨nb,0,none⟩ _ _ [[.slice oy3 b.length cy3]] rfl rfl (Elems.one rfl ⟨_,rfl,HS.out⟩) (fun j u hu=>blk_news HB.out rfl hu) (by simp [Value.oneCell']) ?_ ?_ ?_ ?_)
  ·show (2:Nat)<=maxLen;decide
  ·show (2:Nat)*24<=140737488355328;decide
  ·have:=HO.out.ord;omega
  intro v' w3 hGP hgr hbk;obtain ⟨ov,cv,rfl⟩:=hGP.form;have hP:=HO.out.push hGP hgr hbk;have o1c:w3.cell? ⟨ob,1,none⟩=some (.slice (some ⟨ib,0,none⟩) 1 1):=(HO.out.blk.grew hgr (fun hb=>by have:=(HO.out.gi.lt _ hb).1;omega)).cell 1;have o1f:=(HO.out.blk.grew hgr (fun hb=>by have:=(HO.out.gi.lt _ hb).1;omega)).frozen 1;have HP:Hid (RuA w m sv l f rb ob (ruC nilV (.slice ov 2 cv) nilV nilV nilV 0) nilV (.slice ov 2 cv) nilV [] [a,b] [] s2 (w3.setCell ⟨ob,1,none⟩ (.slice ov 2 cv))):=hP;clear hGP hgr hbk hP HO HB HS;go_upto_region 6 with fail;generalize w3.setCell ⟨ob,1,none⟩ (.slice ov 2 cv)=w4 at *
  clear o1c o1f;go_wp2_with fail;refine (C3.out w4 HP.out.mkr).mono ?_;rintro e w5 ⟨rfl,K5,M5⟩;have hP5:=HP.out.call K5 M5;have o5c:w5.cell? ⟨ob,5,none⟩=some (.int .i64 0):=hP5.blk.cell 5;have o5f:=hP5.blk.frozen 5;have HQ:Hid (RuSt w m sv l f rb ob w5.heap.size (ruC nilV (.slice ov 2 cv) nilV nilV nilV (x*10 - 200)) nilV (.slice ov 2 cv) nilV nilV nilV ⟨[],[a,b],[],[],[],x*10 - 200⟩ rs (w5.setCell ⟨ob,5,none⟩ (.int .i64 (x*10 - 200)))):=(hP5.done.set 5 (.int .i64 (x*10 - 200))).withX (x*10 - 200);clear hP5 K5 M5 HP C3;go_upto_region 7 with fail;generalize w5.setCell ⟨ob,5,none⟩ (.int .i64 (x*10 - 200))=w6 at *
  generalize w5.heap.size=B5 at *
  clear o5c o5f;obtain ⟨xx,hxx⟩:∃ y,y=x*10 - 200:=⟨_,rfl⟩
  rw [<- hxx] at HQ HX HRG1;clear hxx x1 x2;have e0:w6.cell? ⟨ob,0,none⟩=some (.slice none 0 0):=HQ.out.blk.cell 0;have e1:w6.cell? ⟨ob,1,none⟩=some (.slice ov 2 cv):=HQ.out.blk.cell 1;have e2:w6.cell? ⟨ob,2,none⟩=some (.slice none 0 0):=HQ.out.blk.cell 2;have e3:w6.cell? ⟨ob,3,none⟩=some (.slice none 0 0):=HQ.out.blk.cell 3;have e4:w6.cell? ⟨ob,4,none⟩=some (.slice none 0 0):=HQ.out.blk.cell 4;have e5:w6.cell? ⟨ob,5,none⟩=some (.int .i64 xx):=HQ.out.blk.cell 5;have z0:w6.cell? ⟨rb,0,none⟩=some (.slice none 0 0):=HQ.out.rblk.cell 0;have zf0:=HQ.out.rblk.frozen 0;have z1:w6.cell? ⟨rb,1,none⟩=some (.slice none 0 0):=HQ.out.rblk.cell 1;have zf1:=HQ.out.rblk.frozen 1;have z2:w6.cell? ⟨rb,2,none⟩=some (.slice none 0 0):=HQ.out.rblk.cell 2;have zf2:=HQ.out.rblk.frozen 2;have z3:w6.cell? ⟨rb,3,none⟩=some (.slice none 0 0):=HQ.out.rblk.cell 3;have zf3:=HQ.out.rblk.frozen 3;have z4:w6.cell? ⟨rb,4,none⟩=some (.slice none 0 0):=HQ.out.rblk.cell 4;have zf4:=HQ.out.rblk.frozen 4;have z5:w6.cell? ⟨rb,5,none⟩=some (.int .i64 0):=HQ.out.rblk.cell 5;have zf5:=HQ.out.rblk.frozen 5;have HFIN:=Hi (RuSt.fin (d:=⟨[],[a,b],[],[],[],xx⟩) HQ.out HX.out);clear HQ;go_wp2_with fail;have XF:((((((w6.setCell ⟨rb,0,none⟩ (.slice none 0 0)).setCell ⟨rb,1,none⟩ (.slice ov 2 cv)).setCell ⟨rb,2,none⟩ (.slice none 0 0)).setCell ⟨rb,3,none⟩ (.slice none 0 0)).setCell ⟨rb,4,none⟩ (.slice none 0 0)).setCell ⟨rb,5,none⟩ (.int .i64 xx))=setN w6 (rb) (0) [.slice none 0 0,.slice ov 2 cv,.slice none 0 0,.slice none 0 0,.slice none 0 0,.int .i64 xx]:=rfl;rw [XF];clear XF;have r0:(setN w6 rb 0 [.slice none 0 0,.slice ov 2 cv,.slice none 0 0,.slice none 0 0,.slice none 0 0,.int .i64 xx]).cell? ⟨rb,0,none⟩=some (.slice none 0 0):=HFIN.out.2.2.2.cell 0;have r1:(setN w6 rb 0 [.slice none 0 0,.slice ov 2 cv,.slice none 0 0,.slice none 0 0,.slice none 0 0,.int .i64 xx]).cell? ⟨rb,1,none⟩=some (.slice ov 2 cv):=HFIN.out.2.2.2.cell 1;have r2:(setN w6 rb 0 [.slice none 0 0,.slice ov 2 cv,.slice none 0 0,.slice none 0 0,.slice none 0 0,.int .i64 xx]).cell? ⟨rb,2,none⟩=some (.slice none 0 0):=HFIN.out.2.2.2.cell 2;have r3:(setN w6 rb 0 [.slice none 0 0,.slice ov 2 cv,.slice none 0 0,.slice none 0 0,.slice none 0 0,.int .i64 xx]).cell? ⟨rb,3,none⟩=some (.slice none 0 0):=HFIN.out.2.2.2.cell 3;have r4:(setN w6 rb 0 [.slice none 0 0,.slice ov 2 cv,.slice none 0 0,.slice none 0 0,.slice none 0 0,.int .i64 xx]).cell? ⟨rb,4,none⟩=some (.slice none 0 0):=HFIN.out.2.2.2.cell 4;have r5:(setN w6 rb 0 [.slice none 0 0,.slice ov 2 cv,.slice none 0 0,.slice none 0 0,.slice none 0 0,.int .i64 xx]).cell? ⟨rb,5,none⟩=some (.int .i64 xx):=HFIN.out.2.2.2.cell 5;exact bodyPost_ret (v:=.agg #[.slice none 0 0,.slice ov 2 cv,.slice none 0 0,.slice none 0 0,.slice none 0 0,.int .i64 xx]) (by simp [results,Tryz.results81,go_sem,r0,r1,r2,r3,r4,r5]) rfl ⟨[.slice none 0 0,.slice ov 2 cv,.slice none 0 0,.slice none 0 0,.slice none 0 0,.int .i64 xx],rfl,HRG1.out ▸ HFIN.out.1,HFIN.out.2.1,HFIN.out.2.2.1⟩
 have kk1:decide (kind=6)=false:=dF hk;have kk2:(kind == 6)=false:=beq_false_of_ne hk;obtain ⟨z,s2,h2⟩:∃ a b,Mk.next 2 s1=(a,b):=⟨_,_,rfl⟩
 have HE2:Hid (Mk.bind (if z=0 then Mk.row n 2 s2 else ([],s2)) (fun back s=>Mk.bind (if z=0 then Mk.row n 2 s else ([],s)) (fun ahead s=>Mk.ruleT n kind calls a back ahead s))=(rg,rs)):=by
  have h9:=HE.out;rw [if_neg hk,Mk.bind_eq h2] at h9;exact h9
 have C2:=Hi (CN.out s1 z s2 2 (by decide) (by decide) h2 w2 HS0.out.mkr);have HKN:=Hi hk;clear hk h2 HE;go_wp2_with fail;refine C2.out.mono ?_;rintro e w3 ⟨rfl,K3,M3⟩;have HS1:=Hi (HS0.out.call K3 M3);clear K3 M3 HS0 C2 kk1 kk2;go_upto_if 41 with fail
 go_cut [] from 41 to 47 (fun wx=>∃ (back ahead:List (List Int)) (s3:Mk.S) (p0 p2:Option Addr) (c0 c2:Nat),Hid (Mk.ruleT n kind calls a back ahead s3=(rg,rs))/\Hid (RuA w m sv l f rb ob (ruC (.slice p0 back.length c0) (.slice (some ⟨ib,0,none⟩) 1 1) (.slice p2 ahead.length c2) nilV nilV 0) (.slice p0 back.length c0) (.slice (some ⟨ib,0,none⟩) 1 1) (.slice p2 ahead.length c2) back [a] ahead s3 wx))
 case first =>
  by_cases hz:z=0
  case neg =>
   have kz:(z == 0)=false:=beq_false_of_ne hz;have kz2:decide (z=0)=false:=dF hz;have HT:Hid (Mk.ruleT n kind calls a [] [] s2=(rg,rs)):=by
    have h9:=HE2.out;rw [if_neg hz,Mk.bind_eq rfl,if_neg hz,Mk.bind_eq rfl] at h9;exact h9
   go_wp2;go_meet
   case rel=>exact ⟨[],[],s2,none,none,0,0,HT,HS1⟩
  subst hz;obtain ⟨back,s3,h3⟩:∃ a b,Mk.row n 2 s2=(a,b):=⟨_,_,rfl⟩
  obtain ⟨ahead,s4,h4⟩:∃ a b,Mk.row n 2 s3=(a,b):=⟨_,_,rfl⟩
  have HT:Hid (Mk.ruleT n kind calls a back ahead s4=(rg,rs)):=by
   have h9:=HE2.out;rw [if_pos rfl,Mk.bind_eq h3,if_pos rfl,Mk.bind_eq h4] at h9;exact h9
  have C3:=Hi (CR.out s2 back s3 h3 w3 HS1.out.mkr);have C4:=Hi (CR.out s3 ahead s4 h4);clear h3 h4 HE2;go_wp2_with fail;refine C3.out.mono ?_;rintro e w4 ⟨v,rfl,hv,K4,M4⟩;obtain ⟨p0,c0,rfl,-⟩:=hv.form;have hA:=(HS1.out.call K4 M4).backIs (HS1.out.newRow hv);have o0c:w4.cell? ⟨ob,0,none⟩=some (.slice none 0 0):=hA.blk.cell 0;have o0f:=hA.blk.frozen 0;have HS2:Hid (RuA w m sv l f rb ob (ruC (.slice p0 back.length c0) (.slice (some ⟨ib,0,none⟩) 1 1) nilV nilV nilV 0) (.slice p0 back.length c0) (.slice (some ⟨ib,0,none⟩) 1 1) nilV back [a] [] s3 (w4.setCell ⟨ob,0,none⟩ (.slice p0 back.length c0))):=hA.set 0 _;clear hA K4 M4 hv C3 HS1;go_upto_region 10 with fail;generalize w4.setCell ⟨ob,0,none⟩ (.slice p0 back.length c0)=w5 at *
  clear o0c o0f;go_wp2_with fail;refine (C4.out w5 HS2.out.mkr).mono ?_;rintro e w6 ⟨v,rfl,hv,K4,M4⟩;obtain ⟨p2,c2,rfl,-⟩:=hv.form;have hA:=(HS2.out.call K4 M4).aheadIs (HS2.out.newRow hv);have o0c:w6.cell? ⟨ob,2,none⟩=some (.slice none 0 0):=hA.blk.cell 2;have o0f:=hA.blk.frozen 2;have HS3:Hid (RuA w m sv l f rb ob (ruC (.slice p0 back.length c0) (.slice (some ⟨ib,0,none⟩) 1 1) (.slice p2 ahead.length c2) nilV nilV 0) (.slice p0 back.length c0) (.slice (some ⟨ib,0,none⟩) 1 1) (.slice p2 ahead.length c2) back [a] ahead s4 (w6.setCell ⟨ob,2,none⟩ (.slice p2 ahead.length c2))):=hA.set 2 _;clear hA K4 M4 hv C4 HS2;go_wp2;go_meet
  case rel=>exact ⟨back,ahead,s4,p0,p2,c0,c2,HT,HS3⟩
 case rest =>
  obtain ⟨back,ahead,s3,p0,p2,c0,c2,HT,HS2⟩:=hcut;clear HE2 HS1;have HAL:Hid (a.length<=4):=by have:=set_len n s;rw [HAQ.out] at this;exact this
  go_upto_block 0 with fail
  go_cut [9,10,11,12,13] from 49 to 134 (fun v9 v10 v11 v12 v13 wx=>∃ (p0 p1 p2 p3 p4:Option Addr) (c0 c1 c2 c3 c4 B:Nat),Hid (rg.x=0)/\Hid (RuSt w m sv l f rb ob B (ruC (.slice p0 rg.back.length c0) (.slice p1 rg.ins.length c1) (.slice p2 rg.ahead.length c2) (.slice p3 rg.out.length c3) (.slice p4 rg.calls.length c4) 0) (.slice p0 rg.back.length c0) (.slice p1 rg.ins.length c1) (.slice p2 rg.ahead.length c2) (.slice p3 rg.out.length c3) (.slice p4 rg.calls.length c4) rg rs wx))
  case first =>
   have hkk:kind=1∨kind=5∨kind=2∨kind=3∨kind=4:=by have:=HK6.out;have:=HKN.out;have h7:kind≠6:=HKN.out;omega
   clear HK6 HKN;rcases hkk with rfl | rfl | rfl | rfl | rfl
   ·obtain ⟨out,s4,h4⟩:∃ q r,Mk.rep a.length (nxF n) [] s3=(q,r):=⟨_,_,rfl⟩
    obtain ⟨hrg1,hrs1⟩:rg=⟨back,[a],ahead,out,[],0⟩/\rs=s4:=by
     have h9:=HT.out;unfold Mk.ruleT at h9;rw [if_pos (Or.inl rfl),Mk.bind_eq (show Mk.nexts n a.length s3=(out,s4) from h4)] at h9;exact ⟨(congrArg Prod.fst h9).symm,(congrArg Prod.snd h9).symm⟩
    subst hrs1;have HRG1:=Hi hrg1;have H4:=Hi h4;have HKB:Hid (a.length<=4):=HAL.out;have HS2b:=Hi HS2.out;clear hrg1 h4 HT HS2;have HS3:=Hi HS2b.out.done;generalize wc.heap.size=B1 at HS3;clear HS2b;go_wp2_with fail
    go_loopg [9] a.length (fun gk v9 wr=>∃ (i:Nat) (L:List Int) (st:Mk.S) (od:Option Addr) (cd:Nat),v9=.int .i64 (i:Int)/\Hid (i+gk=a.length)/\Hid (Mk.rep i (nxF n) [] s3=(L,st))/\Hid (L.length=i)/\Hid (OuSt w m sv l f rb ob B1 (ruC (.slice p0 back.length c0) (.slice (some ⟨ib,0,none⟩) 1 1) (.slice p2 ahead.length c2) (.slice od L.length cd) nilV 0) (.slice p0 back.length c0) (.slice (some ⟨ib,0,none⟩) 1 1) (.slice p2 ahead.length c2) nilV ⟨back,[a],ahead,[],[],0⟩ (.slice od L.length cd) L st wr))
    case atStart=>exact ⟨0,[],s3,none,0,rfl,by show 0+a.length=a.length;omega,rfl,rfl,HS3.out,Grow.nil⟩
    case round =>
     obtain ⟨i,L,st,od,cd,rfl,hi5,HR,HLL,HS⟩:=hrel;clear HS3;have b1:wr.cell? ⟨ob,1,none⟩=some (.slice (some ⟨ib,0,none⟩) 1 1):=HS.out.st.blk.cell 1;obtain ⟨oi,ci,b0⟩:=HS.out.st.in0 rfl
     by_cases hin:i<a.length
     case neg =>
      have hie:i=a.length:=by have:=hi5.out;omega
      have k1:decide ((i:Int)<(a.length:Int))=false:=dF (by omega);have k2:¬ (i:Int)<(a.length:Int):=by omega
      obtain ⟨rfl,rfl⟩:L=out/\st=rs:=by have h9:=H4.out;rw [<- hie,HR.out] at h9;simpa using h9
      have HS4:=Hi (HS.out.st.outDone HS.out.gr);clear HS hie;go_wp2;go_meet
      case rel=>rw [HRG1.out];exact ⟨p0,some ⟨ib,0,none⟩,p2,od,none,c0,1,c2,cd,0,_,rfl,HS4.out⟩
     have k1:decide ((i:Int)<(a.length:Int))=true:=dT (by omega);have k2:(i:Int)<(a.length:Int):=by omega
     have ei:IntKind.i64.wrap ((i:Int)+1)=(i:Int)+1:=wrapi (by omega) (by have:=HKB.out;omega);obtain ⟨x,st1,hx⟩:∃ a b,Mk.next n st=(a,b):=⟨_,_,rfl⟩
     have CX:=Hi (CN.out st x st1 n (by have:=HN.out;omega) (by have:=HN.out;omega) hx);have ix:=next_in (by have:=HN.out;omega) hx;have HXI:Hid (I64 x):=by have:=HN.out;exact I64.of (by omega) (by omega)
     have HD:Hid (nxF n i L st=(L++[x],st1)):=by unfold nxF;rw [Mk.bind_eq hx];exact rfl
     have B3:∀ W,Mod [m] wr W->W.cell? ⟨ob,3,none⟩=some (.slice od L.length cd):=fun W k=>(HS.out.st.blk.kept k (by have:=HS.out.st.ord;simp;omega)).cell 3
     have HIN:=Hi hin;clear hx ix hin;go_upto_region 23 with fail;refine Sw.wp_region_sw (I:=Mod [m] wr) (F0:=OuSt w m sv l f rb ob B1 (ruC (.slice p0 back.length c0) (.slice (some ⟨ib,0,none⟩) 1 1) (.slice p2 ahead.length c2) (.slice od L.length cd) nilV 0) (.slice p0 back.length c0) (.slice (some ⟨ib,0,none⟩) 1 1) (.slice p2 ahead.length c2) nilV ⟨back,[a],ahead,[],[],0⟩ (.slice od L.length cd) L st) (fun _ _ h k=>h.then (k.more (by simp))) 6 [(0,none),(1,none),(2,none),(3,none),(4,some (Rg.Know (OuSt w m sv l f rb ob B1 (ruC (.slice p0 back.length c0) (.slice (some ⟨ib,0,none⟩) 1 1) (.slice p2 ahead.length c2) (.slice od L.length cd) nilV 0) (.slice p0 back.length c0) (.slice (some ⟨ib,0,none⟩) 1 1) (.slice p2 ahead.length c2) nilV ⟨back,[a],ahead,[],[],0⟩ (.slice od L.length cd) L st1) (.int .i64 x))),(5,some (NewAnd wr.heap.size #[.int .i64 x] 3 1 (OuSt w m sv l f rb ob B1 (ruC (.slice p0 back.length c0) (.slice (some ⟨ib,0,none⟩) 1 1) (.slice p2 ahead.length c2) (.slice od L.length cd) nilV 0) (.slice p0 back.length c0) (.slice (some ⟨ib,0,none⟩) 1 1) (.slice p2 ahead.length c2) nilV ⟨back,[a],ahead,[],[],0⟩ (.slice od L.length cd) L st1)))] (by kernel_rfl) (by kernel_rfl) (Sq.nodup_of (by kernel_rfl)) ?hTS338 (mR.drew) OuSt.stays (OuSt.stays _ _ HS.out (mR.drew)) ?mainS338
     case hTS338 =>
      intro p hp T hT v;simp only [List.mem_cons,List.not_mem_nil,or_false] at hp;rcases hp with rfl | rfl | rfl | rfl | rfl | rfl <;> first | (cases hT;done) | (cases hT;first | exact NewAnd.stays OuSt.stays _ | exact Rg.know_stays OuSt.stays _ _)
     iterate 4 refine Sw.vv (w0:=wr.drew) (mR.drew) ?_
     refine Sw.xx (fun w' hw' hF K Q hK=>?_) (fun kv hkv=>?_)
     ·go_wp2_with fail;refine (CX.out w' hF.st.mkr).mono ?_;rintro e w'' ⟨rfl,K',M'⟩;go_wp2;exact hK _ _ (hw'.then M') ⟨rfl,hF.call K' M'⟩
     obtain ⟨_,_,rfl,_⟩:=hkv;refine Sw.xx (fun w' hw' hF K Q hK=>?_) (fun kv hkv=>?_)
     ·go_wp2;exact hK _ _ (hw'.alloc _) ⟨⟨_,rfl,hw'.size,Blk.new _ _ _⟩,OuSt.stays _ _ hF.2 (mR.alloc _)⟩
     obtain ⟨_,_,⟨nb,rfl,hnb,_⟩,_⟩:=hkv;refine Sw.nil_go ?_;intro w' hw' hF;simp only [qS,qZ];obtain ⟨⟨b9,he9,-,hB⟩,hO⟩:=hF;cases he9;have HB:=Hi hB;have HO:=Hi hO;clear hB hO hw' B3 HS CX;go_wp2_with (at_builtin;refine wpList_push (k:=1) (e:=3) (base:=B1) (l:=L) (l':=[x]) rfl _ _ 22 rfl i0 _ 8 Tryz.underlying22 ii iz0 iz1 iz2 rfl (by decide) SInt.stay SInt.weak rfl HO.out.gr ⟨nb,0,none⟩ _ _ [[.int .i64 x]] rfl rfl (Elems.one rfl ⟨rfl,HXI.out⟩) (fun j u hu=>blk_news HB.out rfl hu) (by simp [Value.oneCell']) ?_ ?_ ?_ ?_)
     ·have h4:=HLL.out;have h5:=HIN.out;have h6:=HKB.out;unfold maxLen;simp;omega
     ·have h4:=HLL.out;have h5:=HIN.out;have h6:=HKB.out;simp;omega
     ·exact HO.out.st.ord.2.2.2.2
     intro v' w7 hGP hgr _;obtain ⟨od',cd',rfl⟩:=hGP.form;have hnl:(L++[x]).length=L.length+1:=by simp
     rw [hnl] at hGP;have HNL:=Hi hnl;clear hnl;have HS7:=Hi (HO.out.push hGP hgr);have o3c:w7.cell? ⟨ob,3,none⟩=some (.slice od L.length cd):=(HO.out.st.grown hgr fun b hb=>(HO.out.gr.lt b hb).1).blk.cell 3;have o3f:=(HO.out.st.grown hgr fun b hb=>(HO.out.gr.lt b hb).1).blk.frozen 3;clear hGP hgr HO HB;go_wp2;go_roundg (gk - 1)
     case measure=>have:=hi5.out;have:=HIN.out;omega
     case rel =>
      refine ⟨i+1,L++[x],st1,od',cd',by rw [Int.natCast_add];rfl,?_,?_,?_,by rw [HNL.out];exact HS7.out⟩
      ·have:=hi5.out;have:=HIN.out;show i+1+(gk - 1)=a.length;omega
      ·show Mk.rep (i+1) (nxF n) [] s3=_;rw [Mk.rep_next HR.out];exact HD.out
      ·have:=HLL.out;show (L++[x]).length=i+1;rw [HNL.out];omega
   ·obtain ⟨out,s4,h4⟩:∃ q r,Mk.rep a.length (nxF n) [] s3=(q,r):=⟨_,_,rfl⟩
    obtain ⟨hrg1,hrs1⟩:rg=⟨back,[a],ahead,out,[],0⟩/\rs=s4:=by
     have h9:=HT.out;unfold Mk.ruleT at h9;rw [if_pos (Or.inr rfl),Mk.bind_eq (show Mk.nexts n a.length s3=(out,s4) from h4)] at h9;exact ⟨(congrArg Prod.fst h9).symm,(congrArg Prod.snd h9).symm⟩
    subst hrs1;have HRG1:=Hi hrg1;have H4:=Hi h4;have HKB:Hid (a.length<=4):=HAL.out;have HS2b:=Hi HS2.out;clear hrg1 h4 HT HS2;have HS3:=Hi HS2b.out.done;generalize wc.heap.size=B1 at HS3;clear HS2b;go_wp2_with fail
    go_loopg [9] a.length (fun gk v9 wr=>∃ (i:Nat) (L:List Int) (st:Mk.S) (od:Option Addr) (cd:Nat),v9=.int .i64 (i:Int)/\Hid (i+gk=a.length)/\Hid (Mk.rep i (nxF n) [] s3=(L,st))/\Hid (L.length=i)/\Hid (OuSt w m sv l f rb ob B1 (ruC (.slice p0 back.length c0) (.slice (some ⟨ib,0,none⟩) 1 1) (.slice p2 ahead.length c2) (.slice od L.length cd) nilV 0) (.slice p0 back.length c0) (.slice (some ⟨ib,0,none⟩) 1 1) (.slice p2 ahead.length c2) nilV ⟨back,[a],ahead,[],[],0⟩ (.slice od L.length cd) L st wr))
    case atStart=>exact ⟨0,[],s3,none,0,rfl,by show 0+a.length=a.length;omega,rfl,rfl,HS3.out,Grow.nil⟩
    case round =>
     obtain ⟨i,L,st,od,cd,rfl,hi5,HR,HLL,HS⟩:=hrel;clear HS3;have b1:wr.cell? ⟨ob,1,none⟩=some (.slice (some ⟨ib,0,none⟩) 1 1):=HS.out.st.blk.cell 1;obtain ⟨oi,ci,b0⟩:=HS.out.st.in0 rfl
     by_cases hin:i<a.length
     case neg =>
      have hie:i=a.length:=by have:=hi5.out;omega
      have k1:decide ((i:Int)<(a.length:Int))=false:=dF (by omega);have k2:¬ (i:Int)<(a.length:Int):=by omega
      obtain ⟨rfl,rfl⟩:L=out/\st=rs:=by have h9:=H4.out;rw [<- hie,HR.out] at h9;simpa using h9
      have HS4:=Hi (HS.out.st.outDone HS.out.gr);clear HS hie;go_wp2;go_meet
      case rel=>rw [HRG1.out];exact ⟨p0,some ⟨ib,0,none⟩,p2,od,none,c0,1,c2,cd,0,_,rfl,HS4.out⟩
     have k1:decide ((i:Int)<(a.length:Int))=true:=dT (by omega);have k2:(i:Int)<(a.length:Int):=by omega
     have ei:IntKind.i64.wrap ((i:Int)+1)=(i:Int)+1:=wrapi (by omega) (by have:=HKB.out;omega);obtain ⟨x,st1,hx⟩:∃ a b,Mk.next n st=(a,b):=⟨_,_,rfl⟩
     have CX:=Hi (CN.out st x st1 n (by have:=HN.out;omega) (by have:=HN.out;omega) hx);have ix:=next_in (by have:=HN.out;omega) hx;have HXI:Hid (I64 x):=by have:=HN.out;exact I64.of (by omega) (by omega)
     have HD:Hid (nxF n i L st=(L++[x],st1)):=by unfold nxF;rw [Mk.bind_eq hx];exact rfl
     have B3:∀ W,Mod [m] wr W->W.cell? ⟨ob,3,none⟩=some (.slice od L.length cd):=fun W k=>(HS.out.st.blk.kept k (by have:=HS.out.st.ord;simp;omega)).cell 3
     have HIN:=Hi hin;clear hx ix hin;go_upto_region 23 with fail;refine Sw.wp_region_sw (I:=Mod [m] wr) (F0:=OuSt w m sv l f rb ob B1 (ruC (.slice p0 back.length c0) (.slice (some ⟨ib,0,none⟩) 1 1) (.slice p2 ahead.length c2) (.slice od L.length cd) nilV 0) (.slice p0 back.length c0) (.slice (some ⟨ib,0,none⟩) 1 1) (.slice p2 ahead.length c2) nilV ⟨back,[a],ahead,[],[],0⟩ (.slice od L.length cd) L st) (fun _ _ h k=>h.then (k.more (by simp))) 6 [(0,none),(1,none),(2,none),(3,none),(4,some (Rg.Know (OuSt w m sv l f rb ob B1 (ruC (.slice p0 back.length c0) (.slice (some ⟨ib,0,none⟩) 1 1) (.slice p2 ahead.length c2) (.slice od L.length cd) nilV 0) (.slice p0 back.length c0) (.slice (some ⟨ib,0,none⟩) 1 1) (.slice p2 ahead.length c2) nilV ⟨back,[a],ahead,[],[],0⟩ (.slice od L.length cd) L st1) (.int .i64 x))),(5,some (NewAnd wr.heap.size #[.int .i64 x] 3 1 (OuSt w m sv l f rb ob B1 (ruC (.slice p0 back.length c0) (.slice (some ⟨ib,0,none⟩) 1 1) (.slice p2 ahead.length c2) (.slice od L.length cd) nilV 0) (.slice p0 back.length c0) (.slice (some ⟨ib,0,none⟩) 1 1) (.slice p2 ahead.length c2) nilV ⟨back,[a],ahead,[],[],0⟩ (.slice od L.length cd) L st1)))] (by kernel_rfl) (by kernel_rfl) (Sq.nodup_of (by kernel_rfl)) ?hTS452 (mR.drew) OuSt.stays (OuSt.stays _ _ HS.out (mR.drew)) ?mainS452
     case hTS452 =>
      intro p hp T hT v;simp only [List.mem_cons,List.not_mem_nil,or_false] at hp;rcases hp with rfl | rfl | rfl | rfl | rfl | rfl <;> first | (cases hT;done) | (cases hT;first | exact NewAnd.stays OuSt.stays _ | exact Rg.know_stays OuSt.stays _ _)
     iterate 4 refine Sw.vv (w0:=wr.drew) (mR.drew) ?_
     refine Sw.xx (fun w' hw' hF K Q hK=>?_) (fun kv hkv=>?_)
     ·go_wp2_with fail;refine (CX.out w' hF.st.mkr).mono ?_;rintro e w'' ⟨rfl,K',M'⟩;go_wp2;exact hK _ _ (hw'.then M') ⟨rfl,hF.call K' M'⟩
     obtain ⟨_,_,rfl,_⟩:=hkv;refine Sw.xx (fun w' hw' hF K Q hK=>?_) (fun kv hkv=>?_)
     ·go_wp2;exact hK _ _ (hw'.alloc _) ⟨⟨_,rfl,hw'.size,Blk.new _ _ _⟩,OuSt.stays _ _ hF.2 (mR.alloc _)⟩
     obtain ⟨_,_,⟨nb,rfl,hnb,_⟩,_⟩:=hkv;refine Sw.nil_go ?_;intro w' hw' hF;simp only [qS,qZ];obtain ⟨⟨b9,he9,-,hB⟩,hO⟩:=hF;cases he9;have HB:=Hi hB;have HO:=Hi hO;clear hB hO hw' B3 HS CX;go_wp2_with (at_builtin;refine wpList_push (k:=1) (e:=3) (base:=B1) (l:=L) (l':=[x]) rfl _ _ 22 rfl i0 _ 8 Tryz.underlying22 ii iz0 iz1 iz2 rfl (by decide) SInt.stay SInt.weak rfl HO.out.gr ⟨nb,0,none⟩ _ _ [[.int .i64 x]] rfl rfl (Elems.one rfl ⟨rfl,HXI.out⟩) (fun j u hu=>blk_news HB.out rfl hu) (by simp [Value.oneCell']) ?_ ?_ ?_ ?_)
     ·have h4:=HLL.out;have h5:=HIN.out;have h6:=HKB.out;unfold maxLen;simp;omega
     ·have h4:=HLL.out;have h5:=HIN.out;have h6:=HKB.out;simp;omega
     ·exact HO.out.st.ord.2.2.2.2
     intro v' w7 hGP hgr _;obtain ⟨od',cd',rfl⟩:=hGP.form;have hnl:(L++[x]).length=L.length+1:=by simp
     rw [hnl] at hGP;have HNL:=Hi hnl;clear hnl;have HS7:=Hi (HO.out.push hGP hgr);have o3c:w7.cell? ⟨ob,3,none⟩=some (.slice od L.length cd):=(HO.out.st.grown hgr fun b hb=>(HO.out.gr.lt b hb).1).blk.cell 3;have o3f:=(HO.out.st.grown hgr fun b hb=>(HO.out.gr.lt b hb).1).blk.frozen 3;clear hGP hgr HO HB;go_wp2;go_roundg (gk - 1)
     case measure=>have:=hi5.out;have:=HIN.out;omega
     case rel =>
      refine ⟨i+1,L++[x],st1,od',cd',by rw [Int.natCast_add];rfl,?_,?_,?_,by rw [HNL.out];exact HS7.out⟩
      ·have:=hi5.out;have:=HIN.out;show i+1+(gk - 1)=a.length;omega
      ·show Mk.rep (i+1) (nxF n) [] s3=_;rw [Mk.rep_next HR.out];exact HD.out
      ·have:=HLL.out;show (L++[x]).length=i+1;rw [HNL.out];omega
   ·obtain ⟨kk,s4,hkk⟩:∃ a b,Mk.next 4 s3=(a,b):=⟨_,_,rfl⟩
    have ikk:=next_in (by decide) hkk;obtain ⟨K,rfl⟩:∃ K:Nat,kk=K:=⟨kk.toNat,by omega⟩
    obtain ⟨out,s5,h4⟩:∃ a b,Mk.rep K (nxF n) [] s4=(a,b):=⟨_,_,rfl⟩
    obtain ⟨hrg1,hrs1⟩:rg=⟨back,[a],ahead,out,[],0⟩/\rs=s5:=by
     have h9:=HT.out;unfold Mk.ruleT at h9;rw [if_neg (by decide),if_pos rfl,Mk.bind_eq hkk,Int.toNat_natCast,Mk.bind_eq (show Mk.nexts n K s4=(out,s5) from h4)] at h9;exact ⟨(congrArg Prod.fst h9).symm,(congrArg Prod.snd h9).symm⟩
    subst hrs1;have HRG1:=Hi hrg1;have H4:=Hi h4;have HKB:Hid (K<=4):=by show K<=4;omega
    have CK:=Hi (CN.out s3 K s4 4 (by decide) (by decide) hkk wc HS2.out.mkr);clear hrg1 h4 HT hkk ikk;go_wp2_with fail;refine CK.out.mono ?_;rintro e w4 ⟨rfl,K4,M4⟩;have HS2b:=Hi (HS2.out.call K4 M4);clear K4 M4 HS2 CK;have HS3:=Hi HS2b.out.done;generalize w4.heap.size=B1 at HS3;clear HS2b;go_wp2_with fail
    go_loopg [11] K (fun gk v9 wr=>∃ (i:Nat) (L:List Int) (st:Mk.S) (od:Option Addr) (cd:Nat),v9=.int .i64 (i:Int)/\Hid (i+gk=K)/\Hid (Mk.rep i (nxF n) [] s4=(L,st))/\Hid (L.length=i)/\Hid (OuSt w m sv l f rb ob B1 (ruC (.slice p0 back.length c0) (.slice (some ⟨ib,0,none⟩) 1 1) (.slice p2 ahead.length c2) (.slice od L.length cd) nilV 0) (.slice p0 back.length c0) (.slice (some ⟨ib,0,none⟩) 1 1) (.slice p2 ahead.length c2) nilV ⟨back,[a],ahead,[],[],0⟩ (.slice od L.length cd) L st wr))
    case atStart=>exact ⟨0,[],s4,none,0,rfl,by show 0+K=K;omega,rfl,rfl,HS3.out,Grow.nil⟩
    case round =>
     obtain ⟨i,L,st,od,cd,rfl,hi5,HR,HLL,HS⟩:=hrel;clear HS3
     by_cases hin:i<K
     case neg =>
      have hie:i=K:=by have:=hi5.out;omega
      have k1:decide ((i:Int)<(K:Int))=false:=dF (by omega);have k2:¬ (i:Int)<(K:Int):=by omega
      obtain ⟨rfl,rfl⟩:L=out/\st=rs:=by have h9:=H4.out;rw [<- hie,HR.out] at h9;simpa using h9
      have HS4:=Hi (HS.out.st.outDone HS.out.gr);clear HS hie;go_wp2;go_meet
      case rel=>rw [HRG1.out];exact ⟨p0,some ⟨ib,0,none⟩,p2,od,none,c0,1,c2,cd,0,_,rfl,HS4.out⟩
     have k1:decide ((i:Int)<(K:Int))=true:=dT (by omega);have k2:(i:Int)<(K:Int):=by omega
     have ei:IntKind.i64.wrap ((i:Int)+1)=(i:Int)+1:=wrapi (by omega) (by have:=HKB.out;omega);obtain ⟨x,st1,hx⟩:∃ a b,Mk.next n st=(a,b):=⟨_,_,rfl⟩
     have CX:=Hi (CN.out st x st1 n (by have:=HN.out;omega) (by have:=HN.out;omega) hx);have ix:=next_in (by have:=HN.out;omega) hx;have HXI:Hid (I64 x):=by have:=HN.out;exact I64.of (by omega) (by omega)
     have HD:Hid (nxF n i L st=(L++[x],st1)):=by unfold nxF;rw [Mk.bind_eq hx];exact rfl
     have B3:∀ W,Mod [m] wr W->W.cell? ⟨ob,3,none⟩=some (.slice od L.length cd):=fun W k=>(HS.out.st.blk.kept k (by have:=HS.out.st.ord;simp;omega)).cell 3
     have HIN:=Hi hin;clear hx ix hin;go_upto_region 29 with fail;refine Sw.wp_region_sw (I:=Mod [m] wr) (F0:=OuSt w m sv l f rb ob B1 (ruC (.slice p0 back.length c0) (.slice (some ⟨ib,0,none⟩) 1 1) (.slice p2 ahead.length c2) (.slice od L.length cd) nilV 0) (.slice p0 back.length c0) (.slice (some ⟨ib,0,none⟩) 1 1) (.slice p2 ahead.length c2) nilV ⟨back,[a],ahead,[],[],0⟩ (.slice od L.length cd) L st) (fun _ _ h k=>h.then (k.more (by simp))) 6 [(0,none),(1,none),(2,none),(3,none),(4,some (Rg.Know (OuSt w m sv l f rb ob B1 (ruC (.slice p0 back.length c0) (.slice (some ⟨ib,0,none⟩) 1 1) (.slice p2 ahead.length c2) (.slice od L.length cd) nilV 0) (.slice p0 back.length c0) (.slice (some ⟨ib,0,none⟩) 1 1) (.slice p2 ahead.length c2) nilV ⟨back,[a],ahead,[],[],0⟩ (.slice od L.length cd) L st1) (.int .i64 x))),(5,some (NewAnd wr.heap.size #[.int .i64 x] 3 1 (OuSt w m sv l f rb ob B1 (ruC (.slice p0 back.length c0) (.slice (some ⟨ib,0,none⟩) 1 1) (.slice p2 ahead.length c2) (.slice od L.length cd) nilV 0) (.slice p0 back.length c0) (.slice (some ⟨ib,0,none⟩) 1 1) (.slice p2 ahead.length c2) nilV ⟨back,[a],ahead,[],[],0⟩ (.slice od L.length cd) L st1)))] (by kernel_rfl) (by kernel_rfl) (Sq.nodup_of (by kernel_rfl)) ?hTS572 (mR.drew) OuSt.stays (OuSt.stays _ _ HS.out (mR.drew)) ?mainS572
     case hTS572 =>
      intro p hp T hT v;simp only [List.mem_cons,List.not_mem_nil,or_false] at hp;rcases hp with rfl | rfl | rfl | rfl | rfl | rfl <;> first | (cases hT;done) | (cases hT;first | exact NewAnd.stays OuSt.stays _ | exact Rg.know_stays OuSt.stays _ _)
     iterate 4 refine Sw.vv (w0:=wr.drew) (mR.drew) ?_
     refine Sw.xx (fun w' hw' hF K Q hK=>?_) (fun kv hkv=>?_)
     ·go_wp2_with fail;refine (CX.out w' hF.st.mkr).mono ?_;rintro e w'' ⟨rfl,K',M'⟩;go_wp2;exact hK _ _ (hw'.then M') ⟨rfl,hF.call K' M'⟩
     obtain ⟨_,_,rfl,_⟩:=hkv;refine Sw.xx (fun w' hw' hF K Q hK=>?_) (fun kv hkv=>?_)
     ·go_wp2;exact hK _ _ (hw'.alloc _) ⟨⟨_,rfl,hw'.size,Blk.new _ _ _⟩,OuSt.stays _ _ hF.2 (mR.alloc _)⟩
     obtain ⟨_,_,⟨nb,rfl,hnb,_⟩,_⟩:=hkv;refine Sw.nil_go ?_;intro w' hw' hF;simp only [qS,qZ];obtain ⟨⟨b9,he9,-,hB⟩,hO⟩:=hF;cases he9;have HB:=Hi hB;have HO:=Hi hO;clear hB hO hw' B3 HS CX;go_wp2_with (at_builtin;refine wpList_push (k:=1) (e:=3) (base:=B1) (l:=L) (l':=[x]) rfl _ _ 22 rfl i0 _ 8 Tryz.underlying22 ii iz0 iz1 iz2 rfl (by decide) SInt.stay SInt.weak rfl HO.out.gr ⟨nb,0,none⟩ _ _ [[.int .i64 x]] rfl rfl (Elems.one rfl ⟨rfl,HXI.out⟩) (fun j u hu=>blk_news HB.out rfl hu) (by simp [Value.oneCell']) ?_ ?_ ?_ ?_)
     ·have h4:=HLL.out;have h5:=HIN.out;have h6:=HKB.out;unfold maxLen;simp;omega
     ·have h4:=HLL.out;have h5:=HIN.out;have h6:=HKB.out;simp;omega
     ·exact HO.out.st.ord.2.2.2.2
     intro v' w7 hGP hgr _;obtain ⟨od',cd',rfl⟩:=hGP.form;have hnl:(L++[x]).length=L.length+1:=by simp
     rw [hnl] at hGP;have HNL:=Hi hnl;clear hnl;have HS7:=Hi (HO.out.push hGP hgr);have o3c:w7.cell? ⟨ob,3,none⟩=some (.slice od L.length cd):=(HO.out.st.grown hgr fun b hb=>(HO.out.gr.lt b hb).1).blk.cell 3;have o3f:=(HO.out.st.grown hgr fun b hb=>(HO.out.gr.lt b hb).1).blk.frozen 3;clear hGP hgr HO HB;go_wp2;go_roundg (gk - 1)
     case measure=>have:=hi5.out;have:=HIN.out;omega
     case rel =>
      refine ⟨i+1,L++[x],st1,od',cd',by rw [Int.natCast_add];rfl,?_,?_,?_,by rw [HNL.out];exact HS7.out⟩
      ·have:=hi5.out;have:=HIN.out;show i+1+(gk - 1)=K;omega
      ·show Mk.rep (i+1) (nxF n) [] s4=_;rw [Mk.rep_next HR.out];exact HD.out
      ·have:=HLL.out;show (L++[x]).length=i+1;rw [HNL.out];omega
   ·obtain ⟨more,s4,h4⟩:∃ a b,Mk.row n 2 s3=(a,b):=⟨_,_,rfl⟩
    have HMO:Hid (more.length<=2):=by have:=row_len n s3;rw [h4] at this;exact this
    have H4:=Hi h4;have C4:=Hi (CR.out s3 more s4 h4);clear h4;have B1:∀ W,Mod [m] wc W->W.cell? ⟨ob,1,none⟩=some (.slice (some ⟨ib,0,none⟩) 1 1):=fun W k=>(HS2.out.blk.kept k (by have:=HS2.out.ord;simp;omega)).cell 1
    go_upto_region 31 with fail
    go_cut [] from 124 to 129 (fun wx=>∃ (p1:Option Addr) (c1:Nat),Hid (RuA w m sv l f rb ob (ruC (.slice p0 back.length c0) (.slice p1 (a::more).length c1) (.slice p2 ahead.length c2) nilV nilV 0) (.slice p0 back.length c0) (.slice p1 (a::more).length c1) (.slice p2 ahead.length c2) back (a::more) ahead s4 wx))
    case first =>
     refine Sw.wp_region_sw (I:=Mod [m] wc) (F0:=RuA w m sv l f rb ob (ruC (.slice p0 back.length c0) (.slice (some ⟨ib,0,none⟩) 1 1) (.slice p2 ahead.length c2) nilV nilV 0) (.slice p0 back.length c0) (.slice (some ⟨ib,0,none⟩) 1 1) (.slice p2 ahead.length c2) back [a] ahead s3) (fun _ _ h k=>h.then (k.more (by simp))) 4 [(0,none),(1,none),(2,none),(3,some (RowAnd (fun x=>ob<x/\(Value.slice (some ⟨ib,0,none⟩) 1 1).ownBlock≠some x) more (RuA w m sv l f rb ob (ruC (.slice p0 back.length c0) (.slice (some ⟨ib,0,none⟩) 1 1) (.slice p2 ahead.length c2) nilV nilV 0) (.slice p0 back.length c0) (.slice (some ⟨ib,0,none⟩) 1 1) (.slice p2 ahead.length c2) back [a] ahead s4)))] (by kernel_rfl) (by kernel_rfl) (Sq.nodup_of (by kernel_rfl)) ?hTS649 (mR.drew) RuA.stays (RuA.stays _ _ HS2.out (mR.drew)) ?mainS649
     case hTS649 =>
      intro p hp T hT v;simp only [List.mem_cons,List.not_mem_nil,or_false] at hp;rcases hp with rfl | rfl | rfl | rfl <;> first | (cases hT;done) | (cases hT;first | exact RowAnd.stays RuA.stays _)
     iterate 3 refine Sw.vv (w0:=wc.drew) (mR.drew) ?_
     refine Sw.xx (fun w' hw' hF K Q hK=>?_) (fun kv hkv=>?_)
     ·go_wp2_with fail;refine (C4.out w' hF.mkr).mono ?_;rintro e w'' ⟨v,rfl,hv,K',M'⟩;obtain ⟨oy,cy,rfl,-⟩:=hv.form;go_wp2;exact hK _ _ (hw'.then M') ⟨⟨oy,cy,rfl,hF.newRow hv⟩,hF.call K' M'⟩
     obtain ⟨_,_,⟨oy,cy,rfl,_⟩,_⟩:=hkv;refine Sw.nil_go ?_;intro w' hw' hF;simp only [qS,qZ];obtain ⟨⟨oy3,cy3,he9,hS⟩,hO⟩:=hF;cases he9;have HO:=Hi hO;clear hO hw' B1 HS2;cases oy with
     | none =>
      have hm0:more=[]:=hS.none_nil;subst hm0;have o1c:w'.cell? ⟨ob,1,none⟩=some (.slice (some ⟨ib,0,none⟩) 1 1):=HO.out.blk.cell 1;have o1f:=HO.out.blk.frozen 1;have HP:Hid (RuA w m sv l f rb ob (ruC (.slice p0 back.length c0) (.slice (some ⟨ib,0,none⟩) 1 1) (.slice p2 ahead.length c2) nilV nilV 0) (.slice p0 back.length c0) (.slice (some ⟨ib,0,none⟩) 1 1) (.slice p2 ahead.length c2) back [a] ahead s4 (w'.setCell ⟨ob,1,none⟩ (.slice (some ⟨ib,0,none⟩) 1 1))):=HO.out.set 1 (.slice (some ⟨ib,0,none⟩) 1 1);clear hS;go_wp2_with (at_builtin;refine wpList_push0 rfl _ _ 49 rfl t0 Tryz.underlying49 ti rfl HO.out.gi _ rfl ?_);clear HO;go_wp2;go_meet
      case rel=>exact ⟨_,_,HP.out⟩
     | some ad =>
      obtain ⟨css,hE,hN⟩:=hS.elems;have HE3:=Hi hE;have HN3:=Hi hN;clear hE hN hS;go_wp2_with (at_builtin;refine wpList_push (k:=1) (e:=22) (base:=ob+1) (l:=[a]) (l':=more) rfl _ _ 49 rfl t0 _ 24 Tryz.underlying49 ti tz0 tz1 tz2 rfl (by decide) SSet.stay SSet.weak rfl HO.out.gi ad _ _ css rfl rfl HE3.out HN3.out (elems_one HE3.out) ?_ ?_ ?_ ?_)
      ·have:=HMO.out;show 1+more.length<=maxLen;unfold maxLen;omega
      ·have:=HMO.out;show (1+more.length)*24<=140737488355328;omega
      ·have:=HO.out.ord;omega
      intro v' w5 hGP hgr hbk;obtain ⟨ov,cv,rfl⟩:=hGP.form;have o1c:w5.cell? ⟨ob,1,none⟩=some (.slice (some ⟨ib,0,none⟩) 1 1):=(HO.out.blk.grew hgr (fun hb=>by have:=(HO.out.gi.lt _ hb).1;omega)).cell 1;have o1f:=(HO.out.blk.grew hgr (fun hb=>by have:=(HO.out.gi.lt _ hb).1;omega)).frozen 1;have HP:Hid (RuA w m sv l f rb ob (ruC (.slice p0 back.length c0) (.slice ov ([a]++more).length cv) (.slice p2 ahead.length c2) nilV nilV 0) (.slice p0 back.length c0) (.slice ov ([a]++more).length cv) (.slice p2 ahead.length c2) back ([a]++more) ahead s4 (w5.setCell ⟨ob,1,none⟩ (.slice ov ([a]++more).length cv))):=HO.out.push hGP hgr hbk;clear hGP hgr hbk HO HE3 HN3;generalize hln:([a]++more).length=ln at *
      have HLN:=Hi hln;clear hln;go_wp2;go_meet
      case rel =>
       have h9:=HP.out;rw [<- HLN.out] at h9;exact ⟨ov,cv,h9⟩
    case rest =>
     obtain ⟨p1,c1,HS3⟩:=hcut;clear HS2 B1 C4;obtain ⟨x,s5,hx⟩:∃ a b,Mk.next n s4=(a,b):=⟨_,_,rfl⟩
     obtain ⟨hrg1,hrs1⟩:rg=⟨back,a::more,ahead,[x],[],0⟩/\rs=s5:=by
      have h9:=HT.out;unfold Mk.ruleT at h9;rw [if_neg (by decide),if_neg (by decide),if_pos rfl,Mk.bind_eq H4.out,Mk.bind_eq hx] at h9;exact ⟨(congrArg Prod.fst h9).symm,(congrArg Prod.snd h9).symm⟩
     subst hrs1;have HRG1:=Hi hrg1;have ix:=next_in (by have:=HN.out;omega) hx;have HXI:Hid (I64 x):=by have:=HN.out;exact I64.of (by omega) (by omega)
     have CX:=Hi (CN.out s4 x rs n (by have:=HN.out;omega) (by have:=HN.out;omega) hx wc HS3.out.mkr);clear hx ix HT hrg1;generalize hln:(a::more).length=ln at *
     have HLN:=Hi hln;clear hln;go_wp2_with fail;refine CX.out.mono ?_;rintro e w4 ⟨rfl,K4,M4⟩;have hA:=(HS3.out.call K4 M4).done;have al:Mod [] w4 (w4.alloc (.cells #[.int .i64 x] 3)):=mR.alloc _;have hG:Grow w4.heap.size 3 1 SInt (fun _=>False) (.slice (some ⟨w4.heap.size,0,none⟩) 1 1) [x] (w4.alloc (.cells #[.int .i64 x] 3)) :=
      Grow.made (l:=[x]) (css:=[[.int .i64 x]]) SInt.weak (nR _) (Blk.new _ _ _) rfl (Elems.one rfl ⟨rfl,HXI.out⟩) (fun _ _ h=>h.elim) (by simp [maxLen])
     have hA2:=(RuSt.stays _ _ hA al).outDone hG;have o3c:(w4.alloc (.cells #[.int .i64 x] 3)).cell? ⟨ob,3,none⟩=some (.slice none 0 0):=hA2.blk.cell 3;have o3f:=hA2.blk.frozen 3;have HS4:=Hi (hA2.set 3 (.slice (some ⟨w4.heap.size,0,none⟩) 1 1));clear hA al hG hA2 K4 M4 CX HS3;go_wp2;go_meet
     case rel =>
      have h9:=HS4.out;rw [<- HLN.out] at h9;rw [HRG1.out];exact ⟨p0,p1,p2,some ⟨w4.heap.size,0,none⟩,none,c0,c1,c2,1,0,_,rfl,h9⟩
   ·obtain ⟨more,s4,h4⟩:∃ a b,Mk.row n 2 s3=(a,b):=⟨_,_,rfl⟩
    have HMO:Hid (more.length<=2):=by have:=row_len n s3;rw [h4] at this;exact this
    have H4:=Hi h4;have C4:=Hi (CR.out s3 more s4 h4);clear h4;have B1:∀ W,Mod [m] wc W->W.cell? ⟨ob,1,none⟩=some (.slice (some ⟨ib,0,none⟩) 1 1):=fun W k=>(HS2.out.blk.kept k (by have:=HS2.out.ord;simp;omega)).cell 1
    go_upto_region 12 with fail
    go_cut [] from 49 to 54 (fun wx=>∃ (p1:Option Addr) (c1:Nat),Hid (RuA w m sv l f rb ob (ruC (.slice p0 back.length c0) (.slice p1 (a::more).length c1) (.slice p2 ahead.length c2) nilV nilV 0) (.slice p0 back.length c0) (.slice p1 (a::more).length c1) (.slice p2 ahead.length c2) back (a::more) ahead s4 wx))
    case first =>
     refine Sw.wp_region_sw (I:=Mod [m] wc) (F0:=RuA w m sv l f rb ob (ruC (.slice p0 back.length c0) (.slice (some ⟨ib,0,none⟩) 1 1) (.slice p2 ahead.length c2) nilV nilV 0) (.slice p0 back.length c0) (.slice (some ⟨ib,0,none⟩) 1 1) (.slice p2 ahead.length c2) back [a] ahead s3) (fun _ _ h k=>h.then (k.more (by simp))) 4 [(0,none),(1,none),(2,none),(3,some (RowAnd (fun x=>ob<x/\(Value.slice (some ⟨ib,0,none⟩) 1 1).ownBlock≠some x) more (RuA w m sv l f rb ob (ruC (.slice p0 back.length c0) (.slice (some ⟨ib,0,none⟩) 1 1) (.slice p2 ahead.length c2) nilV nilV 0) (.slice p0 back.length c0) (.slice (some ⟨ib,0,none⟩) 1 1) (.slice p2 ahead.length c2) back [a] ahead s4)))] (by kernel_rfl) (by kernel_rfl) (Sq.nodup_of (by kernel_rfl)) ?hTS766 (mR.drew) RuA.stays (RuA.stays _ _ HS2.out (mR.drew)) ?mainS766
     case hTS766 =>
      intro p hp T hT v;simp only [List.mem_cons,List.not_mem_nil,or_false] at hp;rcases hp with rfl | rfl | rfl | rfl <;> first | (cases hT;done) | (cases hT;first | exact RowAnd.stays RuA.stays _)
     iterate 3 refine Sw.vv (w0:=wc.drew) (mR.drew) ?_
     refine Sw.xx (fun w' hw' hF K Q hK=>?_) (fun kv hkv=>?_)
     ·go_wp2_with fail;refine (C4.out w' hF.mkr).mono ?_;rintro e w'' ⟨v,rfl,hv,K',M'⟩;obtain ⟨oy,cy,rfl,-⟩:=hv.form;go_wp2;exact hK _ _ (hw'.then M') ⟨⟨oy,cy,rfl,hF.newRow hv⟩,hF.call K' M'⟩
     obtain ⟨_,_,⟨oy,cy,rfl,_⟩,_⟩:=hkv;refine Sw.nil_go ?_;intro w' hw' hF;simp only [qS,qZ];obtain ⟨⟨oy3,cy3,he9,hS⟩,hO⟩:=hF;cases he9;have HO:=Hi hO;clear hO hw' B1 HS2;cases oy with
     | none =>
      have hm0:more=[]:=hS.none_nil;subst hm0;have o1c:w'.cell? ⟨ob,1,none⟩=some (.slice (some ⟨ib,0,none⟩) 1 1):=HO.out.blk.cell 1;have o1f:=HO.out.blk.frozen 1;have HP:Hid (RuA w m sv l f rb ob (ruC (.slice p0 back.length c0) (.slice (some ⟨ib,0,none⟩) 1 1) (.slice p2 ahead.length c2) nilV nilV 0) (.slice p0 back.length c0) (.slice (some ⟨ib,0,none⟩) 1 1) (.slice p2 ahead.length c2) back [a] ahead s4 (w'.setCell ⟨ob,1,none⟩ (.slice (some ⟨ib,0,none⟩) 1 1))):=HO.out.set 1 (.slice (some ⟨ib,0,none⟩) 1 1);clear hS;go_wp2_with (at_builtin;refine wpList_push0 rfl _ _ 49 rfl t0 Tryz.underlying49 ti rfl HO.out.gi _ rfl ?_);clear HO;go_wp2;go_meet
      case rel=>exact ⟨_,_,HP.out⟩
     | some ad =>
      obtain ⟨css,hE,hN⟩:=hS.elems;have HE3:=Hi hE;have HN3:=Hi hN;clear hE hN hS;go_wp2_with (at_builtin;refine wpList_push (k:=1) (e:=22) (base:=ob+1) (l:=[a]) (l':=more) rfl _ _ 49 rfl t0 _ 24 Tryz.underlying49 ti tz0 tz1 tz2 rfl (by decide) SSet.stay SSet.weak rfl HO.out.gi ad _ _ css rfl rfl HE3.out HN3.out (elems_one HE3.out) ?_ ?_ ?_ ?_)
      ·have:=HMO.out;show 1+more.length<=maxLen;unfold maxLen;omega
      ·have:=HMO.out;show (1+more.length)*24<=140737488355328;omega
      ·have:=HO.out.ord;omega
      intro v' w5 hGP hgr hbk;obtain ⟨ov,cv,rfl⟩:=hGP.form;have o1c:w5.cell? ⟨ob,1,none⟩=some (.slice (some ⟨ib,0,none⟩) 1 1):=(HO.out.blk.grew hgr (fun hb=>by have:=(HO.out.gi.lt _ hb).1;omega)).cell 1;have o1f:=(HO.out.blk.grew hgr (fun hb=>by have:=(HO.out.gi.lt _ hb).1;omega)).frozen 1;have HP:Hid (RuA w m sv l f rb ob (ruC (.slice p0 back.length c0) (.slice ov ([a]++more).length cv) (.slice p2 ahead.length c2) nilV nilV 0) (.slice p0 back.length c0) (.slice ov ([a]++more).length cv) (.slice p2 ahead.length c2) back ([a]++more) ahead s4 (w5.setCell ⟨ob,1,none⟩ (.slice ov ([a]++more).length cv))):=HO.out.push hGP hgr hbk;clear hGP hgr hbk HO HE3 HN3;generalize hln:([a]++more).length=ln at *
      have HLN:=Hi hln;clear hln;go_wp2;go_meet
      case rel =>
       have h9:=HP.out;rw [<- HLN.out] at h9;exact ⟨ov,cv,h9⟩
    case rest =>
     obtain ⟨p1,c1,HS3⟩:=hcut;clear HS2 B1 C4;obtain ⟨kk,s5,hkk⟩:∃ a b,Mk.next 3 s4=(a,b):=⟨_,_,rfl⟩
     have ikk:=next_in (by decide) hkk;obtain ⟨K,rfl⟩:∃ K:Nat,kk=K:=⟨kk.toNat,by omega⟩
     obtain ⟨cs,s6,h6⟩:∃ q r,(if calls.length=0 then ([],s5) else Mk.rep K (caF (a::more).length calls) [] s5:List DCall×Mk.S)=(q,r):=⟨_,_,rfl⟩
     obtain ⟨hrg1,hrs1⟩:rg=⟨back,a::more,ahead,[],cs,0⟩/\rs=s6:=by
      have h9:=HT.out;unfold Mk.ruleT at h9;rw [if_neg (by decide),if_neg (by decide),if_neg (by decide),Mk.bind_eq H4.out,Mk.bind_eq hkk,Int.toNat_natCast,Mk.bind_eq h6] at h9;exact ⟨(congrArg Prod.fst h9).symm,(congrArg Prod.snd h9).symm⟩
     subst hrs1;have HRG1:=Hi hrg1;have H6:=Hi h6;have HKB:Hid (K<=3):=by show K<=3;omega
     have CK:=Hi (CN.out s4 K s5 3 (by decide) (by decide) hkk wc HS3.out.mkr);clear hrg1 h6 HT hkk ikk;have hlb:(a::more).length<=3:=by have:=HMO.out;simp;omega
     generalize hln:(a::more).length=ln at *
     have hl1:0<ln:=by rw [<- hln];simp
     have HLN:=Hi hln;have HLB:=Hi (And.intro hl1 hlb);clear hln hlb hl1;go_wp2_with fail;refine CK.out.mono ?_;rintro e w4 ⟨rfl,K4,M4⟩;have HS4:=Hi (HS3.out.call K4 M4).done;have HMW:Hid (Mod [m] w w4):=HS4.out.mod;clear K4 M4 HS3 CK;generalize w4.heap.size=B1 at HS4;go_wp2_with fail
     go_loopg [13] K (fun gk v13 wr=>∃ (i:Nat) (L:List DCall) (st:Mk.S) (od:Option Addr) (cd:Nat),v13=.int .i64 (i:Int)/\Hid (i+gk=K)/\Hid (Mk.rep i (caF ln calls) [] s5=(L,st))/\Hid (L.length=i)/\Hid (calls.length=0->i=0)/\Hid (CaSt w m sv l f rb ob B1 (ruC (.slice p0 back.length c0) (.slice p1 ln c1) (.slice p2 ahead.length c2) nilV (.slice od L.length cd) 0) (.slice p0 back.length c0) (.slice p1 ln c1) (.slice p2 ahead.length c2) nilV ⟨back,a::more,ahead,[],[],0⟩ (.slice od L.length cd) L st wr))
     case atStart=>exact ⟨0,[],s5,none,0,rfl,by show 0+K=K;omega,rfl,rfl,fun _=>rfl,HS4.out,Grow.nil⟩
     case round =>
      obtain ⟨i,L,st,od,cd,rfl,hi5,HR,HLL,HZ0,HS⟩:=hrel;clear HS4;have stop:(i=K∨calls.length=0)->L=cs/\st=rs:=fun h=>by
       have h9:=H6.out;have h8:=HR.out
       by_cases hc0:calls.length=0
       ·rw [if_pos hc0] at h9;rw [HZ0.out hc0,Mk.rep_zero] at h8;rw [h8] at h9;simpa using h9
       ·rw [if_neg hc0,<- h.resolve_right hc0,h8] at h9;simpa using h9
      by_cases hin:i<K
      case neg =>
       have k1:decide ((i:Int)<(K:Int))=false:=dF (by omega);have k2:¬ (i:Int)<(K:Int):=by omega
       obtain ⟨rfl,rfl⟩:=stop (.inl (by have:=hi5.out;omega));have HS5:=Hi (HS.out.st.callsDone HS.out.gr);clear HS stop;go_wp2;go_meet
       case rel =>
        have h9:=HS5.out;rw [<- HLN.out] at h9;rw [HRG1.out];exact ⟨p0,p1,p2,none,od,c0,c1,c2,0,cd,_,rfl,h9⟩
      have k1:decide ((i:Int)<(K:Int))=true:=dT (by omega);have k2:(i:Int)<(K:Int):=by omega
      by_cases hc0:calls.length=0
      ·have k3:decide ((0:Int)<(calls.length:Int))=false:=dF (by omega);have k4:¬ (0:Int)<(calls.length:Int):=by omega
       obtain ⟨rfl,rfl⟩:=stop (.inr hc0);have HS5:=Hi (HS.out.st.callsDone HS.out.gr);clear HS stop hc0;go_wp2;go_meet
       case rel =>
        have h9:=HS5.out;rw [<- HLN.out] at h9;rw [HRG1.out];exact ⟨p0,p1,p2,none,od,c0,c1,c2,0,cd,_,rfl,h9⟩
      have k3:decide ((0:Int)<(calls.length:Int))=true:=dT (by omega);have k4:(0:Int)<(calls.length:Int):=by omega
      have ei:IntKind.i64.wrap ((i:Int)+1)=(i:Int)+1:=wrapi (by omega) (by have:=HKB.out;omega);obtain ⟨x,st1,hx⟩:∃ a b,Mk.next ln st=(a,b):=⟨_,_,rfl⟩
      obtain ⟨y,st2,hy⟩:∃ a b,Mk.next calls.length st1=(a,b):=⟨_,_,rfl⟩
      have CX:=Hi (CN.out st x st1 ln (by have:=HLB.out;omega) (by have:=HLB.out;omega) hx);have CY:=Hi (CN.out st1 y st2 calls.length (by omega) (by have:=HCL.out;omega) hy);have ix:=next_in (by have:=HLB.out;omega) hx;have iy:=next_in (by omega) hy;obtain ⟨Q,rfl⟩:∃ Q:Nat,y=Q:=⟨y.toNat,by omega⟩
      have hQ:Q<calls.length:=by omega
      obtain ⟨ac,hac,hab,ccs,-,hc1,-,hc2,hcI⟩:=HC.out.at Q hQ;subst hac;subst hc2;have c0':=hc1 (by decide);simp only [gZ,Nat.mul_one] at c0';have hd:calls.getD Q 0=calls[Q]:=by rw [List.getD_eq_getElem?_getD,gE hQ];rfl
      obtain ⟨z,hz⟩:∃ z,z=calls[Q]:=⟨_,rfl⟩
      rw [<- hz] at c0' hcI hd;have C0:∀ W,Mod [m] wr W->W.cell? (ac.add Q)=some (.int .i64 z):=fun W k=>by
       have k9:Mod [m] w W:=HS.out.st.mod.then k
       rw [k9.cell (cell_lt c0') (by rw [add_block];simpa using hab)];exact c0'
      have q1:(0:Int)<=(Q:Int):=by omega
      have q2:(Q:Int)<(calls.length:Int):=by omega
      have HXI:Hid (I64 x/\I64 z):=⟨by have:=HLB.out;exact I64.of (by omega) (by omega),hcI⟩
      have HD:Hid (caF ln calls i L st=(L++[⟨x,z⟩],st2)):=by unfold caF;rw [Mk.bind_eq hx,Mk.bind_eq hy,Int.toNat_natCast,hd];exact rfl
      have BB1:∀ W,Mod [m] wr W->W.cell? ⟨ob,1,none⟩=some (.slice p1 ln c1):=fun W k=>(HS.out.st.blk.kept k (by have:=HS.out.st.ord;simp;omega)).cell 1
      have B4:∀ W,Mod [m] wr W->W.cell? ⟨ob,4,none⟩=some (.slice od L.length cd):=fun W k=>(HS.out.st.blk.kept k (by have:=HS.out.st.ord;simp;omega)).cell 4
      have HIN:=Hi hin;have HC0:Hid (¬ calls.length=0):=hc0;clear hx hy ix iy hin hc0 stop hc1 c0' hcI hd hz hab hQ;go_upto_region 17 with fail;refine Sw.wp_region_sw (I:=Mod [m] wr) (F0:=CaSt w m sv l f rb ob B1 (ruC (.slice p0 back.length c0) (.slice p1 ln c1) (.slice p2 ahead.length c2) nilV (.slice od L.length cd) 0) (.slice p0 back.length c0) (.slice p1 ln c1) (.slice p2 ahead.length c2) nilV ⟨back,a::more,ahead,[],[],0⟩ (.slice od L.length cd) L st) (fun _ _ h k=>h.then (k.more (by simp))) 16 [(0,none),(1,none),(2,none),(3,none),(4,none),(5,none),(7,none),(8,none),(9,none),(10,none),(6,some (Rg.Know (CaSt w m sv l f rb ob B1 (ruC (.slice p0 back.length c0) (.slice p1 ln c1) (.slice p2 ahead.length c2) nilV (.slice od L.length cd) 0) (.slice p0 back.length c0) (.slice p1 ln c1) (.slice p2 ahead.length c2) nilV ⟨back,a::more,ahead,[],[],0⟩ (.slice od L.length cd) L st1) (.int .i64 x))),(11,some (Rg.Know (CaSt w m sv l f rb ob B1 (ruC (.slice p0 back.length c0) (.slice p1 ln c1) (.slice p2 ahead.length c2) nilV (.slice od L.length cd) 0) (.slice p0 back.length c0) (.slice p1 ln c1) (.slice p2 ahead.length c2) nilV ⟨back,a::more,ahead,[],[],0⟩ (.slice od L.length cd) L st2) (.int .i64 (Q:Int)))),(12,none),(13,none),(14,none),(15,some (NewAnd wr.heap.size #[.int .i64 x,.int .i64 z] 51 1 (CaSt w m sv l f rb ob B1 (ruC (.slice p0 back.length c0) (.slice p1 ln c1) (.slice p2 ahead.length c2) nilV (.slice od L.length cd) 0) (.slice p0 back.length c0) (.slice p1 ln c1) (.slice p2 ahead.length c2) nilV ⟨back,a::more,ahead,[],[],0⟩ (.slice od L.length cd) L st2)))] (by kernel_rfl) (by kernel_rfl) (Sq.nodup_of (by kernel_rfl)) ?hTS945 (mR.drew) CaSt.stays (CaSt.stays _ _ HS.out (mR.drew)) ?mainS945
      case hTS945 =>
       intro p hp T hT v;simp only [List.mem_cons,List.not_mem_nil,or_false] at hp;rcases hp with rfl | rfl | rfl | rfl | rfl | rfl | rfl | rfl | rfl | rfl | rfl | rfl | rfl | rfl | rfl | rfl <;> first | (cases hT;done) | (cases hT;first | exact NewAnd.stays CaSt.stays _ | exact Rg.know_stays CaSt.stays _ _)
      iterate 10 refine Sw.vv (w0:=wr.drew) (mR.drew) ?_
      refine Sw.xx (fun w' hw' hF K Q hK=>?_) (fun kv hkv=>?_)
      ·go_wp2_with fail;refine (CX.out w' hF.st.mkr).mono ?_;rintro e w'' ⟨rfl,K',M'⟩;go_wp2;exact hK _ _ (hw'.then M') ⟨rfl,hF.call K' M'⟩
      obtain ⟨_,_,rfl,_⟩:=hkv;refine Sw.xx (fun w' hw' hF K Q hK=>?_) (fun kv hkv=>?_)
      ·go_wp2_with fail;refine (CY.out w' hF.2.st.mkr).mono ?_;rintro e w'' ⟨rfl,K',M'⟩;go_wp2;exact hK _ _ (hw'.then M') ⟨rfl,hF.2.call K' M'⟩
      obtain ⟨_,_,rfl,_⟩:=hkv
      iterate 3 refine Sw.vv (w0:=wr.drew) (mR.drew) ?_
      refine Sw.xx (fun w' hw' hF K Q hK=>?_) (fun kv hkv=>?_)
      ·go_wp2;exact hK _ _ (hw'.alloc _) ⟨⟨_,rfl,hw'.size,Blk.new _ _ _⟩,CaSt.stays _ _ hF.2 (mR.alloc _)⟩
      obtain ⟨_,_,⟨nb,rfl,hnb,_⟩,_⟩:=hkv;refine Sw.nil_go ?_;intro w' hw' hF;simp only [qS,qZ];obtain ⟨⟨b9,he9,-,hB⟩,hO⟩:=hF;cases he9;have HB:=Hi hB;have HO:=Hi hO;clear hB hO hw' BB1 B4 C0 HS CX CY;go_wp2_with (at_builtin;refine wpList_push (k:=2) (e:=51) (l:=L) (l':=[⟨x,z⟩]) rfl _ _ 52 rfl q0 _ 16 Tryz.underlying52 qi qz0 qz1 qz2 rfl (by decide) SCall.stay SCall.weak rfl HO.out.gr ⟨nb,0,none⟩ _ _ [[.int .i64 x,.int .i64 z]] rfl rfl (Elems.one rfl ⟨rfl,HXI.out⟩) (fun j u hu=>blk_news HB.out rfl hu) (by simp [Value.oneCell']) ?_ ?_ ?_ ?_)
      ·have h4:=HLL.out;have h5:=HIN.out;have h6:=HKB.out;unfold maxLen;simp;omega
      ·have h4:=HLL.out;have h5:=HIN.out;have h6:=HKB.out;simp;omega
      ·exact HO.out.st.ord.2.2.2.2
      intro v' w7 hGP hgr _;obtain ⟨od',cd',rfl⟩:=hGP.form;have hnl:(L++[(⟨x,z⟩:DCall)]).length=L.length+1:=by simp
      rw [hnl] at hGP;have HNL:=Hi hnl;clear hnl;have HS7:=Hi (HO.out.push hGP hgr);have o3c:w7.cell? ⟨ob,4,none⟩=some (.slice od L.length cd):=(HO.out.st.grown hgr fun b hb=>(HO.out.gr.lt b hb).1).blk.cell 4;have o3f:=(HO.out.st.grown hgr fun b hb=>(HO.out.gr.lt b hb).1).blk.frozen 4;clear hGP hgr HO HB;go_wp2;go_roundg (gk - 1)
      case measure=>have:=hi5.out;have:=HIN.out;omega
      case rel =>
       refine ⟨i+1,L++[⟨x,z⟩],st2,od',cd',by rw [Int.natCast_add];rfl,?_,?_,?_,?_,by rw [HNL.out];exact HS7.out⟩
       ·have:=hi5.out;have:=HIN.out;show i+1+(gk - 1)=K;omega
       ·show Mk.rep (i+1) (caF ln calls) [] s5=_;rw [Mk.rep_next HR.out];exact HD.out
       ·have:=HLL.out;show (L++[(_:DCall)]).length=i+1;rw [HNL.out];omega
       ·exact fun h=>absurd h HC0.out
  case rest =>
   obtain ⟨p0,p1,p2,p3,p4,c0,c1,c2,c3,c4,B,HX0,HQ0⟩:=hcut;have HQ:Hid (RuSt w m sv l f rb ob B (ruC (.slice p0 rg.back.length c0) (.slice p1 rg.ins.length c1) (.slice p2 rg.ahead.length c2) (.slice p3 rg.out.length c3) (.slice p4 rg.calls.length c4) rg.x) (.slice p0 rg.back.length c0) (.slice p1 rg.ins.length c1) (.slice p2 rg.ahead.length c2) (.slice p3 rg.out.length c3) (.slice p4 rg.calls.length c4) rg rs wc):=by rw [HX0.out];exact HQ0.out
   have HXI:Hid (I64 rg.x):=by rw [HX0.out];exact I64.of (by decide) (by decide)
   clear HS2 HQ0 HX0 HT;have e0:wc.cell? ⟨ob,0,none⟩=some (.slice p0 rg.back.length c0):=HQ.out.blk.cell 0;have e1:wc.cell? ⟨ob,1,none⟩=some (.slice p1 rg.ins.length c1):=HQ.out.blk.cell 1;have e2:wc.cell? ⟨ob,2,none⟩=some (.slice p2 rg.ahead.length c2):=HQ.out.blk.cell 2;have e3:wc.cell? ⟨ob,3,none⟩=some (.slice p3 rg.out.length c3):=HQ.out.blk.cell 3;have e4:wc.cell? ⟨ob,4,none⟩=some (.slice p4 rg.calls.length c4):=HQ.out.blk.cell 4;have e5:wc.cell? ⟨ob,5,none⟩=some (.int .i64 rg.x):=HQ.out.blk.cell 5;have z0:wc.cell? ⟨rb,0,none⟩=some (.slice none 0 0):=HQ.out.rblk.cell 0;have zf0:=HQ.out.rblk.frozen 0;have z1:wc.cell? ⟨rb,1,none⟩=some (.slice none 0 0):=HQ.out.rblk.cell 1;have zf1:=HQ.out.rblk.frozen 1;have z2:wc.cell? ⟨rb,2,none⟩=some (.slice none 0 0):=HQ.out.rblk.cell 2;have zf2:=HQ.out.rblk.frozen 2;have z3:wc.cell? ⟨rb,3,none⟩=some (.slice none 0 0):=HQ.out.rblk.cell 3;have zf3:=HQ.out.rblk.frozen 3;have z4:wc.cell? ⟨rb,4,none⟩=some (.slice none 0 0):=HQ.out.rblk.cell 4;have zf4:=HQ.out.rblk.frozen 4;have z5:wc.cell? ⟨rb,5,none⟩=some (.int .i64 0):=HQ.out.rblk.cell 5;have zf5:=HQ.out.rblk.frozen 5;have HFIN:=Hi (RuSt.fin (d:=rg) HQ.out HXI.out);clear HQ;go_wp2_with fail;have XF:((((((wc.setCell ⟨rb,0,none⟩ (.slice p0 rg.back.length c0)).setCell ⟨rb,1,none⟩ (.slice p1 rg.ins.length c1)).setCell ⟨rb,2,none⟩ (.slice p2 rg.ahead.length c2)).setCell ⟨rb,3,none⟩ (.slice p3 rg.out.length c3)).setCell ⟨rb,4,none⟩ (.slice p4 rg.calls.length c4)).setCell ⟨rb,5,none⟩ (.int .i64 rg.x))=setN wc (rb) (0) [.slice p0 rg.back.length c0,.slice p1 rg.ins.length c1,.slice p2 rg.ahead.length c2,.slice p3 rg.out.length c3,.slice p4 rg.calls.length c4,.int .i64 rg.x]:=rfl;rw [XF];clear XF;have r0:(setN wc rb 0 [.slice p0 rg.back.length c0,.slice p1 rg.ins.length c1,.slice p2 rg.ahead.length c2,.slice p3 rg.out.length c3,.slice p4 rg.calls.length c4,.int .i64 rg.x]).cell? ⟨rb,0,none⟩=some (.slice p0 rg.back.length c0):=HFIN.out.2.2.2.cell 0;have r1:(setN wc rb 0 [.slice p0 rg.back.length c0,.slice p1 rg.ins.length c1,.slice p2 rg.ahead.length c2,.slice p3 rg.out.length c3,.slice p4 rg.calls.length c4,.int .i64 rg.x]).cell? ⟨rb,1,none⟩=some (.slice p1 rg.ins.length c1):=HFIN.out.2.2.2.cell 1;have r2:(setN wc rb 0 [.slice p0 rg.back.length c0,.slice p1 rg.ins.length c1,.slice p2 rg.ahead.length c2,.slice p3 rg.out.length c3,.slice p4 rg.calls.length c4,.int .i64 rg.x]).cell? ⟨rb,2,none⟩=some (.slice p2 rg.ahead.length c2):=HFIN.out.2.2.2.cell 2;have r3:(setN wc rb 0 [.slice p0 rg.back.length c0,.slice p1 rg.ins.length c1,.slice p2 rg.ahead.length c2,.slice p3 rg.out.length c3,.slice p4 rg.calls.length c4,.int .i64 rg.x]).cell? ⟨rb,3,none⟩=some (.slice p3 rg.out.length c3):=HFIN.out.2.2.2.cell 3;have r4:(setN wc rb 0 [.slice p0 rg.back.length c0,.slice p1 rg.ins.length c1,.slice p2 rg.ahead.length c2,.slice p3 rg.out.length c3,.slice p4 rg.calls.length c4,.int .i64 rg.x]).cell? ⟨rb,4,none⟩=some (.slice p4 rg.calls.length c4):=HFIN.out.2.2.2.cell 4;have r5:(setN wc rb 0 [.slice p0 rg.back.length c0,.slice p1 rg.ins.length c1,.slice p2 rg.ahead.length c2,.slice p3 rg.out.length c3,.slice p4 rg.calls.length c4,.int .i64 rg.x]).cell? ⟨rb,5,none⟩=some (.int .i64 rg.x):=HFIN.out.2.2.2.cell 5;exact bodyPost_ret (v:=.agg #[.slice p0 rg.back.length c0,.slice p1 rg.ins.length c1,.slice p2 rg.ahead.length c2,.slice p3 rg.out.length c3,.slice p4 rg.calls.length c4,.int .i64 rg.x]) (by simp [results,Tryz.results81,go_sem,r0,r1,r2,r3,r4,r5]) rfl ⟨[.slice p0 rg.back.length c0,.slice p1 rg.ins.length c1,.slice p2 rg.ahead.length c2,.slice p3 rg.out.length c3,.slice p4 rg.calls.length c4,.int .i64 rg.x],rfl,  HFIN.out.1,HFIN.out.2.1,HFIN.out.2.2.1⟩
def MF.withLk (f:MF) (v:Value):MF:=⟨f.u,f.gl,f.ch,v,f.ft,f.ax,f.rg,f.fn,f.cv⟩
def SLk0 (S:Bl) (w:World) (cs:List Value) (d:DLookup):Prop:=cs=[.int .i64 d.kind,.bool d.ignore,nilV]/\I64 d.kind/\d.rules=[]
theorem SLk0.stay:SStay SLk0:=fun _ _ _ _ _ h _=>h
theorem SLk0.weak:SWeak SLk0:=fun _ _ _ _ _ h _=>h
structure L1St (W:World) (m:Nat) (sv:Value) (l:List Int) (f:MF) (vl:Value) (D:List DLookup) (vc:Value) (C:List Int) (s:Mk.S) (w:World):Prop where
 mkr:MK m sv l (f.withLk vl) s w
 mod:Mod [m] W w
 gl:Grow W.heap.size 57 3 SLk0 (fun _=>False) vl D w
 gc:Grow W.heap.size 3 1 SInt (fun _=>False) vc C w
 ord:m<W.heap.size
section
variable {W:World} {m:Nat} {sv:Value} {l:List Int} {f:MF} {vl v' vc:Value} {D:List DLookup} {C:List Int} {s s':Mk.S} {w w':World}
theorem L1St.stays:Stays (L1St W m sv l f vl D vc C s):=fun w w' h k=>⟨MK.stays _ _ h.mkr k,h.mod.then (k.more (by simp)),h.gl.mod SLk0.stay k,h.gc.mod SInt.stay k,h.ord⟩
theorem L1St.call (h:L1St W m sv l f vl D vc C s w) (k:MK m sv l (f.withLk vl) s' w') (k2:Mod [m] w w'):L1St W m sv l f vl D vc C s' w' :=
 ⟨k,h.mod.then k2,h.gl.keptB SLk0.stay k2 (by have:=h.ord;simpa using this) (fun _ h=>h.elim),h.gc.keptB SInt.stay k2 (by have:=h.ord;simpa using this) (fun _ h=>h.elim),h.ord⟩
structure L1P (W:World) (m:Nat) (sv:Value) (l:List Int) (f:MF) (vl:Value) (D:List DLookup) (vc:Value) (C:List Int) (s:Mk.S) (v':Value) (w:World):Prop where
 mkr:MK m sv l (f.withLk vl) s w
 mod:Mod [m] W w
 gl:Grow W.heap.size 57 3 SLk0 (fun _=>False) v' D w
 gc:Grow W.heap.size 3 1 SInt (fun _=>False) vc C w
 ord:m<W.heap.size
theorem L1P.stays (v':Value):Stays (L1P W m sv l f vl D vc C s v'):=fun w w' h k=>⟨MK.stays _ _ h.mkr k,h.mod.then (k.more (by simp)),h.gl.mod SLk0.stay k,h.gc.mod SInt.stay k,h.ord⟩
theorem L1St.push {d:DLookup} (h:L1St W m sv l f vl D vc C s w) (hG:Grow W.heap.size 57 3 SLk0 (fun _=>False) v' (D++[d]) w') (k:w.grownBy w' vl.ownBlock):L1P W m sv l f vl (D++[d]) vc C s v' w' :=
 ⟨h.mkr.grown k fun b hb=>by have:=(h.gl.lt b hb).1;have:=h.ord;omega,h.mod.grew k fun b hb=>(h.gl.lt b hb).1,hG,h.gc.other SInt.stay k (h.gc.ne h.gl (by decide)) (fun _ _ h=>h),h.ord⟩
theorem L1P.store (h:L1P W m sv l f vl D vc C s v' w):L1St W m sv l f v' D vc C s (w.setCell ⟨m,5,none⟩ v'):=by
 have h1:=h.ord
 exact ⟨⟨h.mkr.blk.set 5 v',h.mkr.num.same SInt.stay (SameB.set w (by simp) _),h.mkr.suf,h.mkr.lp0,h.mkr.lp1⟩,h.mod.setCell (p:=⟨m,5,none⟩) (fun _=>by simp) _,
  h.gl.set SLk0.stay (fun hb=>by have:W.heap.size<=m:=(h.gl.lt _ hb).1;omega) (fun h=>h) _,h.gc.set SInt.stay (fun hb=>by have:W.heap.size<=m:=(h.gc.lt _ hb).1;omega) (fun h=>h) _,h1⟩
theorem L1St.pushC {x:Int} (h:L1St W m sv l f vl D vc C s w) (hG:Grow W.heap.size 3 1 SInt (fun _=>False) v' (C++[x]) w') (k:w.grownBy w' vc.ownBlock):L1St W m sv l f vl D v' (C++[x]) s w' :=
 ⟨h.mkr.grown k fun b hb=>by have:=(h.gc.lt b hb).1;have:=h.ord;omega,h.mod.grew k fun b hb=>(h.gc.lt b hb).1,h.gl.other SLk0.stay k (h.gl.ne h.gc (by decide)) (fun _ _ h=>h),hG,h.ord⟩
end
structure LkSt (W:World) (m:Nat) (sv:Value) (l:List Int) (f:MF) (g B1 B:Nat) (D E:List DLookup) (vz:Value) (vc:Value) (C:List Int) (s:Mk.S) (w:World):Prop where
 mkr:MK m sv l f s w
 mod:Mod [m] W w
 bl:∃ cur,Blk w g cur 57/\D.length*3<=cur.size /\
  (∀ j (h:j<E.length),∃ v2,cur[j*3]?=some (.int .i64 E[j].kind)/\cur[j*3+1]?=some (.bool E[j].ignore)/\cur[j*3+2]?=some v2/\I64 E[j].kind/\SRows 6 SRule (fun b=>B1<=b/\b<B) w v2 E[j].rules) /\
  (∀ j (h:j<D.length),E.length<=j->cur[j*3]?=some (.int .i64 D[j].kind)/\cur[j*3+1]?=some (.bool D[j].ignore)/\cur[j*3+2]?=some (if j=E.length then vz else nilV)/\I64 D[j].kind)
 cal:SRows 1 SInt (fun b=>(m<b/\b<B1)/\b≠g) w vc C
 le:E.length<=D.length/\D.length<=1000
 ord:m<W.heap.size/\W.heap.size<=g/\g<B1/\B1<=B/\B<=w.heap.size
section
variable {W:World} {m:Nat} {sv:Value} {l:List Int} {f:MF} {g B1 B:Nat} {D E:List DLookup} {vl vz v' vc u:Value} {C:List Int} {s s':Mk.S} {w w':World}
theorem LkSt.keep (h:LkSt W m sv l f g B1 B D E vz vc C s w) (k:MK m sv l f s' w') (k1:Mod [m] W w') (k2:w'.heap[g]?=w.heap[g]?) (k3:SameB (fun b=>B1<=b/\b<B) w w') (k4:SameB (fun b=>(m<b/\b<B1)/\b≠g) w w') (k5:w.heap.size<=w'.heap.size):LkSt W m sv l f g B1 B D E vz vc C s' w':=by
 obtain ⟨cur,h1,h2,h3,h4⟩:=h.bl;refine ⟨k,k1,⟨cur,by unfold Blk at h1 ⊢;rw [k2];exact h1,h2,fun j hj=>?_,h4⟩,h.cal.same SInt.stay k4,h.le,h.ord.1,h.ord.2.1,h.ord.2.2.1,h.ord.2.2.2.1,nT h.ord.2.2.2.2 k5⟩;obtain ⟨v2,a0,a1,a2,a3,a4⟩:=h3 j hj;exact ⟨v2,a0,a1,a2,a3,a4.same SRule.stay k3⟩
theorem LkSt.stays:Stays (LkSt W m sv l f g B1 B D E vz vc C s):=fun w w' h k=>by
 obtain ⟨cur,h1,_⟩:=h.bl;exact h.keep (MK.stays _ _ h.mkr k) (h.mod.then (k.more (by simp))) (k.block g h1.lt (by simp)) (k.same0 _) (k.same0 _) k.size
theorem LkSt.call (h:LkSt W m sv l f g B1 B D E vz vc C s w) (k:MK m sv l f s' w') (k2:Mod [m] w w'):LkSt W m sv l f g B1 B D E vz vc C s' w':=by
 obtain ⟨cur,h1,_⟩:=h.bl;have h5:=h.ord;exact h.keep k (h.mod.then k2) (k2.block g h1.lt (by simp;omega)) (k2.sameB (by intro x hx hs;simp at hx;omega)) (k2.sameB (by intro x hx hs;simp at hx;omega)) k2.size
theorem LkSt.grown (h:LkSt W m sv l f g B1 B D E vz vc C s w) (k:w.grownBy w' u.ownBlock) (hu:∀ b,u.ownBlock=some b->B<=b):LkSt W m sv l f g B1 B D E vz vc C s w':=by
 obtain ⟨cur,h1,_⟩:=h.bl;have h5:=h.ord;exact h.keep (h.mkr.grown k fun b hb=>by have:=hu b hb;omega) (h.mod.grew k fun b hb=>by have:=hu b hb;omega) (k.block g h1.lt fun he=>by have:=hu g he.symm;omega) (SameB.grown k fun b hb hs=>by have:=hu b hb;omega) (SameB.grown k fun b hb hs=>by have:=hu b hb;omega) k.size
theorem LkSt.cells (h:LkSt W m sv l f g B1 B D E vz vc C s w) (hi:E.length<D.length):w.cell? ⟨g,E.length*3,none⟩=some (.int .i64 D[E.length].kind)/\w.cell? ⟨g,E.length*3+2,none⟩=some vz/\w.frozen? ⟨g,E.length*3+2,none⟩=false:=by
 obtain ⟨cur,h1,_,_,h4⟩:=h.bl;obtain ⟨a0,_,a2,_⟩:=h4 _ hi (nR _);exact ⟨(h1.cell _).trans a0,((h1.cell _).trans a2).trans (by rw [if_pos rfl]),h1.frozen _⟩
theorem LkSt.store (h:LkSt W m sv l f g B1 B D E vz vc C s w) (hi:E.length<D.length) (x:Value):LkSt W m sv l f g B1 B D E x vc C s (w.setCell ⟨g,E.length*3+2,none⟩ x):=by
 obtain ⟨cur,h1,h2,h3,h4⟩:=h.bl;have h5:=h.ord;refine ⟨h.mkr.set (by show m<g;omega) _,h.mod.setNew (p:=⟨g,E.length*3+2,none⟩) (by show W.heap.size<=g;omega) _,⟨cur.setIfInBounds (E.length*3+2) x,h1.set _ x,by simpa using h2,fun j hj=>?_,fun j hj hE=>?_⟩,?_,h.le,h5.1,h5.2.1,h5.2.2.1,h5.2.2.2.1,by simpa using h5.2.2.2.2⟩
 ·obtain ⟨v2,a0,a1,a2,a3,a4⟩:=h3 j hj;refine ⟨v2,?_,?_,?_,a3,a4.same SRule.stay (SameB.set w (by simp;omega) _)⟩
  ·rw [Array.getElem?_setIfInBounds_ne (by omega)];exact a0
  ·rw [Array.getElem?_setIfInBounds_ne (by omega)];exact a1
  ·rw [Array.getElem?_setIfInBounds_ne (by omega)];exact a2
 ·obtain ⟨a0,a1,a2,a3⟩:=h4 j hj hE;refine ⟨?_,?_,?_,a3⟩
  ·rw [Array.getElem?_setIfInBounds_ne (by omega)];exact a0
  ·rw [Array.getElem?_setIfInBounds_ne (by omega)];exact a1
  ·by_cases he:j=E.length
   ·subst he;rw [if_pos rfl,Array.getElem?_setIfInBounds_self_of_lt (by omega)]
   ·rw [if_neg he] at a2 ⊢;rw [Array.getElem?_setIfInBounds_ne (by omega)];exact a2
 ·exact h.cal.same SInt.stay (SameB.set w (by simp) _)
theorem LkSt.next {rs:List DRule} (h:LkSt W m sv l f g B1 B D E vz vc C s w) (hi:E.length<D.length) (hG:Grow B 54 6 SRule (fun b=>B<=b) vz rs w):LkSt W m sv l f g B1 w.heap.size D (E++[⟨D[E.length].kind,D[E.length].ignore,rs⟩]) nilV vc C s w:=by
 obtain ⟨cur,h1,h2,h3,h4⟩:=h.bl;have h5:=h.ord;refine ⟨h.mkr,h.mod,⟨cur,h1,h2,fun j hj=>?_,fun j hj hE=>?_⟩,h.cal,⟨by simp;omega,h.le.2⟩,h5.1,h5.2.1,h5.2.2.1,by omega,nR _⟩
 ·by_cases hj2:j<E.length
  ·obtain ⟨v2,a0,a1,a2,a3,a4⟩:=h3 j hj2;rw [List.getElem_append_left hj2];exact ⟨v2,a0,a1,a2,a3,a4.weak (by decide) SRule.weak fun b hb hs=>⟨hs.1,hb⟩⟩
  ·obtain rfl:j=E.length:=by simp at hj;omega
   obtain ⟨a0,a1,a2,a3⟩:=h4 _ hi (nR _);rw [if_pos rfl] at a2;have e1:(E++[(⟨D[E.length].kind,D[E.length].ignore,rs⟩:DLookup)])[E.length]'hj=⟨D[E.length].kind,D[E.length].ignore,rs⟩:=by simp
   rw [e1];exact ⟨vz,a0,a1,a2,a3,hG.done (by decide) SRule.weak (fun b hb hs=>⟨by omega,hb⟩) fun b hb=>by have:=hG.lt b hb;omega⟩
 ·simp only [List.length_append,List.length_cons,List.length_nil] at hE ⊢;obtain ⟨a0,a1,a2,a3⟩:=h4 j hj (by omega);refine ⟨a0,a1,?_,a3⟩;rw [if_neg (by omega)] at a2;rw [a2]
  split <;> rfl
theorem LkSt.start (h:L1St W m sv l f vl D vc C s w) (h0:0<D.length) (h9:D.length<=1000):∃ g cap,vl=.slice (some ⟨g,0,none⟩) D.length cap/\LkSt W m sv l (f.withLk vl) g w.heap.size w.heap.size D [] nilV vc C s w:=by
 obtain ⟨css,ho,he⟩:=id h.gl;rcases ho.2 with ⟨rfl,hn⟩ | ⟨g,cap,cur,hv,hb,hg,hc,hcm,hcs,ht⟩
 ·omega
 ·subst hv;have hB:Blk w g cur 57:=hg;refine ⟨g,cap,rfl,h.mkr,h.mod,⟨cur,hB,by rw [hcs];exact Nat.mul_le_mul_right _ hc,fun j hj=>absurd hj (Nat.not_lt_zero j),fun j hj _=>?_⟩,?_,⟨Nat.zero_le _,h9⟩,h.ord,hb,hB.lt,nR _,nR _⟩
  ·obtain ⟨g',c',cs,hv,hk,⟨rfl,hI,hr⟩,hcell⟩:=h.gl.at j hj;cases hv;have e0:=hcell 0 (by decide);have e1:=hcell 1 (by decide);have e2:=hcell 2 (by decide);rw [hB.cell] at e0 e1 e2;refine ⟨e0,e1,e2.trans ?_,hI⟩
   split <;> rfl
  ·refine h.gc.done (by decide) SInt.weak (fun _ _ h=>h.elim) fun b hb2=>⟨?_,fun he=>?_⟩
   ·have:=h.gc.lt b hb2;have:=h.ord;omega
   ·subst he;rcases h.gc.ne h.gl (by decide) with h1 | h1
    ·rw [h1] at hb2;cases hb2
    ·exact h1 (hb2.trans rfl)
theorem LkSt.fin {cap:Nat} (h:LkSt W m sv l f g B1 B D E vz vc C s w) (he:E.length=D.length):SRows 3 SLookup (fun b=>W.heap.size<=b) w (.slice (some ⟨g,0,none⟩) E.length cap) E:=by
 obtain ⟨cur,h1,h2,h3,_⟩:=h.bl;have h5:=h.ord;refine ⟨_,_,rfl,by have:=h.le;unfold maxLen;omega,fun j hj=>⟨_,rfl,h5.2.1,?_⟩⟩;obtain ⟨v2,a0,a1,a2,a3,a4⟩:=h3 j hj;refine ⟨[.int .i64 E[j].kind,.bool E[j].ignore,v2],rfl,fun q hq=>?_,v2,rfl,a3,a4.weak (by decide) SRule.weak fun b _ hb=>by omega⟩;rw [addr_add_add];have e1:(⟨g,0,Option.none⟩:Addr).add (j*3+q)=⟨g,j*3+q,Option.none⟩:=by unfold Addr.add;split <;> simp_all
 rw [e1,h1.cell]
 match q,hq with
 | 0,_=>exact a0
 | 1,_=>exact a1
 | 2,_=>exact a2
end
def RuleAnd (S:Bl) (d:DRule) (Post:World->Prop) (v:Value) (w:World):Prop:=(∃ v0 v1 v2 v3 v4,v=.agg #[v0,v1,v2,v3,v4,.int .i64 d.x]/\SRule S w [v0,v1,v2,v3,v4,.int .i64 d.x] d)/\Post w
theorem RuleAnd.stays {S:Bl} {d:DRule} {Post:World->Prop} (hP:Stays Post) (v:Value):Stays (RuleAnd S d Post v):=fun w w' ⟨⟨v0,v1,v2,v3,v4,h0,h1⟩,h2⟩ k=>⟨⟨v0,v1,v2,v3,v4,h0,SRule.stay _ _ _ _ _ h1 (k.same0 _)⟩,hP _ _ h2 k⟩
def NewRule (B:Nat) (S:Bl) (d:DRule) (Post:World->Prop) (v:Value) (w:World):Prop:=∃ nb v0 v1 v2 v3 v4,v=.slice (some ⟨nb,0,none⟩) 1 1/\B<=nb/\Blk w nb #[v0,v1,v2,v3,v4,.int .i64 d.x] 54/\SRule S w [v0,v1,v2,v3,v4,.int .i64 d.x] d/\Post w
theorem NewRule.stays {B:Nat} {S:Bl} {d:DRule} {Post:World->Prop} (hP:Stays Post) (v:Value):Stays (NewRule B S d Post v):=fun w w' ⟨nb,v0,v1,v2,v3,v4,h0,h1,h2,h3,h4⟩ k=>⟨nb,v0,v1,v2,v3,v4,h0,h1,h2.kept k (by simp),SRule.stay _ _ _ _ _ h3 (k.same0 _),hP _ _ h4 k⟩
def LkP (W:World) (m:Nat) (sv:Value) (l:List Int) (f:MF) (g B1 B:Nat) (D E:List DLookup) (vz vc:Value) (C:List Int) (s:Mk.S) (rs:List DRule) (v:Value) (w:World):Prop :=
 (∃ (ov:Option Addr) (cv:Nat),v=.slice ov rs.length cv)/\LkSt W m sv l f g B1 B D E vz vc C s w/\Grow B 54 6 SRule (fun b=>B<=b) v rs w
theorem LkP.stays {W:World} {m:Nat} {sv:Value} {l:List Int} {f:MF} {g B1 B:Nat} {D E:List DLookup} {vz vc:Value} {C:List Int} {s:Mk.S} {rs:List DRule} (v:Value):Stays (LkP W m sv l f g B1 B D E vz vc C s rs v):=fun w w' h k=>⟨h.1,LkSt.stays _ _ h.2.1 k,h.2.2.mod SRule.stay k⟩
theorem LkP.call {W:World} {m:Nat} {sv:Value} {l:List Int} {f:MF} {g B1 B:Nat} {D E:List DLookup} {vz vc:Value} {C:List Int} {s s':Mk.S} {rs:List DRule} {v:Value} {w w':World} (h:LkP W m sv l f g B1 B D E vz vc C s rs v w) (k:MK m sv l f s' w') (k2:Mod [m] w w'):LkP W m sv l f g B1 B D E vz vc C s' rs v w' :=
 ⟨h.1,h.2.1.call k k2,h.2.2.keptB SRule.stay k2 (by have:=h.2.1.ord;simp;omega) (fun b hb=>hb)⟩
theorem LkP.store {W:World} {m:Nat} {sv:Value} {l:List Int} {f:MF} {g B1 B:Nat} {D E:List DLookup} {vz vc:Value} {C:List Int} {s:Mk.S} {rs:List DRule} {v:Value} {w:World} (h:LkP W m sv l f g B1 B D E vz vc C s rs v w) (hi:E.length<D.length):LkP W m sv l f g B1 B D E v vc C s rs v (w.setCell ⟨g,E.length*3+2,none⟩ v) :=
 ⟨h.1,h.2.1.store hi v,h.2.2.set SRule.stay (fun hb=>by have h9:B<=g:=(h.2.2.lt _ hb).1;have:=h.2.1.ord;omega) (by have:=h.2.1.ord;show ¬ B<=g;omega) v⟩
def MkJ (m:Nat) (sv:Value) (l:List Int) (f:MF) (o:List Nat) (w W:World):Prop:=Mod (m::o) w W/\∃ s,MK m sv l f s W
theorem MkJ.then {m:Nat} {sv:Value} {l:List Int} {f:MF} {o:List Nat} {w:World} (a b:World) (h:MkJ m sv l f o w a) (k:Mod [] a b):MkJ m sv l f o w b:=⟨h.1.then (k.more (by simp)),h.2.elim fun s hs=>⟨s,MK.stays _ _ hs k⟩⟩
theorem MkJ.grew {m:Nat} {sv:Value} {l:List Int} {f:MF} {row:Option Nat} {w a b:World} {s:Mk.S} (h:MkJ m sv l f row.toList w a) (g:a.grownBy b row) (k:MK m sv l f s b):MkJ m sv l f row.toList w b :=
 ⟨(h.1.grewOld g).more (fun x hx _=>by rcases List.mem_append.1 hx with hx | hx;exact hx;exact List.mem_cons_of_mem _ hx),s,k⟩
def L1Q (W:World) (m:Nat) (sv:Value) (l:List Int) (f:MF) (vl:Value) (D:List DLookup) (vc:Value) (C:List Int) (s:Mk.S) (v:Value) (w:World):Prop:=(∃ (ov:Option Addr) (cv:Nat),v=.slice ov D.length cv)/\L1P W m sv l f vl D vc C s v w
theorem L1Q.stays {W:World} {m:Nat} {sv:Value} {l:List Int} {f:MF} {vl:Value} {D:List DLookup} {vc:Value} {C:List Int} {s:Mk.S} (v:Value):Stays (L1Q W m sv l f vl D vc C s v):=fun w w' h k=>⟨h.1,L1P.stays _ _ _ h.2 k⟩
section
variable {W:World} {m:Nat} {sv:Value} {l:List Int} {f:MF} {g B1 B:Nat} {D E:List DLookup} {vz v v' vc:Value} {C:List Int} {s s':Mk.S} {rs:List DRule} {w w':World} {x:DRule}
theorem LkSt.calm (h:LkSt W m sv l f g B1 B D E vz vc C s w):SRows 1 SInt (fun b=>b≠m) w vc C:=h.cal.weak (by decide) SInt.weak fun b _ hb=>by omega
theorem LkP.newRule {cs:List Value} (h:LkP W m sv l f g B1 B D E vz vc C s rs v w) (hS:SRule (fun b=>w.heap.size<=b) w' cs x):SRule (fun b=>B<=b/\v.ownBlock≠some b) w' cs x :=
 SRule.weak _ _ _ _ _ hS fun b _ hb=>⟨by have:=h.2.1.ord;omega,fun he=>by have:=(h.2.2.lt b he).2;omega⟩
theorem LkP.push (h:LkP W m sv l f g B1 B D E vz vc C s rs v w) (hG:Grow B 54 6 SRule (fun b=>B<=b) v' (rs++[x]) w') (k:w.grownBy w' v.ownBlock):LkP W m sv l f g B1 B D E vz vc C s (rs++[x]) v' w' :=
 ⟨hG.form,h.2.1.grown k fun b hb=>(h.2.2.lt b hb).1,hG⟩
theorem rule_one {S:Bl} {v0 v1 v2 v3 v4:Value} {y:Int} (h:SRule S w [v0,v1,v2,v3,v4,.int .i64 y] x):∀ u∈[[v0,v1,v2,v3,v4,.int .i64 y]].flatten,u.oneCell'=true:=by
 obtain ⟨u0,u1,u2,u3,u4,he,h0,h1,h2,h3,h4,_⟩:=h;simp only [List.cons.injEq,and_true] at he;obtain ⟨rfl,rfl,rfl,rfl,rfl,he5⟩:=he;intro u hu;simp only [List.flatten_cons,List.flatten_nil,List.append_nil,List.mem_cons,List.not_mem_nil,or_false] at hu;rcases hu with rfl | rfl | rfl | rfl | rfl | rfl
 ·exact oneS h0
 ·exact oneS h1
 ·exact oneS h2
 ·exact oneS h3
 ·exact oneS h4
 ·rfl
end
def lk1F:Nat->List DLookup×List Int->Mk.M (List DLookup×List Int):=fun i l s=>Mk.bind (Mk.next 10 s) fun k s=>Mk.bind (Mk.next 3 s) fun z s =>
 ((l.1++[⟨Mk.kinds.getD k.toNat 0,decide (z=0),[]⟩],if Mk.kinds.getD k.toNat 0<=4 then l.2++[(i:Int)] else l.2),s)
def lkRF (n kind:Int) (C:List Int):Nat->List DRule->Mk.M (List DRule):=fun _ rs s=>Mk.bind (Mk.rule n kind C s) fun x s=>(rs++[x],s)
def lk2F (n:Int) (D:List DLookup) (C:List Int):Nat->List DLookup->Mk.M (List DLookup):=fun i l s=>match D[i]? with
 | none=>(l,s)
 | some d=>if 7<=d.kind then (l++[d],s) else Mk.bind (Mk.next 3 s) fun k s=>Mk.bind (Mk.rep (1+k).toNat (lkRF n d.kind C) [] s) fun rs s=>(l++[⟨d.kind,d.ignore,rs⟩],s)
theorem Mk.lookups_eq {n k:Int} {s s1 s2:Mk.S} {D:List DLookup} {C:List Int} (h1:Mk.next 7 s=(k,s1)) (h2:Mk.rep k.toNat lk1F ([],[]) s1=((D,C),s2)):Mk.lookups n s=Mk.rep D.length (lk2F n D C) [] s2:=by
 have h3:Mk.lookups1 s=((D,C),s2):=by unfold Mk.lookups1;rw [Mk.bind_eq h1];exact h2
 unfold Mk.lookups;rw [Mk.bind_eq h3];rfl
theorem kinds_in (Q:Nat) (h:Q<10):1<=Mk.kinds.getD Q 0/\Mk.kinds.getD Q 0<=8:=by
 match Q,h with
 | 0,_=>decide
 | 1,_=>decide
 | 2,_=>decide
 | 3,_=>decide
 | 4,_=>decide
 | 5,_=>decide
 | 6,_=>decide
 | 7,_=>decide
 | 8,_=>decide
 | 9,_=>decide
def kindsA:Array Value:=#[.int .i64 1,.int .i64 2,.int .i64 3,.int .i64 4,.int .i64 4,.int .i64 5,.int .i64 6,.int .i64 7,.int .i64 8,.int .i64 1]
theorem kindsA_at (Q:Nat) (h:Q<10):kindsA[Q]?=some (.int .i64 (Mk.kinds.getD Q 0)):=by
 match Q,h with
 | 0,_=>rfl
 | 1,_=>rfl
 | 2,_=>rfl
 | 3,_=>rfl
 | 4,_=>rfl
 | 5,_=>rfl
 | 6,_=>rfl
 | 7,_=>rfl
 | 8,_=>rfl
 | 9,_=>rfl
theorem lk1_inv (k:Nat) (s:Mk.S):(Mk.rep k lk1F ([],[]) s).1.1.length=k/\(Mk.rep k lk1F ([],[]) s).1.2.length<=k/\∀ d∈(Mk.rep k lk1F ([],[]) s).1.1,1<=d.kind/\d.kind<=8/\d.rules=[]:=by
 refine Mk.rep_inv (f:=lk1F) (fun i (p:List DLookup×List Int)=>p.1.length=i/\p.2.length<=i/\∀ d∈p.1,1<=d.kind/\d.kind<=8/\d.rules=[]) ⟨rfl,nR _,by simp⟩ fun i p s hi h=>?_
 have k1:=Mk.next_ge 10 s (by decide);have k2:=Mk.next_lt 10 s (by decide);have k3:=kinds_in (Mk.next 10 s).1.toNat (by omega);unfold lk1F Mk.bind;refine ⟨by simp [h.1],?_,fun d hd=>?_⟩
 ·show (if _ then _ else _:List Int).length<=i+1
  split
  ·simp;exact h.2.1
  ·exact Nat.le_succ_of_le h.2.1
 ·rcases List.mem_append.1 hd with hd | hd
  ·exact h.2.2 d hd
  ·obtain rfl:=mI.1 hd;exact ⟨k3.1,k3.2,rfl⟩
theorem lookups_at (m:Nat) (sv:Value) (l:List Int) (f:MF) (s:Mk.S) (n:Nat) (hn:0<n) (hn1:n<=100000) {og:Option Addr} {cg:Nat} (hgl:f.gl=.slice og n cg) (hlk:f.lk=.slice none 0 0) {L:List DLookup} {rs:Mk.S} (he:Mk.lookups n s=(L,rs)) (w:World) (h:MK m sv l f s w) :
  Calls Tryz.prog 23 #[.pointer (some ⟨m,0,none⟩)] w fun e w'=>∃ v',e=.returned (.tuple #[])/\SRows 3 SLookup (fun b=>w.heap.size<=b) w' v' L/\MK m sv l (f.withLk v') rs w'/\Mod [m] w w':=by
 obtain ⟨k,s1,h1⟩:∃ a b,Mk.next 7 s=(a,b):=⟨_,_,rfl⟩
 obtain ⟨⟨D,C⟩,s2,h2⟩:∃ a b,Mk.rep k.toNat lk1F ([],[]) s1=(a,b):=⟨_,_,rfl⟩
 rw [Mk.lookups_eq h1 h2] at he;have i1:=next_in (by decide) h1;obtain ⟨K,rfl⟩:∃ K:Nat,k=K:=⟨k.toNat,by omega⟩
 rw [Int.toNat_natCast] at h2;have hDC:=lk1_inv K s1;rw [h2] at hDC;have C1:=Hi (next_at m sv l f s 7 (by decide) (by decide) h1 w h);have CN:=Hi (fun f st x st' n h1 h2 e=>next_at m sv l f st n h1 h2 (r:=x) (s':=st') e);have hf0:f.withLk nilV=f:=by have h9:nilV=f.lk:=hlk.symm;rw [h9];rfl
 have HF0:=Hi hf0;have HGL:=Hi hgl;have HE:=Hi he;have H2:=Hi h2;have HDC:=Hi hDC;have HN:=Hi (And.intro hn hn1);have HK:Hid (K<7):=by show K<7;omega
 have HMW:=Hi h.blk.lt;clear h1 h2 he i1 hDC hf0 hgl hlk h hn hn1;obtain ⟨i0,ii,iz0,iz1,iz2⟩:=info_parts inf_Int;obtain ⟨t0,ti,tz0,tz1,tz2⟩:=info_parts inf_Lookup;obtain ⟨q0,qi,qz0,qz1,qz2⟩:=info_parts inf_Rule;go_enter Tryz.func23,Tryz.ntmps23;go_wp2_with fail;refine C1.out.mono ?_;rintro e w1 ⟨rfl,K1,M1⟩;have HS0:Hid (L1St w m sv l f (.slice none 0 0) [] (.slice none 0 0) [] s1 w1):=⟨by rw [HF0.out];exact K1,M1,Grow.nil,Grow.nil,HMW.out⟩
 clear K1 M1 C1;go_upto_block 0 with fail
 go_cut [3,4,5] from 11 to 42 (fun v3 v4 v5 wx=>∃ (ol oc:Option Addr) (cl cc:Nat),v3=.slice oc C.length cc/\Hid (L1St w m sv l f (.slice ol D.length cl) D (.slice oc C.length cc) C s2 wx))
 case first =>
  go_wp2_with fail
  go_loopg [3,4] K (fun gk v3 v4 wr=>∃ (i:Nat) (D':List DLookup) (C':List Int) (st:Mk.S) (ol oc:Option Addr) (cl cc:Nat),v3=.slice oc C'.length cc/\v4=.int .i64 (i:Int)/\Hid (i+gk=K)/\Hid (Mk.rep i lk1F ([],[]) s1=((D',C'),st))/\Hid (D'.length=i/\C'.length<=i)/\Hid (L1St w m sv l f (.slice ol D'.length cl) D' (.slice oc C'.length cc) C' st wr))
  case atStart=>exact ⟨0,[],[],s1,none,none,0,0,rfl,rfl,by show 0+K=K;omega,rfl,⟨rfl,nR _⟩,HS0.out⟩
  case round =>
   obtain ⟨i,D',C',st,ol,oc,cl,cc,rfl,rfl,hi5,HR,HLL,HS⟩:=hrel;clear HS0
   by_cases hin:i<K
   case neg =>
    obtain rfl:i=K:=by have:=hi5.out;omega
    have k1:decide ((i:Int)<(i:Int))=false:=dF (by omega);obtain ⟨⟨rfl,rfl⟩,rfl⟩:(D'=D/\C'=C)/\st=s2:=by have h9:=H2.out;rw [HR.out] at h9;simpa using h9
    go_wp2;go_meet
    case rel=>exact ⟨ol,oc,cl,cc,rfl,HS⟩
   have k1:decide ((i:Int)<(K:Int))=true:=dT (by omega);have k2:(i:Int)<(K:Int):=by omega
   have ei:IntKind.i64.wrap ((i:Int)+1)=(i:Int)+1:=wrapi (by omega) (by have:=HK.out;omega);obtain ⟨x,st1,hx⟩:∃ a b,Mk.next 10 st=(a,b):=⟨_,_,rfl⟩
   obtain ⟨z,st2,hz⟩:∃ a b,Mk.next 3 st1=(a,b):=⟨_,_,rfl⟩
   have ix:=next_in (by decide) hx;obtain ⟨Q,rfl⟩:∃ Q:Nat,x=Q:=⟨x.toNat,by omega⟩
   have q1:(0:Int)<=(Q:Int):=by omega
   have q2:(Q:Int)<10:=by omega
   have HKD:=Hi (kinds_in Q (by omega));have HKA:=Hi (kindsA_at Q (by omega));have HD:Hid (lk1F i (D',C') st=((D'++[⟨Mk.kinds.getD Q 0,decide (z=0),[]⟩],if Mk.kinds.getD Q 0<=4 then C'++[(i:Int)] else C'),st2)):=by
    unfold lk1F;rw [Mk.bind_eq hx,Mk.bind_eq hz,Int.toNat_natCast];exact rfl
   have al:Mod [] wr (wr.alloc (.cells kindsA 3)):=mR.alloc _;have CX:=Hi (CN.out _ st Q st1 10 (by decide) (by decide) hx _ (L1St.stays _ _ HS.out al).mkr);have CZ:=Hi (CN.out (f.withLk (.slice ol D'.length cl)) st1 z st2 3 (by decide) (by decide) hz);have HA:=Hi (Blk.new wr kindsA 3);have HS1:=Hi (L1St.stays _ _ HS.out al);have HWR:Hid (m<wr.heap.size):=by have:=HS.out.mkr.blk.lt;exact this
   have HIN:=Hi hin;clear hx hz ix al hin HS;go_upto_region 5 with fail;go_wp2_with fail;rw [show wr.alloc (.cells #[.int .i64 1,.int .i64 2,.int .i64 3,.int .i64 4,.int .i64 4,.int .i64 5,.int .i64 6,.int .i64 7,.int .i64 8,.int .i64 1] 3)=wr.alloc (.cells kindsA 3) from rfl];refine CX.out.mono ?_;rintro e w2 ⟨rfl,K2,M2⟩;have HS2:=Hi (HS1.out.call K2 M2);have ac:w2.cell? ⟨wr.heap.size,Q,none⟩=some (.int .i64 (Mk.kinds.getD Q 0)):=((HA.out.kept M2 (by have:=HWR.out;simp;omega)).cell Q).trans HKA.out;generalize Mk.kinds.getD Q 0=kd at *
   clear K2 M2 HS1 CX HA HKA;go_upto_region 6 with fail;generalize wr.heap.size=kb at *
   clear ac;have B5:∀ W,MkJ m sv l (f.withLk (.slice ol D'.length cl)) (Value.slice ol D'.length cl).ownBlock.toList w2 W->W.cell? ⟨m,5,none⟩=some (.slice ol D'.length cl):=fun W k=>k.2.elim fun _ h9=>h9.blk.cell 5
   have HI0:MkJ m sv l (f.withLk (.slice ol D'.length cl)) (Value.slice ol D'.length cl).ownBlock.toList w2 w2.drew:=⟨((Mod.refl [] w2).drew).more (by simp),_,MK.stays _ _ HS2.out.mkr (mR.drew)⟩
   have HLB:Hid (D'.length+1<=maxLen/\(D'.length+1)*40<=140737488355328):=by have h4:=HLL.out;have h5:=HIN.out;have h6:=HK.out;refine ⟨?_,?_⟩;unfold maxLen;omega;omega
   have HKI:Hid (I64 kd):=by have:=HKD.out;exact I64.of (by omega) (by omega)
   refine Sw.wp_region_sw (I:=MkJ m sv l (f.withLk (.slice ol D'.length cl)) (Value.slice ol D'.length cl).ownBlock.toList w2) (F0:=L1St w m sv l f (.slice ol D'.length cl) D' (.slice oc C'.length cc) C' st1) MkJ.then 13 [(0,none),(1,none),(2,none),(3,none),(4,none),(5,none),(6,none),(7,none),(8,some (Rg.Know (L1St w m sv l f (.slice ol D'.length cl) D' (.slice oc C'.length cc) C' st2) (.int .i64 z))),(9,none),(10,none),(11,some (NewAnd w2.heap.size #[.int .i64 kd,.bool (z == 0),.slice none 0 0] 57 1 (L1St w m sv l f (.slice ol D'.length cl) D' (.slice oc C'.length cc) C' st2))),(12,some (L1Q w m sv l f (.slice ol D'.length cl) (D'++[⟨kd,z == 0,[]⟩]) (.slice oc C'.length cc) C' st2))] (by kernel_rfl) (by kernel_rfl) (Sq.nodup_of (by kernel_rfl)) ?hTS147 HI0 L1St.stays (L1St.stays _ _ HS2.out (mR.drew)) ?mainS147
   case hTS147 =>
    intro p hp T hT v;simp only [List.mem_cons,List.not_mem_nil,or_false] at hp;rcases hp with rfl | rfl | rfl | rfl | rfl | rfl | rfl | rfl | rfl | rfl | rfl | rfl | rfl <;> first | (cases hT;done) | (cases hT;first | exact L1Q.stays _ | exact NewAnd.stays L1St.stays _ | exact Rg.know_stays L1St.stays _ _)
   iterate 8 refine Sw.vv HI0 ?_
   refine Sw.xx (fun w' hw' hF K Q hK=>?_) (fun kv hkv=>?_)
   ·go_wp2_with fail;refine (CZ.out w' hF.mkr).mono ?_;rintro e w'' ⟨rfl,K',M'⟩;go_wp2;exact hK _ _ ⟨hw'.1.then (M'.more (by simp)),_,K'⟩ ⟨rfl,hF.call K' M'⟩
   obtain ⟨_,_,rfl,_⟩:=hkv
   iterate 2 refine Sw.vv HI0 ?_
   refine Sw.xx (fun w' hw' hF K Q hK=>?_) (fun kv hkv=>?_)
   ·go_wp2;exact hK _ _ (MkJ.then _ _ hw' (mR.alloc _)) ⟨⟨_,rfl,hw'.1.size,Blk.new _ _ _⟩,L1St.stays _ _ hF.2 (mR.alloc _)⟩
   obtain ⟨_,_,⟨nb,rfl,hnb,_⟩,_⟩:=hkv;refine Sw.xx (fun w' hw' hF K Q hK=>?_) (fun kv hkv=>?_)
   ·obtain ⟨⟨b9,he9,-,hB⟩,hO⟩:=hF;cases he9;refine oper_push (v:=.slice ol D'.length cl) (k:=3) (e:=57) (base:=w.heap.size) (l:=D') (l':=[⟨kd,z == 0,[]⟩]) rfl _ _ 26 rfl t0 _ 40 Tryz.underlying26 ti tz0 tz1 tz2 rfl (by decide) SLk0.stay SLk0.weak rfl hO.gl ⟨nb,0,none⟩ _ _ [[.int .i64 kd,.bool (z == 0),.slice none 0 0]] rfl rfl (Elems.one rfl ⟨rfl,HKI.out,rfl⟩) (fun j u hu=>blk_news hB rfl hu) (by simp [Value.oneCell']) HLB.out.1 HLB.out.2 hO.mod.size (fun v' w'' hGP hgr _=>?_);obtain ⟨ov',cv',rfl⟩:=hGP.form;exact hK _ _ (hw'.grew hgr (hO.push hGP hgr).mkr) ⟨⟨ov',cv',rfl⟩,hO.push hGP hgr⟩
   obtain ⟨_,_,⟨ov,cv,rfl⟩,_⟩:=hkv;refine Sw.nil_go ?_;intro w' hw' hF;simp only [qS,qZ];obtain ⟨⟨ov2,cv2,he9⟩,hO⟩:=hF;cases he9;have hnl:(D'++[(⟨kd,z == 0,[]⟩:DLookup)]).length=D'.length+1:=by simp
   rw [hnl] at hO ⊢;have HNL:=Hi hnl;have c5:w'.cell? ⟨m,5,none⟩=some (.slice ol D'.length cl):=hO.mkr.blk.cell 5;have f5:=hO.mkr.blk.frozen 5;have HS3:=Hi hO.store;clear hO hw' HS2 B5 CZ hnl HI0;go_upto_region 7 with fail;generalize w'.setCell ⟨m,5,none⟩ (.slice ov (D'.length+1) cv)=w3 at *
   clear c5 f5
   by_cases h4:kd<=4
   case neg =>
    have k3:decide (kd<=4)=false:=dF h4;rw [if_neg h4] at HD;clear h4;go_wp2;go_roundg (gk - 1)
    case measure=>have:=hi5.out;have:=HIN.out;omega
    case rel =>
     refine ⟨i+1,D'++[⟨kd,z == 0,[]⟩],C',st2,ov,oc,cv,cc,rfl,by rw [Int.natCast_add];rfl,?_,?_,?_,by rw [HNL.out];exact HS3.out⟩
     ·have:=hi5.out;have:=HIN.out;show i+1+(gk - 1)=K;omega
     ·show Mk.rep (i+1) lk1F ([],[]) s1=_;rw [Mk.rep_next HR.out];exact HD.out
     ·have:=HLL.out;refine ⟨?_,?_⟩
      ·show (D'++[(_:DLookup)]).length=i+1;rw [HNL.out];omega
      ·show C'.length<=i+1;omega
   have k3:decide (kd<=4)=true:=dT h4;rw [if_pos h4] at HD;have al:Mod [] w3 (w3.alloc (.cells #[.int .i64 (i:Int)] 3)):=mR.alloc _;have HS4:=Hi (L1St.stays _ _ HS3.out al);clear h4 HS3 al;go_wp2_with (at_builtin;refine wpList_push (k:=1) (e:=3) (base:=w.heap.size) (l:=C') (l':=[(i:Int)]) rfl _ _ 22 rfl i0 _ 8 Tryz.underlying22 ii iz0 iz1 iz2 rfl (by decide) SInt.stay SInt.weak rfl HS4.out.gc ⟨w3.heap.size,0,none⟩ _ _ [[.int .i64 (i:Int)]] rfl rfl (Elems.one rfl ⟨rfl,?_⟩) (fun j u hu=>blk_news (Blk.new w3 #[.int .i64 (i:Int)] 3) rfl hu) (by simp [Value.oneCell']) ?_ ?_ ?_ ?_)
   ·exact I64.of (by omega) (by have:=HK.out;have:=HIN.out;omega)
   ·have h4:=HLL.out;have h5:=HIN.out;have h6:=HK.out;unfold maxLen;simp;omega
   ·have h4:=HLL.out;have h5:=HIN.out;have h6:=HK.out;simp;omega
   ·exact HS4.out.mod.size
   intro v' w5 hGP hgr _;obtain ⟨oc',cc',rfl⟩:=hGP.form;have hnl:(C'++[(i:Int)]).length=C'.length+1:=by simp
   have HCL:=Hi hnl;have HS5:=Hi (HS4.out.pushC hGP hgr);clear hGP hgr HS4 hnl;go_wp2;go_roundg (gk - 1)
   case measure=>have:=hi5.out;have:=HIN.out;omega
   case rel =>
    refine ⟨i+1,D'++[⟨kd,z == 0,[]⟩],C'++[(i:Int)],st2,ov,oc',cv,cc',rfl,by rw [Int.natCast_add];rfl,?_,?_,?_,by rw [HNL.out];exact HS5.out⟩
    ·have:=hi5.out;have:=HIN.out;show i+1+(gk - 1)=K;omega
    ·show Mk.rep (i+1) lk1F ([],[]) s1=_;rw [Mk.rep_next HR.out];exact HD.out
    ·have:=HLL.out;refine ⟨?_,?_⟩
     ·show (D'++[(_:DLookup)]).length=i+1;rw [HNL.out];omega
     ·show (C'++[(i:Int)]).length<=i+1;rw [HCL.out];omega
 case rest =>
  obtain ⟨ol,oc,cl,cc,rfl,HS1⟩:=hcut;clear HS0 H2;go_upto_block 2 with fail
  by_cases hK0:K=0
  ·subst hK0;have hD0:D=[]:=List.eq_nil_of_length_eq_zero HDC.out.1;subst hD0;obtain ⟨rfl,rfl⟩:L=[]/\rs=s2:=by have h9:=HE.out;rw [List.length_nil,Mk.rep_zero] at h9;exact ⟨(congrArg Prod.fst h9).symm,(congrArg Prod.snd h9).symm⟩
   have HS2:Hid (SRows 3 SLookup (fun b=>w.heap.size<=b) wc (.slice ol 0 cl) []/\MK m sv l (f.withLk (.slice ol 0 cl)) rs wc/\Mod [m] w wc):=⟨⟨ol,cl,rfl,Nat.zero_le _,fun i h=>absurd h (Nat.not_lt_zero i)⟩,HS1.out.mkr,HS1.out.mod⟩
   clear HS1;go_wp2_with fail
   go_loopg [6] 0 (fun gk v6 wr=>v6=.int .i64 0/\Hid (SRows 3 SLookup (fun b=>w.heap.size<=b) wr (.slice ol 0 cl) []/\MK m sv l (f.withLk (.slice ol 0 cl)) rs wr/\Mod [m] w wr))
   case atStart=>exact ⟨rfl,HS2.out⟩
   case round =>
    obtain ⟨rfl,HS3⟩:=hrel;clear HS2;go_wp2_with fail;refine bodyPost_end (results_none rfl _ _ _) rfl ?_;exact ⟨.slice ol 0 cl,rfl,HS3.out⟩
  obtain ⟨g,cap,hvl,hST⟩:=LkSt.start HS1.out (by have:=HDC.out.1;omega) (by have:=HDC.out.1;have:=HK.out;omega);obtain ⟨f2,hf2⟩:∃ f2,f2=f.withLk (.slice ol D.length cl):=⟨_,rfl⟩
  have HF2:Hid (f2.gl=.slice og n cg/\f2.lk=.slice (some ⟨g,0,none⟩) D.length cap/\f2=f.withLk (.slice (some ⟨g,0,none⟩) D.length cap)):=by rw [hf2,hvl];exact ⟨HGL.out,rfl,rfl⟩
  rw [<- hf2] at hST;obtain ⟨B1,hB1⟩:∃ B1,B1=wc.heap.size:=⟨_,rfl⟩
  rw [<- hB1] at hST;have HS2:Hid (LkSt w m sv l f2 g B1 B1 D [] nilV (.slice oc C.length cc) C s2 wc):=hST;have HDL:Hid (D.length=K/\K<=6):=⟨HDC.out.1,by have:=HK.out;show K<=6;omega⟩
  have CN2:=Hi (fun st x st' n h1 h2 e=>next_at m sv l f2 st n h1 h2 (r:=x) (s':=st') e);have CRL:=Hi (fun st kd h1 h2 q st' e=>rule_at m sv l f2 st n HN.out.1 HN.out.2 HF2.out.1 kd h1 h2 C (by have:=HDC.out.2.1;have:=HK.out;omega) (oc:=oc) (cc:=cc) (rg:=q) (rs:=st') e);clear hf2 hvl hST HS1 hK0 HK CN hB1;go_wp2_with fail
  go_loopg [6] K (fun gk v6 wr=>∃ (E:List DLookup) (st:Mk.S) (B:Nat),v6=.int .i64 (E.length:Int)/\Hid (E.length+gk=K)/\Hid (Mk.rep E.length (lk2F n D C) [] s2=(E,st))/\Hid (LkSt w m sv l f2 g B1 B D E nilV (.slice oc C.length cc) C st wr))
  case atStart=>exact ⟨[],s2,B1,rfl,by show 0+K=K;omega,rfl,HS2.out⟩
  case round =>
   obtain ⟨E,st,B,rfl,hi5,HR,HS⟩:=hrel;clear HS2
   by_cases hin:E.length<K
   case neg =>
    have k1:decide ((E.length:Int)<(K:Int))=false:=dF (by omega);have k2:¬ (E.length:Int)<(K:Int):=by omega
    have hEK:E.length=K:=by have:=hi5.out;omega
    obtain ⟨rfl,rfl⟩:E=L/\st=rs:=by have h9:=HE.out;have h8:=HR.out;rw [HDL.out.1,<- hEK,h8] at h9;simpa using h9
    have HFIN:Hid (SRows 3 SLookup (fun b=>w.heap.size<=b) wr (.slice (some ⟨g,0,none⟩) E.length cap) E/\MK m sv l (f.withLk (.slice (some ⟨g,0,none⟩) E.length cap)) st wr/\Mod [m] w wr):=by
     have h3:=HF2.out.2.2;have h4:=HDL.out.1;refine ⟨HS.out.fin (hEK.trans h4.symm),?_,HS.out.mod⟩;rw [hEK,<- h4,<- h3];exact HS.out.mkr
    clear HS hEK;go_wp2_with fail;refine bodyPost_end (results_none rfl _ _ _) rfl ?_
    first | exact ⟨.slice (some ⟨g,0,none⟩) E.length cap,rfl,HFIN.out⟩ | exact ⟨rfl,.slice (some ⟨g,0,none⟩) E.length cap,HFIN.out⟩
   have k1:decide ((E.length:Int)<(K:Int))=true:=dT (by omega);have k2:(E.length:Int)<(K:Int):=by omega
   have hDl:E.length<D.length:=by have:=HDL.out.1;omega
   have k3:(0:Int)<=(E.length:Int):=by omega
   have k4:(E.length:Int)<(D.length:Int):=by omega
   have ei:IntKind.i64.wrap ((E.length:Int)+1)=(E.length:Int)+1:=wrapi (by omega) (by have:=HDL.out.2;omega);obtain ⟨d,hd⟩:∃ d,d=D[E.length]:=⟨_,rfl⟩
   have hd9:D[E.length]?=some d:=by rw [hd];exact gE hDl
   have hc:=HS.out.cells hDl;rw [<- hd] at hc;have HDM:=Hi (HDC.out.2.2 d (by rw [hd];exact List.getElem_mem hDl));have b5:wr.cell? ⟨m,5,none⟩=some (.slice (some ⟨g,0,none⟩) D.length cap):=(HS.out.mkr.blk.cell 5).trans (congrArg some HF2.out.2.1);have a0:wr.cell? ⟨g,E.length*3,none⟩=some (.int .i64 d.kind):=hc.1;have HDL2:=Hi hDl;have HD9:=Hi hd9;have HDD:Hid (D[E.length]'hDl=d):=hd.symm;clear hd hd9 hc hin;obtain ⟨i,hi⟩:∃ i,i=E.length:=⟨_,rfl⟩
   rw [<- hi] at k1 k2 k3 k4 ei a0 ⊢;have HI:=Hi hi;clear hi
   by_cases h7:7<=d.kind
   ·have k7:decide (7<=d.kind)=true:=dT h7;have HNX:Hid (lk2F n D C E.length E st=(E++[⟨d.kind,d.ignore,[]⟩],st)):=by
     unfold lk2F;rw [HD9.out];show (if 7<=d.kind then _ else _)=_;rw [if_pos h7];obtain ⟨dk,di,dr⟩:=d;have:dr=[]:=HDM.out.2.2;subst this;rfl
    have hS2:=HS.out.next HDL2.out Grow.nil;rw [HDD.out] at hS2;have HS2:=Hi hS2;clear hS2 HS h7;go_wp2;go_roundg (gk - 1)
    case measure=>have:=hi5.out;have:=HDL2.out;have:=HDL.out.1;omega
    case rel =>
     refine ⟨E++[(⟨d.kind,d.ignore,[]⟩:DLookup)],st,_,?_,?_,?_,HS2.out⟩
     ·rw [List.length_append,HI.out];rfl
     ·have:=hi5.out;have:=HDL2.out;have:=HDL.out.1;show (E++[(_:DLookup)]).length+(gk - 1)=K;rw [List.length_append];simp;omega
     ·show Mk.rep (E++[(_:DLookup)]).length (lk2F n D C) [] s2=_;rw [List.length_append];show Mk.rep (E.length+1) (lk2F n D C) [] s2=_;rw [Mk.rep_next HR.out];exact HNX.out
   have k7:decide (7<=d.kind)=false:=dF h7;obtain ⟨kk,s3,h3⟩:∃ a b,Mk.next 3 st=(a,b):=⟨_,_,rfl⟩
   have ikk:=next_in (by decide) h3;obtain ⟨M,hM⟩:∃ M:Nat,1+kk=(M:Int):=⟨(1+kk).toNat,by omega⟩
   have ek:IntKind.i64.wrap (1+kk)=(M:Int):=by rw [wrapi (by omega) (by omega)];exact hM
   obtain ⟨RR,s4,h4⟩:∃ a b,Mk.rep M (lkRF n d.kind C) [] s3=(a,b):=⟨_,_,rfl⟩
   have HNX:Hid (lk2F n D C E.length E st=(E++[⟨d.kind,d.ignore,RR⟩],s4)):=by
    unfold lk2F;rw [HD9.out];show (if 7<=d.kind then _ else _)=_;rw [if_neg h7,Mk.bind_eq h3,hM,Int.toNat_natCast,Mk.bind_eq h4]
   have HM:Hid (M<=3):=by show M<=3;omega
   have HKI:Hid (1<=d.kind/\d.kind<=6):=⟨HDM.out.1,by omega⟩
   have H4:=Hi h4;have C3:=Hi (CN2.out st kk s3 3 (by decide) (by decide) h3 wr HS.out.mkr);clear h3 h4 h7 ikk hM;go_wp2_with fail;refine C3.out.mono ?_;rintro e w3 ⟨rfl,K3,M3⟩;have HS3:=Hi (HS.out.call K3 M3);clear K3 M3 HS C3 b5 a0;go_wp2_with fail;generalize gk=G at *
   go_loopg [8] M (fun gj v8 ws=>∃ (j:Nat) (R:List DRule) (su:Mk.S) (ov:Option Addr) (cv:Nat),v8=.int .i64 (j:Int)/\Hid (j+gj=M)/\Hid (Mk.rep j (lkRF n d.kind C) [] s3=(R,su))/\Hid (R.length=j)/\Hid (LkP w m sv l f2 g B1 B D E (.slice ov R.length cv) (.slice oc C.length cc) C su R (.slice ov R.length cv) ws))
   case atStart=>exact ⟨0,[],s3,none,0,rfl,by show 0+M=M;omega,rfl,rfl,⟨⟨none,0,rfl⟩,HS3.out,Grow.nil⟩⟩
   case round =>
    obtain ⟨j,R,su,ov,cv,rfl,hj5,HR2,HRL,HS⟩:=hrel;clear HS3
    by_cases hjm:j<M
    case neg =>
     obtain rfl:j=M:=by have:=hj5.out;omega
     have k8:decide ((j:Int)<(j:Int))=false:=dF (by omega);obtain ⟨rfl,rfl⟩:R=RR/\su=s4:=by have h9:=H4.out;rw [HR2.out] at h9;simpa using h9
     have hS2:=HS.out.2.1.next HDL2.out HS.out.2.2;rw [HDD.out] at hS2;have HS2:=Hi hS2;clear hS2 HS hjm;go_wp2;go_roundg (G - 1)
     case measure=>have:=hi5.out;have:=HDL2.out;have:=HDL.out.1;omega
     case rel =>
      refine ⟨E++[(⟨d.kind,d.ignore,R⟩:DLookup)],su,_,?_,?_,?_,HS2.out⟩
      ·rw [List.length_append,HI.out];rfl
      ·have:=hi5.out;have:=HDL2.out;have:=HDL.out.1;show (E++[(_:DLookup)]).length+(G - 1)=K;rw [List.length_append];simp;omega
      ·show Mk.rep (E++[(_:DLookup)]).length (lk2F n D C) [] s2=_;rw [List.length_append];show Mk.rep (E.length+1) (lk2F n D C) [] s2=_;rw [Mk.rep_next HR.out];exact HNX.out
    have k8:decide ((j:Int)<(M:Int))=true:=dT (by omega);have k9:(j:Int)<(M:Int):=by omega
    have ej:IntKind.i64.wrap ((j:Int)+1)=(j:Int)+1:=wrapi (by omega) (by have:=HM.out;omega);obtain ⟨x,su1,hx⟩:∃ a b,Mk.rule n d.kind C su=(a,b):=⟨_,_,rfl⟩
    have CX:=Hi (CRL.out su d.kind HKI.out.1 HKI.out.2 x su1 hx);have HX:Hid (lkRF n d.kind C j R su=(R++[x],su1)):=by unfold lkRF;rw [Mk.bind_eq hx];exact rfl
    have HJM:=Hi hjm;have BG:∀ W,MkJ m sv l f2 (Value.slice ov R.length cv).ownBlock.toList wr W->W.cell? ⟨g,i*3+2,none⟩=some (.slice ov R.length cv)/\W.cell? ⟨g,i*3,none⟩=some (.int .i64 d.kind):=fun W k=>by
     have h1:=HS.out.2.1.cells HDL2.out;rw [HDD.out,<- HI.out] at h1;have hgm:g ∉ m::(Value.slice ov R.length cv).ownBlock.toList:=fun hg=>by
      have h5:=HS.out.2.1.ord;rcases List.mem_cons.1 hg with hg | hg
      ·omega
      ·have:=(HS.out.2.2.lt g (by simpa using hg)).1;omega
     exact ⟨(k.1.cell (p:=⟨g,i*3+2,none⟩) (cell_lt h1.2.1) hgm).trans h1.2.1,(k.1.cell (p:=⟨g,i*3,none⟩) (cell_lt h1.1) hgm).trans h1.1⟩
    have BZ:∀ W,MkJ m sv l f2 (Value.slice ov R.length cv).ownBlock.toList wr W->W.cell? ⟨g,i*3+2,none⟩=some (.slice ov R.length cv):=fun W k=>(BG W k).1
    have BK:∀ W,MkJ m sv l f2 (Value.slice ov R.length cv).ownBlock.toList wr W->W.cell? ⟨g,i*3,none⟩=some (.int .i64 d.kind):=fun W k=>(BG W k).2
    have B5:∀ W,MkJ m sv l f2 (Value.slice ov R.length cv).ownBlock.toList wr W->W.cell? ⟨m,5,none⟩=some (.slice (some ⟨g,0,none⟩) D.length cap):=fun W k=>k.2.elim fun _ h9=>(h9.blk.cell 5).trans (congrArg some HF2.out.2.1)
    have HI0:MkJ m sv l f2 (Value.slice ov R.length cv).ownBlock.toList wr wr.drew:=⟨((Mod.refl [] wr).drew).more (by simp),_,MK.stays _ _ HS.out.2.1.mkr (mR.drew)⟩
    have HLB:Hid (R.length+1<=maxLen/\(R.length+1)*128<=140737488355328):=by have h4:=HRL.out;have h5:=HJM.out;have h6:=HM.out;refine ⟨?_,?_⟩;unfold maxLen;omega;omega
    clear hx hjm BG;go_upto_region 17 with fail;refine Sw.wp_region_sw (I:=MkJ m sv l f2 (Value.slice ov R.length cv).ownBlock.toList wr) (F0:=LkP w m sv l f2 g B1 B D E (.slice ov R.length cv) (.slice oc C.length cc) C su R (.slice ov R.length cv)) MkJ.then 29 [(0,none),(1,none),(2,none),(3,none),(4,none),(5,none),(6,none),(7,none),(8,none),(9,none),(10,none),(11,none),(12,none),(13,none),(14,none),(15,none),(16,none),(17,none),(18,none),(19,none),(20,none),(21,none),(22,none),(23,none),(24,none),(25,none),(26,some (RuleAnd (fun b=>B<=b/\(Value.slice ov R.length cv).ownBlock≠some b) x (LkP w m sv l f2 g B1 B D E (.slice ov R.length cv) (.slice oc C.length cc) C su1 R (.slice ov R.length cv)))),(27,some (NewRule wr.heap.size (fun b=>B<=b/\(Value.slice ov R.length cv).ownBlock≠some b) x (LkP w m sv l f2 g B1 B D E (.slice ov R.length cv) (.slice oc C.length cc) C su1 R (.slice ov R.length cv)))),(28,some (LkP w m sv l f2 g B1 B D E (.slice ov R.length cv) (.slice oc C.length cc) C su1 (R++[x])))] (by kernel_rfl) (by kernel_rfl) (Sq.nodup_of (by kernel_rfl)) ?hTS453 HI0 (LkP.stays _) (LkP.stays _ _ _ HS.out (mR.drew)) ?mainS453
    case hTS453 =>
     intro p hp T hT v;simp only [List.mem_cons,List.not_mem_nil,or_false] at hp;rcases hp with rfl | rfl | rfl | rfl | rfl | rfl | rfl | rfl | rfl | rfl | rfl | rfl | rfl | rfl | rfl | rfl | rfl | rfl | rfl | rfl | rfl | rfl | rfl | rfl | rfl | rfl | rfl | rfl | rfl <;> first | (cases hT;done) | (cases hT;first | exact LkP.stays _ | exact NewRule.stays (LkP.stays _) _ | exact RuleAnd.stays (LkP.stays _) _)
    iterate 26 refine Sw.vv HI0 ?_
    refine Sw.xx (fun w' hw' hF K Q hK=>?_) (fun kv hkv=>?_)
    ·go_wp2_with fail;refine (CX.out w' hF.2.1.mkr hF.2.1.calm).mono ?_;rintro e w'' ⟨cs,rfl,⟨v0,v1,v2,v3,v4,rfl,hv⟩,K',M'⟩;go_wp2;exact hK _ _ ⟨hw'.1.then (M'.more (by simp)),_,K'⟩ ⟨⟨v0,v1,v2,v3,v4,rfl,hF.newRule ⟨v0,v1,v2,v3,v4,rfl,hv⟩⟩,hF.call K' M'⟩
    obtain ⟨_,_,⟨v0,v1,v2,v3,v4,rfl,_⟩,_⟩:=hkv;refine Sw.xx (fun w' hw' hF K Q hK=>?_) (fun kv hkv=>?_)
    ·go_wp2_with fail;obtain ⟨⟨u0,u1,u2,u3,u4,he,hS⟩,hO⟩:=hF;cases he;exact hK _ _ (MkJ.then _ _ hw' (mR.alloc _)) ⟨_,_,_,_,_,_,rfl,hw'.1.size,Blk.new _ _ _,SRule.stay _ _ _ _ _ hS (((Mod.refl [] _).alloc _).same0 _),LkP.stays _ _ _ hO (mR.alloc _)⟩
    obtain ⟨_,_,nb,u0,u1,u2,u3,u4,rfl,_⟩:=hkv;refine Sw.xx (fun w' hw' hF K Q hK=>?_) (fun kv hkv=>?_)
    ·obtain ⟨b9,u0,u1,u2,u3,u4,he9,-,hB,hS,hO⟩:=hF;cases he9;refine oper_push (v:=.slice ov R.length cv) (k:=6) (e:=54) (base:=B) (l:=R) (l':=[x]) rfl _ _ 55 rfl q0 _ 128 Tryz.underlying55 qi qz0 qz1 qz2 rfl (by decide) SRule.stay SRule.weak rfl hO.2.2 ⟨nb,0,none⟩ _ _ [[u0,u1,u2,u3,u4,.int .i64 x.x]] rfl rfl (Elems.one rfl hS) (fun j u hu=>blk_news hB rfl hu) (rule_one hS) HLB.out.1 HLB.out.2 hO.2.1.ord.2.2.2.2 (fun v' w'' hGP hgr _=>?_);obtain ⟨ov',cv',rfl⟩:=hGP.form;exact hK _ _ (hw'.grew hgr (hO.push hGP hgr).2.1.mkr) (hO.push hGP hgr)
    obtain ⟨_,_,⟨ov2,cv2,rfl⟩,_⟩:=hkv;refine Sw.nil_go ?_;intro w' hw' hF;simp only [qS,qZ];have hnl:(R++[x]).length=R.length+1:=by simp
    have HNL:=Hi hnl;have hc:=(hF.2.1.cells HDL2.out).2;have hst:=hF.store HDL2.out;rw [<- HI.out] at hc hst;have gc:w'.cell? ⟨g,i*3+2,none⟩=some (.slice ov R.length cv):=hc.1;have gf:w'.frozen? ⟨g,i*3+2,none⟩=false:=hc.2;have HS5:=Hi hst;clear hc hst hF hw' hnl HS CX BZ BK B5 HI0;generalize hrl:(R++[x]).length=rl at *
    have HRL2:=Hi hrl;clear hrl;go_wp2;go_roundg (gk - 1)
    case measure=>have:=hj5.out;have:=HJM.out;omega
    case rel =>
     refine ⟨j+1,R++[x],su1,ov2,cv2,by rw [Int.natCast_add];rfl,?_,?_,?_,?_⟩
     ·have:=hj5.out;have:=HJM.out;show j+1+(gk - 1)=M;omega
     ·show Mk.rep (j+1) (lkRF n d.kind C) [] s3=_;rw [Mk.rep_next HR2.out];exact HX.out
     ·have:=HRL.out;show (R++[x]).length=j+1;simp;omega
     ·rw [HRL2.out];exact HS5.out
end Go.Proofs.YthheaflbbficgaaGreat
