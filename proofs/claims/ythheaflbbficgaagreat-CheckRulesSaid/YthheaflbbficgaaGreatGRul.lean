/- MkRow, MkRuleS, MkRule, MkLookS, MkLook. -/
import Derived.Test.YthheaflbbficgaaGreatGBase
import Derived.Test.YthheaflbbficgaaGreatGGly
import Derived.Test.YthheaflbbficgaaGreatGRing
import Derived.Deep.CutBlock
set_option linter.all false
namespace Go.Proofs.YthheaflbbficgaaGreat
set_option maxHeartbeats 8000000
open Go.RowKit
set_option maxRecDepth 100000
def xw (n:Int):Nat->List (List Int)->Mk.M (List (List Int)):=λ_ l s=>Mk.bind (Mk.set n s) λx s=>(l++[x],s)
theorem Mk.uO {n most k:Int} {s s1:Mk.S} (h:Mk.next (most+1) s=(k,s1)):Mk.row n most s=Mk.rep k.toNat (xw n) [] s1:=by unfold Mk.row;rw [Mk.ai h];rfl
theorem DT (m:Nat) (sv:Value) (l:List Int) (f:MF) (s:Mk.S) (n:Nat) (hn:0<n) (hn1:n<=100000) (most:Int) (hm:0<=most) (hm1:most<=100) {og:Option Addr} {cg:Nat} (hgl:f.gl=.slice og n cg) {rl:List (List Int)} {rs:Mk.S} (he:Mk.row n most s=(rl,rs)) (w:World) (h:MK m sv l f s w) :
  Calls Tryz.prog 135 #[.pointer (some ⟨m,0,none⟩),.int .i64 most] w λe w'=>∃ v,e=.returned v/\az 1 aM (λb=>w.heap.size<=b) w' v rl/\MK m sv l f rs w'/\Mod [m] w w':=by
 obtain ⟨k,s1,h1⟩:∃ a b,Mk.next (most+1) s=(a,b):=⟨_,_,rfl⟩
 rw [Mk.uO h1] at he;have C1:=Hi (bF m sv l f s (most+1) zo zo h1 w h);have i1:=ay zo h1;obtain ⟨K,rfl⟩:∃ K:Nat,k=K:=⟨k.toNat,by omega⟩
 have HK0:=Hi (show K<1000 by omega);rw [Int.toNat_natCast] at he;have HE:=Hi he;have CP:=Hi (λst x st' e=>uN m sv l f st n hn hn1 hgl (rl:=x) (rs:=st') e);have HMW:=Hi h.blk.lt;have em:IntKind.i64.wrap (most+1)=most+1:=IntWalk.i64_in _ zo;clear h1 he h i1 hn hn1 hm hm1;obtain ⟨i0,hi,hz0,hz1,hz2⟩:=info_parts j0;go_enter Tryz.func135,Tryz.ntmps135;go_wp2_with fail;refine C1.o.mono ?_;rintro e w1 ⟨rfl,K1,M1⟩;have HK:=Hi K1;have HM:=Hi M1;clear K1 M1 C1;go_wp2_with fail
 go_loopg [5,7] K (λgk v5 i7 wr=>∃ (i:Nat) (L:List (List Int)) (st:Mk.S) (oa:Option Addr) (cap:Nat),v5=.slice oa L.length cap/\i7=.int .i64 (i:Int)/\Hy (i+gk=K)/\Hy (Mk.rep i (xw n) [] s1=(L,st))/\Hy (L.length=i)/\Hy (MK m sv l f st wr/\Mod [m] w wr/\aH w.heap.size 22 1 aM (λb=>w.heap.size<=b) v5 L wr))
 case atStart=>exact ⟨0,[],s1,none,0,rfl,rfl,by show 0+K=K;omega,rfl,rfl,HK.o,HM.o,aH.nil⟩
 case round =>
  obtain ⟨i,L,st,oa,cap,rfl,rfl,hi5,HR,HL,HS⟩:=hrel;clear HK HM
  by_cases hin:i<K
  case neg =>
   obtain rfl:i=K:=by have:=hi5.o;omega
   have k1:=dF (p:=(i:Int)<i) zo;obtain ⟨rfl,rfl⟩:L=rl/\st=rs:=by have h9:=HE.o;rw [HR.o] at h9;simpa using h9
   go_wp2;go_ret;exact ⟨_,rfl,HS.o.2.2.done zd aM.weak (λ_ _ h=>h) (λb hb=>(HS.o.2.2.lt b hb).1),HS.o.1,HS.o.2.1⟩
  have k1:=dT (p:=(i:Int)<K) zo;have k2:(i:Int)<K:=zo;have ei:IntKind.i64.wrap ((i:Int)+1)=(i:Int)+1:=IntWalk.i64_in _ (by have:=HK0.o;omega);obtain ⟨x,st',hx⟩:∃ a b,Mk.set n st=(a,b):=⟨_,_,rfl⟩
  have HX:=Hi hx;have CX:=Hi (CP.o st x st' hx wr HS.o.1);have HIN:=Hi hin;clear hx hin;go_wp2_with fail;refine CX.o.mono ?_;rintro e w2 ⟨v,rfl,hv,K2,M2⟩;obtain ⟨ox,cx,rfl,-⟩:=hv.form;have HG:=Hi (HS.o.2.2.gW aM.stay M2 (by simpa using HMW.o) (λ_ h=>h));have HV:Hy (az 1 aF (λb=>w.heap.size<=b/\(Value.slice oa L.length cap).ownBlock≠some b) w2 (.slice ox x.length cx) x) :=
   hv.weak zd aF.weak λb _ hb=>⟨nT HS.o.2.1.size hb,λhe=>by have:=(HS.o.2.2.lt b he).2;omega⟩
  have HK2:=Hi K2;have HM2:=Hi (HS.o.2.1.then M2);clear hv K2 M2 HS CX;go_wp2_with (at_builtin;refine aO (k:=1) (e:=22) (base:=w.heap.size) (l:=L) (l':=[x]) rfl _ _ 49 rfl i0 _ 24 Tryz.underlying49 hi hz0 hz1 hz2 rfl zd aM.stay aM.weak rfl (HG.o.mod aM.stay (mR.alloc _)) ⟨w2.heap.size,0,none⟩ _ _ [[.slice ox x.length cx]] rfl rfl (aP.one rfl ⟨_,rfl,HV.o.mod aF.stay (mR.alloc _)⟩) ?_ zqb ?_ ?_ ?_ ?_)
  ·exact λj u hu=>bi (Blk.new w2 #[.slice ox x.length cx] 22) rfl hu
  ·have h1:=HL.o;have h3:=HK0.o;have h4:=HIN.o;unfold maxLen;simp;omega
  ·have h1:=HL.o;have h3:=HK0.o;have h4:=HIN.o;simp;omega
  ·have:=HM2.o.size;simp;omega
  intro v' w3 hG hgr _;obtain ⟨oa',c',rfl⟩:=hG.form;have HS3:Hy (MK m sv l f st' w3/\Mod [m] w w3/\aH w.heap.size 22 1 aM (λb=>w.heap.size<=b) (.slice oa' (L++[x]).length c') (L++[x]) w3):=by
   have hlt:=HG.o.lt;refine ⟨(MK.stays _ _ HK2.o (mR.alloc _)).grown hgr λg hg=>?_,(HM2.o.alloc _).grew hgr λg hg=>(hlt g hg).1,hG⟩;have:=(hlt g hg).1;have:=HMW.o;omega
  clear hG hgr HG HK2 HM2 HV;go_wp2;go_roundg (gk - 1)
  case measure=>have:=hi5.o;omega
  case rel =>
   refine ⟨i+1,L++[x],st',oa',c',rfl,by rw [Int.natCast_add];rfl,?_,?_,?_,HS3.o⟩
   ·have:=hi5.o;have:=HIN.o;show i+1+(gk - 1)=K;omega
   ·show Mk.rep (i+1) (xw n) [] s1=_;rw [Mk.aR HR.o];unfold xw;rw [Mk.ai HX.o]
   ·have h1:=HL.o;show (L++[x]).length=i+1;rw [List.length_append];simp;omega
theorem az.elems {α:Type} {R:Bl->World->List Value->α->Prop} {S:Bl} {w:World} {a:Addr} {n c:Nat} {l:List α} (h:az 1 R S w (.slice (some a) n c) l) :
  ∃ css,aP 1 R S w css l/\∀ j u,css.flatten[j]?=some u->w.cell? (a.add j)=some u:=by
 have key:∀ i:Fin l.length,∃ x:Value,R S w [x] l[i]/\w.cell? (a.add i)=some x:=λi=>by
  obtain ⟨a',he,_,cs,hk,hc,-,hR⟩:=h.at i.1 i.2;cases he
  match cs,hk with
  | [x],_=>exact ⟨x,hR,by have:=hc zd;simpa using this⟩
 refine ⟨List.ofFn λi=>[(key i).choose],⟨by simp,λi h1 h2=>?_⟩,λj u hu=>?_⟩
 ·rw [List.getElem_ofFn];exact ⟨rfl,(key ⟨i,h2⟩).choose_spec.1⟩
 ·have e1:(List.ofFn λi=>[(key i).choose]).flatten=List.ofFn λi=>(key i).choose:=by
   have h1:∀ (q:List Value),(q.map λx=>[x]).flatten=q:=by intro q;induction q <;> simp_all
   rw [<- h1 (List.ofFn λi=>(key i).choose),List.map_ofFn];rfl
  rw [e1] at hu;rw [List.getElem?_ofFn] at hu
  split at hu
  ·rename_i hj;cases hu;exact (key ⟨j,hj⟩).choose_spec.2
  ·cases hu
theorem az.lw {α:Type} {k c:Nat} {n:Nat} {R:Bl->World->List Value->α->Prop} {S:Bl} {w:World} {l:List α} (h:az k R S w (.slice none n c) l):l=[]:=by
 cases l with
 | nil=>rfl
 | cons x r=>obtain ⟨a,he,_⟩:=h.at 0 zk;cases he
theorem qM {S:Bl} {w:World} {css:List (List Value)} {l:List (List Int)} (h:aP 1 aM S w css l):∀ u∈css.flatten,u.oneCell'=true:=by
 intro u hu;obtain ⟨cs,hcs,hu⟩:=List.mem_flatten.1 hu;obtain ⟨i,hi,rfl⟩:=List.getElem_of_mem hcs;obtain ⟨v,hv,hr⟩:=(h.2 i hi zph).2;rw [hv] at hu;obtain rfl:u=v:=by simpa using hu
 exact lR hr
theorem lB {P:Program} {α:Type} {base k:Nat} {e:TypeId} {R:Bl->World->List Value->α->Prop} {S:Bl} {l:List α} {v:Value} {w:World} {ops:Array Oper} {rest:List Oper} {o:Oper} {a:Act} {Q:Exit->Act->World->Prop} (hgd:o.guard=none) (s x:Operand) (t:TypeId)
  (ho:o.op=.call { callee:=.builtin .append,args:=#[s,x],argTypes:=#[t,t] }) (i:TypeInfo) (ht:P.underlying t=some (.slice e)) (hi:P.info? e=some i) (hs:a.eval s=v) (h:aH base e k R S v l w) (q:Nat) (hx:a.eval x=.slice none 0 q)
  (hK:wpList P ops Q rest (a.put o.dst v) w):wpList P ops Q (o::rest) a w:=by
 refine wpList_plain hgd λK hKK=>?_
 have hrun:(Builtin.append_ #[t,t] o.type #[v,.slice none 0 q]).run P w=.ok v w:=by
  obtain ⟨css,hown,_⟩:=h;rcases hown.2 with ⟨rfl,hn⟩ | ⟨g,cap,cur,rfl,_,_,hc,_⟩
  ·simp [Builtin.append_,run_underlying ht,sizeOf,typeInfo,hi,Builtin.lenOf,Builtin.firstCells]
  ·simp [Builtin.append_,run_underlying ht,sizeOf,typeInfo,hi,Builtin.lenOf,Builtin.firstCells,hc,storeCells]
 unfold Oper.wp execOp;simp only [ho,resolve,invoke,builtin,Sem.run_bind,Sem.run_pure,Result.andThen_ok,List.map_toArray,List.map_cons,List.map_nil,hs,hx,hrun];exact hKK _ _ hK
def ruC (vb vi va vo vc:Value) (x:Int):Array Value:=#[vb,vi,va,vo,vc,.int .i64 x]
structure RuA (W:World) (m:Nat) (sv:Value) (l:List Int) (f:MF) (rb ob:Nat) (c:Array Value) (vb vi va:Value) (back inn ahead:List (List Int)) (s:Mk.S) (w:World):Prop where
 mkr:MK m sv l f s w
 mod:Mod [m] W w
 rblk:Blk w rb (ruC ae ae ae ae ae 0) 54
 blk:Blk w ob c 54
 gi:aH (ob+1) 22 1 aM (λb=>ob<b) vi inn w
 hb:az 1 aM (λb=>ob<b/\vi.ownBlock≠some b) w vb back
 ha:az 1 aM (λb=>ob<b/\vi.ownBlock≠some b) w va ahead
 ord:m<W.heap.size/\W.heap.size<=rb/\rb<ob/\ob<w.heap.size
section
variable {W:World} {m:Nat} {sv:Value} {l:List Int} {f:MF} {rb ob:Nat} {c:Array Value} {vb vi va:Value} {back inn ahead:List (List Int)} {s s':Mk.S} {w w':World}
theorem RuA.stays:aG (RuA W m sv l f rb ob c vb vi va back inn ahead s):=λw w' h k =>
 ⟨MK.stays _ _ h.mkr k,h.mod.then (k.more zk),h.rblk.kept k zk,h.blk.kept k zk,h.gi.mod aM.stay k,h.hb.mod aM.stay k,h.ha.mod aM.stay k,h.ord.1,h.ord.2.1,h.ord.2.2.1,Nat.lt_of_lt_of_le h.ord.2.2.2 k.size⟩
theorem RuA.call (h:RuA W m sv l f rb ob c vb vi va back inn ahead s w) (k:MK m sv l f s' w') (k2:Mod [m] w w'):RuA W m sv l f rb ob c vb vi va back inn ahead s' w':=by
 have h1:=h.ord;have h2:∀ (S:Bl),(∀ b,S b->ob<b)->bC S w w':=λS hS=>k2.jM (by intro x hx hs;simp at hx;have:=hS x hs;omega)
 exact ⟨k,h.mod.then k2,h.rblk.kept k2 zqa,h.blk.kept k2 zqa,h.gi.gW aM.stay k2 zqa (λb hb=>hb),h.hb.same aM.stay (h2 _ λ_ h=>h.1),h.ha.same aM.stay (h2 _ λ_ h=>h.1),h1.1,h1.2.1,h1.2.2.1,Nat.lt_of_lt_of_le h1.2.2.2 k2.size⟩
theorem RuA.set (h:RuA W m sv l f rb ob c vb vi va back inn ahead s w) (i:Nat) (x:Value):RuA W m sv l f rb ob (c.setIfInBounds i x) vb vi va back inn ahead s (w.setCell ⟨ob,i,none⟩ x):=by
 have h1:=h.ord
 exact ⟨h.mkr.set (by show m<ob;omega) _,h.mod.eT (p:=⟨ob,i,none⟩) zpa _,h.rblk.other (by show ob≠rb;omega) _,h.blk.set i x,
  h.gi.set aM.stay (λhb=>by have:=(h.gi.lt _ hb).1;simp at this;omega) zk _,h.hb.same aM.stay (bC.set w zk _),h.ha.same aM.stay (bC.set w zk _),h1.1,h1.2.1,h1.2.2.1,by simpa using h1.2.2.2⟩
theorem RuA.newRow {v:Value} {r:List (List Int)} (h:RuA W m sv l f rb ob c vb vi va back inn ahead s w) (hS:az 1 aM (λb=>w.heap.size<=b) w' v r):az 1 aM (λb=>ob<b/\vi.ownBlock≠some b) w' v r :=
 hS.weak zd aM.weak λb _ hb=>⟨by have:=h.ord;omega,λhe=>by have:=(h.gi.lt b he).2;omega⟩
theorem RuA.DW {v:Value} {r:List Int} (h:RuA W m sv l f rb ob c vb vi va back inn ahead s w) (hS:az 1 aF (λb=>w.heap.size<=b) w' v r):az 1 aF (λb=>ob<b/\vi.ownBlock≠some b) w' v r :=
 hS.weak zd aF.weak λb _ hb=>⟨by have:=h.ord;omega,λhe=>by have:=(h.gi.lt b he).2;omega⟩
theorem RuA.Ed {v:Value} {r:List (List Int)} (h:RuA W m sv l f rb ob c vb vi va back inn ahead s w) (hS:az 1 aM (λb=>ob<b/\vi.ownBlock≠some b) w v r):RuA W m sv l f rb ob c v vi va r inn ahead s w:=⟨h.mkr,h.mod,h.rblk,h.blk,h.gi,hS,h.ha,h.ord⟩
theorem RuA.Dr {v:Value} {r:List (List Int)} (h:RuA W m sv l f rb ob c vb vi va back inn ahead s w) (hS:az 1 aM (λb=>ob<b/\vi.ownBlock≠some b) w v r):RuA W m sv l f rb ob c vb vi v back inn r s w:=⟨h.mkr,h.mod,h.rblk,h.blk,h.gi,h.hb,hS,h.ord⟩
theorem RuA.push {r:List (List Int)} {v':Value} (h:RuA W m sv l f rb ob c vb vi va back inn ahead s w) (hG:aH (ob+1) 22 1 aM (λb=>ob<b) v' (inn++r) w') (k:w.grownBy w' vi.ownBlock) (hbk:v'.ownBlock=vi.ownBlock∨v'.ownBlock=some w.heap.size) :
  RuA W m sv l f rb ob (c.setIfInBounds 1 v') vb v' va back (inn++r) ahead s (w'.setCell ⟨ob,1,none⟩ v'):=by
 have h1:=h.ord;have h3:=h.gi.lt;have h2:∀ {v:Value} {q:List (List Int)},az 1 aM (λb=>ob<b/\vi.ownBlock≠some b) w v q->az 1 aM (λb=>ob<b/\v'.ownBlock≠some b) w' v q:=λhq =>
  (hq.weak zd aM.weak (S':=λb=>(ob<b/\v'.ownBlock≠some b)/\vi.ownBlock≠some b) λb hb hs=>⟨⟨hs.1,λhe=>by rcases hbk with hbk | hbk;exact hs.2 (hbk ▸ he);rw [hbk] at he;simp at he;omega⟩,hs.2⟩).same aM.stay (bC.grown k λb hb hs=>hs.2 hb) |>.weak zd aM.weak λb _ hs=>hs.1
 have hA:RuA W m sv l f rb ob c vb v' va back (inn++r) ahead s w' :=
  ⟨h.mkr.grown k λb hb=>by have:=(h3 b hb).1;omega,h.mod.grew k λb hb=>by have:=(h3 b hb).1;omega,h.rblk.grew k λhb=>by have:=(h3 _ hb).1;omega,h.blk.grew k λhb=>by have:=(h3 _ hb).1;omega,hG,h2 h.hb,h2 h.ha,h1.1,h1.2.1,h1.2.2.1,Nat.lt_of_lt_of_le h1.2.2.2 k.size⟩
 exact hA.set 1 v'
end
structure jR (S:Bl) (w:World) (vb vi va vo vc:Value) (d:aN):Prop where
 back:az 1 aM S w vb d.back
 ins:az 1 aM S w vi d.ins
 ahead:az 1 aM S w va d.ahead
 o:az 1 aF S w vo d.o
 calls:az 2 dM S w vc d.calls
section
variable {S S':Bl} {w w':World} {d:aN} {vb vi va vo vc:Value}
theorem jR.same (h:jR S w vb vi va vo vc d) (m:bC S w w'):jR S w' vb vi va vo vc d:=⟨h.back.same aM.stay m,h.ins.same aM.stay m,h.ahead.same aM.stay m,h.o.same aF.stay m,h.calls.same dM.stay m⟩
theorem jR.weak (h:jR S w vb vi va vo vc d) (k:∀ b,b<w.heap.size->S b->S' b):jR S' w vb vi va vo vc d:=⟨h.back.weak zd aM.weak k,h.ins.weak zd aM.weak k,h.ahead.weak zd aM.weak k,h.o.weak zd aF.weak k,h.calls.weak zd dM.weak k⟩
end
structure ee (W:World) (m:Nat) (sv:Value) (l:List Int) (f:MF) (rb ob B:Nat) (c:Array Value) (vb vi va vo vc:Value) (d:aN) (s:Mk.S) (w:World):Prop where
 mkr:MK m sv l f s w
 mod:Mod [m] W w
 rblk:Blk w rb (ruC ae ae ae ae ae 0) 54
 blk:Blk w ob c 54
 rows:jR (λb=>ob<b/\b<B) w vb vi va vo vc d
 ord:m<W.heap.size/\W.heap.size<=rb/\rb<ob/\ob<B/\B<=w.heap.size
section
variable {W:World} {m:Nat} {sv:Value} {l:List Int} {f:MF} {rb ob B B':Nat} {c:Array Value} {vb vi va vo vc u:Value} {d:aN} {s s':Mk.S} {w w':World} {back inn ahead:List (List Int)}
theorem RuA.done (h:RuA W m sv l f rb ob c vb vi va back inn ahead s w):ee W m sv l f rb ob w.heap.size c vb vi va ae ae ⟨back,inn,ahead,[],[],0⟩ s w:=by
 have h1:=h.ord;exact ⟨h.mkr,h.mod,h.rblk,h.blk,⟨h.hb.weak zd aM.weak λb hb hs=>⟨hs.1,hb⟩,h.gi.done zd aM.weak (λb hb hs=>⟨hs,hb⟩) (λb hb=>by have:=h.gi.lt b hb;omega),h.ha.weak zd aM.weak λb hb hs=>⟨hs.1,hb⟩,az.nil _,az.nil _⟩,h1.1,h1.2.1,h1.2.2.1,h1.2.2.2,nR _⟩
theorem ee.stays:aG (ee W m sv l f rb ob B c vb vi va vo vc d s):=λw w' h k =>
 ⟨MK.stays _ _ h.mkr k,h.mod.then (k.more zk),h.rblk.kept k zk,h.blk.kept k zk,h.rows.same (k.same0 _),h.ord.1,h.ord.2.1,h.ord.2.2.1,h.ord.2.2.2.1,nT h.ord.2.2.2.2 k.size⟩
theorem ee.call (h:ee W m sv l f rb ob B c vb vi va vo vc d s w) (k:MK m sv l f s' w') (k2:Mod [m] w w'):ee W m sv l f rb ob B c vb vi va vo vc d s' w':=by
 have h1:=h.ord;exact ⟨k,h.mod.then k2,h.rblk.kept k2 zqa,h.blk.kept k2 zqa,h.rows.same (k2.jM zqv),h1.1,h1.2.1,h1.2.2.1,h1.2.2.2.1,nT h1.2.2.2.2 k2.size⟩
theorem ee.set (h:ee W m sv l f rb ob B c vb vi va vo vc d s w) (i:Nat) (x:Value):ee W m sv l f rb ob B (c.setIfInBounds i x) vb vi va vo vc d s (w.setCell ⟨ob,i,none⟩ x):=by
 have h1:=h.ord;exact ⟨h.mkr.set (by show m<ob;omega) _,h.mod.eT (p:=⟨ob,i,none⟩) zpa _,h.rblk.other (by show ob≠rb;omega) _,h.blk.set i x,h.rows.same (bC.set w zk _),h1.1,h1.2.1,h1.2.2.1,h1.2.2.2.1,by simpa using h1.2.2.2.2⟩
theorem ee.grown (h:ee W m sv l f rb ob B c vb vi va vo vc d s w) (k:w.grownBy w' u.ownBlock) (hu:∀ b,u.ownBlock=some b->B<=b):ee W m sv l f rb ob B c vb vi va vo vc d s w':=by
 have h1:=h.ord;exact ⟨h.mkr.grown k λb hb=>by have:=hu b hb;omega,h.mod.grew k λb hb=>by have:=hu b hb;omega,h.rblk.grew k λhb=>by have:=hu _ hb;omega,h.blk.grew k λhb=>by have:=hu _ hb;omega,h.rows.same (bC.grown k λb hb hs=>by have:=hu b hb;omega),h1.1,h1.2.1,h1.2.2.1,h1.2.2.2.1,nT h1.2.2.2.2 k.size⟩
theorem ee.up (h:ee W m sv l f rb ob B c vb vi va vo vc d s w) (h1:B<=B') (h2:B'<=w.heap.size):ee W m sv l f rb ob B' c vb vi va vo vc d s w :=
 ⟨h.mkr,h.mod,h.rblk,h.blk,h.rows.weak λb _ hb=>⟨hb.1,by omega⟩,h.ord.1,h.ord.2.1,h.ord.2.2.1,by have:=h.ord;omega,h2⟩
theorem ee.nB {ps:List Int} {v:Value} (h:ee W m sv l f rb ob B c vb vi va u vc d s w) (hG:aH B 3 1 aF (λ_=>False) v ps w):ee W m sv l f rb ob w.heap.size c vb vi va v vc { d with  o:=ps } s w:=by
 have h1:=h.up h.ord.2.2.2.2 (nR _);exact ⟨h1.mkr,h1.mod,h1.rblk,h1.blk,⟨h1.rows.back,h1.rows.ins,h1.rows.ahead,sx zd aF.weak h.ord.2.2.2.1 hG,h1.rows.calls⟩,h1.ord⟩
theorem ee.qO {ps:List dY} {v:Value} (h:ee W m sv l f rb ob B c vb vi va vo u d s w) (hG:aH B 51 2 dM (λ_=>False) v ps w):ee W m sv l f rb ob w.heap.size c vb vi va vo v { d with calls:=ps } s w:=by
 have h1:=h.up h.ord.2.2.2.2 (nR _);exact ⟨h1.mkr,h1.mod,h1.rblk,h1.blk,⟨h1.rows.back,h1.rows.ins,h1.rows.ahead,h1.rows.o,sx zd dM.weak h.ord.2.2.2.1 hG⟩,h1.ord⟩
theorem ee.Ey (h:ee W m sv l f rb ob B c vb vi va vo vc d s w) (x:Int):ee W m sv l f rb ob B c vb vi va vo vc { d with x:=x } s w:=⟨h.mkr,h.mod,h.rblk,h.blk,⟨h.rows.back,h.rows.ins,h.rows.ahead,h.rows.o,h.rows.calls⟩,h.ord⟩
end
structure eB (W:World) (m:Nat) (sv:Value) (l:List Int) (f:MF) (rb ob B:Nat) (c:Array Value) (vb vi va vc:Value) (d:aN) (vz:Value) (L:List Int) (s:Mk.S) (w:World):Prop where
 st:ee W m sv l f rb ob B c vb vi va ae vc d s w
 gr:aH B 3 1 aF (λ_=>False) vz L w
section
variable {W:World} {m:Nat} {sv:Value} {l:List Int} {f:MF} {rb ob B:Nat} {c:Array Value} {vb vi va vc vz v':Value} {d:aN} {L:List Int} {s s':Mk.S} {w w':World} {x:Int}
theorem eB.stays:aG (eB W m sv l f rb ob B c vb vi va vc d vz L s):=λw w' h k=>⟨ee.stays _ _ h.st k,h.gr.mod aF.stay k⟩
theorem eB.call (h:eB W m sv l f rb ob B c vb vi va vc d vz L s w) (k:MK m sv l f s' w') (k2:Mod [m] w w'):eB W m sv l f rb ob B c vb vi va vc d vz L s' w' :=
 ⟨h.st.call k k2,h.gr.gW aF.stay k2 (by have:=h.st.ord;simp;omega) (λ_ h=>h.elim)⟩
theorem eB.push (h:eB W m sv l f rb ob B c vb vi va vc d vz L s w) (hG:aH B 3 1 aF (λ_=>False) v' (L++[x]) w') (k:w.grownBy w' vz.ownBlock):eB W m sv l f rb ob B (c.setIfInBounds 3 v') vb vi va vc d v' (L++[x]) s (w'.setCell ⟨ob,3,none⟩ v'):=by
 have h1:=h.st.ord;exact ⟨(h.st.grown k λb hb=>(h.gr.lt b hb).1).set 3 v',hG.set aF.stay (λhb=>by have h9:B<=ob:=(hG.lt _ hb).1;omega) (λh=>h) _⟩
end
structure jL (W:World) (m:Nat) (sv:Value) (l:List Int) (f:MF) (rb ob B:Nat) (c:Array Value) (vb vi va vo:Value) (d:aN) (vz:Value) (L:List dY) (s:Mk.S) (w:World):Prop where
 st:ee W m sv l f rb ob B c vb vi va vo ae d s w
 gr:aH B 51 2 dM (λ_=>False) vz L w
section
variable {W:World} {m:Nat} {sv:Value} {l:List Int} {f:MF} {rb ob B:Nat} {c:Array Value} {vb vi va vo vz v':Value} {d:aN} {L:List dY} {s s':Mk.S} {w w':World} {x:dY}
theorem jL.stays:aG (jL W m sv l f rb ob B c vb vi va vo d vz L s):=λw w' h k=>⟨ee.stays _ _ h.st k,h.gr.mod dM.stay k⟩
theorem jL.call (h:jL W m sv l f rb ob B c vb vi va vo d vz L s w) (k:MK m sv l f s' w') (k2:Mod [m] w w'):jL W m sv l f rb ob B c vb vi va vo d vz L s' w' :=
 ⟨h.st.call k k2,h.gr.gW dM.stay k2 (by have:=h.st.ord;simp;omega) (λ_ h=>h.elim)⟩
theorem jL.push (h:jL W m sv l f rb ob B c vb vi va vo d vz L s w) (hG:aH B 51 2 dM (λ_=>False) v' (L++[x]) w') (k:w.grownBy w' vz.ownBlock):jL W m sv l f rb ob B (c.setIfInBounds 4 v') vb vi va vo d v' (L++[x]) s (w'.setCell ⟨ob,4,none⟩ v'):=by
 have h1:=h.st.ord;exact ⟨(h.st.grown k λb hb=>(h.gr.lt b hb).1).set 4 v',hG.set dM.stay (λhb=>by have h9:B<=ob:=(hG.lt _ hb).1;omega) (λh=>h) _⟩
end
theorem qj {P:World->Prop} {b:Nat} (hP:∀ w i v,P w->P (w.setCell ⟨b,i,none⟩ v)):∀ (vs:List Value) (i:Nat) (w:World),P w->P (ec w b i vs)
 | [],_,_,h=>h
 | v::r,i,w,h=>qj hP r (i+1) _ (hP w i v h)
section
variable {W:World} {m:Nat} {sv:Value} {l:List Int} {f:MF} {rb ob B:Nat} {vb vi va vo vc:Value} {d:aN} {s:Mk.S} {w:World}
theorem ee.fin (h:ee W m sv l f rb ob B (ruC vb vi va vo vc d.x) vb vi va vo vc d s w) (hI:I64 d.x) :
  bE (λb=>W.heap.size<=b) (ec w rb 0 [vb,vi,va,vo,vc,.int .i64 d.x]) [vb,vi,va,vo,vc,.int .i64 d.x] d/\MK m sv l f s (ec w rb 0 [vb,vi,va,vo,vc,.int .i64 d.x])/\Mod [m] W (ec w rb 0 [vb,vi,va,vo,vc,.int .i64 d.x])/\Blk (ec w rb 0 [vb,vi,va,vo,vc,.int .i64 d.x]) rb (ruC vb vi va vo vc d.x) 54:=by
 have h1:=h.ord;have h2:=qj (b:=rb) (P:=λw=>jR (λb=>ob<b/\b<B) w vb vi va vo vc d/\MK m sv l f s w/\Mod [m] W w) (λw i v hp=>⟨hp.1.same (bC.set w zqa _),hp.2.1.set (by show m<rb;omega) _,hp.2.2.eT (p:=⟨rb,i,none⟩) (by show W.heap.size<=rb;omega) _⟩) [vb,vi,va,vo,vc,.int .i64 d.x] 0 w ⟨h.rows,h.mkr,h.mod⟩;have h3:=h2.1.weak (S':=λb=>W.heap.size<=b) λb _ hb=>by omega
 exact ⟨⟨_,_,_,_,_,rfl,h3.back,h3.ins,h3.ahead,h3.o,h3.calls,hI⟩,h2.2.1,h2.2.2,h.rblk.over _ rfl⟩
theorem RuA.start {a:List Int} {ox:Option Addr} {cx:Nat} (K:MK m sv l f s w) (M:Mod [m] W w) (hr:Blk w rb (ruC ae ae ae ae ae 0) 54) (ho:Blk w ob (ruC ae ae ae ae ae 0) 54) (hord:m<W.heap.size/\W.heap.size<=rb/\rb<ob) (hV:az 1 aF (λb=>ob<b) w (.slice ox a.length cx) a) :
  RuA W m sv l f rb ob (ruC ae (.slice (some ⟨w.heap.size,0,none⟩) 1 1) ae ae ae 0) ae (.slice (some ⟨w.heap.size,0,none⟩) 1 1) ae [] [a] [] s ((w.alloc (.cells #[.slice ox a.length cx] 22)).setCell ⟨ob,1,none⟩ (.slice (some ⟨w.heap.size,0,none⟩) 1 1)):=by
 have h0:=ho.lt;have al:Mod [] w (w.alloc (.cells #[.slice ox a.length cx] 22)):=mR.alloc _;have hV2:=(hV.weak zd aF.weak (S':=λb=>ob<b/\b<w.heap.size) λb hb h=>⟨h,hb⟩).mod aF.stay al;have hG:aH (ob+1) 22 1 aM (λb=>ob<b/\b<w.heap.size) (.slice (some ⟨w.heap.size,0,none⟩) 1 1) [a] (w.alloc (.cells #[.slice ox a.length cx] 22)) :=
  aH.made (l:=[a]) (css:=[[.slice ox a.length cx]]) aM.weak zo (Blk.new _ _ _) rfl (aP.one rfl ⟨_,rfl,hV2⟩) (λx _ h=>by omega) (by simp [maxLen])
 have hA:RuA W m sv l f rb ob (ruC ae ae ae ae ae 0) ae (.slice (some ⟨w.heap.size,0,none⟩) 1 1) ae [] [a] [] s (w.alloc (.cells #[.slice ox a.length cx] 22)) :=
  ⟨MK.stays _ _ K al,M.then (al.more zk),hr.kept al zk,ho.kept al zk,hG.weak aM.weak (λb _ h=>h.1),az.nil _,az.nil _,hord.1,hord.2.1,hord.2.2,by have:=al.size;omega⟩
 exact hA.set 1 _
theorem ee.in0 {c:Array Value} {x:List Int} {r:List (List Int)} {g k q:Nat} (h:ee W m sv l f rb ob B c vb (.slice (some ⟨g,0,none⟩) k q) va vo vc d s w) (hd:d.ins=x::r):∃ ox cx,w.cell? ⟨g,0,none⟩=some (.slice ox x.length cx):=by
 have h1:=h.rows.ins;rw [hd] at h1;obtain ⟨a,he,_,cs,hk,hc,_,v,rfl,hv⟩:=h1.at 0 zk;cases he;obtain ⟨ox,cx,rfl,_⟩:=hv.form;exact ⟨ox,cx,by have:=hc zd;simpa [Addr.add] using this⟩
end
def qY (S:Bl) (b:List Int) (Post:World->Prop) (v:Value) (w:World):Prop:=(∃ (ox:Option Addr) (cx:Nat),v=.slice ox b.length cx/\az 1 aF S w v b)/\Post w
theorem qY.stays {S:Bl} {b:List Int} {Post:World->Prop} (hP:aG Post) (v:Value):aG (qY S b Post v):=λw w' ⟨⟨ox,cx,h0,h1⟩,h2⟩ k=>⟨⟨ox,cx,h0,h1.mod aF.stay k⟩,hP _ _ h2 k⟩
def rf (B:Nat) (S:Bl) (b:List Int) (Post:World->Prop) (v:Value) (w:World):Prop:=∃ (nb:Nat) (oy:Option Addr) (cy:Nat),v=.slice (some ⟨nb,0,none⟩) 1 1/\B<=nb/\Blk w nb #[.slice oy b.length cy] 22/\az 1 aF S w (.slice oy b.length cy) b/\Post w
theorem rf.stays {B:Nat} {S:Bl} {b:List Int} {Post:World->Prop} (hP:aG Post) (v:Value):aG (rf B S b Post v):=λw w' ⟨nb,oy,cy,h0,h1,h2,h3,h4⟩ k=>⟨nb,oy,cy,h0,h1,h2.kept k zk,h3.mod aF.stay k,hP _ _ h4 k⟩
def lT (S:Bl) (b:List (List Int)) (Post:World->Prop) (v:Value) (w:World):Prop:=(∃ (ox:Option Addr) (cx:Nat),v=.slice ox b.length cx/\az 1 aM S w v b)/\Post w
theorem lT.stays {S:Bl} {b:List (List Int)} {Post:World->Prop} (hP:aG Post) (v:Value):aG (lT S b Post v):=λw w' ⟨⟨ox,cx,h0,h1⟩,h2⟩ k=>⟨⟨ox,cx,h0,h1.mod aM.stay k⟩,hP _ _ h2 k⟩
def nxF (n:Int):Nat->List Int->Mk.M (List Int):=λ_ l s=>Mk.bind (Mk.next n s) λx s=>(l++[x],s)
def caF (n:Nat) (calls:List Int):Nat->List dY->Mk.M (List dY):=λ_ l s=>Mk.bind (Mk.next (n:Int) s) λp s=>Mk.bind (Mk.next (calls.length:Int) s) λq s=>(l++[(⟨p,calls.getD q.toNat 0⟩:dY)],s)
theorem Af (n:Int):∀ (q:Nat) (i:Int) (l:List Int) (s:Mk.S),l.length<=4->(Mk.nJ n q i l s).1.length<=4:=by
 intro q
 induction q with
 | zero=>intro i l s h;exact h
 | succ q ih =>
  intro i l s h;unfold Mk.nJ
  split
  ·rename_i h2;unfold Mk.bind;refine ih _ _ _ ?_
   split
   ·simp;omega
   ·exact h
  ·exact h
theorem lg (n:Int) (s:Mk.S):(Mk.set n s).1.length<=4:=by
 unfold Mk.set Mk.bind;exact Af _ _ _ _ _ zk
theorem xe (n:Int) (s:Mk.S):(Mk.row n 2 s).1.length<=2:=by
 unfold Mk.row;have h1:=Mk.gg (2+1) s zd;show (Mk.rep (Mk.next (2+1) s).1.toNat (λ_ l s=>Mk.bind (Mk.set n s) λx s=>(l++[x],s)) [] (Mk.next (2+1) s).2).1.length<=2;have h2:=Mk.bH (f:=λ_ l s=>((l++[(Mk.set n s).1],(Mk.set n s).2):List (List Int)×Mk.S)) (a:=[]) (s:=(Mk.next (2+1) s).2) (n:=(Mk.next (2+1) s).1.toNat) (λi (l:List (List Int))=>l.length<=i) (nR _) λi l s hi h=>by simp;omega
 refine nT h2 ?_;omega
def Mk.kW (n kind:Int) (calls:List Int) (a:List Int) (back ahead:List (List Int)):Mk.M aN:=λs =>
 if kind=1∨kind=5 then bind (nexts n a.length s) λout s=>(⟨back,[a],ahead,out,[],0⟩,s)
 else if kind=2 then bind (next 4 s) λk s=>bind (nexts n k.toNat s) λout s=>(⟨back,[a],ahead,out,[],0⟩,s)
 else if kind=3 then bind (row n 2 s) λmore s=>bind (next n s) λx s=>(⟨back,a::more,ahead,[x],[],0⟩,s)
 else bind (row n 2 s) λmore s=>bind (next 3 s) λk s =>
  bind (if calls.length=0 then ([],s) else rep k.toNat (caF (a::more).length calls) [] s) λcs s =>
  (⟨back,a::more,ahead,[],cs,0⟩,s)
theorem Cx (m:Nat) (sv:Value) (l:List Int) (f:MF) (s:Mk.S) (n:Nat) (hn:0<n) (hn1:n<=100000) {og:Option Addr} {cg:Nat} (hgl:f.gl=.slice og n cg) (kind:Int) (hk0:1<=kind) (hk6:kind<=6) (calls:List Int) (hcl:calls.length<=1000) {oc:Option Addr} {cc:Nat} {rg:aN} {rs:Mk.S} (he:Mk.rule n kind calls s=(rg,rs)) (w:World) (h:MK m sv l f s w) (hC:az 1 aF (λb=>b≠m) w (.slice oc calls.length cc) calls) :
  Calls Tryz.prog 81 #[.pointer (some ⟨m,0,none⟩),.int .i64 kind,.slice oc calls.length cc] w λe w'=>∃ cs,e=.returned (.agg cs.toArray)/\bE (λb=>w.heap.size<=b) w' cs rg/\MK m sv l f rs w'/\Mod [m] w w':=by
 obtain ⟨a,s1,h1⟩:∃ a b,Mk.set n s=(a,b):=⟨_,_,rfl⟩
 unfold Mk.rule at he;rw [Mk.ai h1] at he;have C1:=Hi (uN m sv l f s n hn hn1 hgl h1);have CS:=Hi (λst x st' e=>uN m sv l f st n hn hn1 hgl (rl:=x) (rs:=st') e);have CR:=Hi (λst x st' e=>DT m sv l f st n hn hn1 2 zd zd hgl (rl:=x) (rs:=st') e);have CN:=Hi (λst x st' n h1 h2 e=>bF m sv l f st n h1 h2 (r:=x) (s':=st') e);have HE:=Hi he;have HN:=Hi (And.intro hn hn1);have HCL:=Hi hcl;have HC:=Hi hC;have HGL:=Hi hgl;have HK6:=Hi (And.intro hk0 hk6);have b3:w.cell? ⟨m,3,none⟩=some (.slice og n cg):=(h.blk.cell 3).trans (congrArg some hgl);have HAQ:=Hi h1;have H0:Hy (MK m sv l f s ((w.alloc (.cells (ruC ae ae ae ae ae 0) 54)).alloc (.cells (ruC ae ae ae ae ae 0) 54))/\Mod [] w ((w.alloc (.cells (ruC ae ae ae ae ae 0) 54)).alloc (.cells (ruC ae ae ae ae ae 0) 54))/\Blk ((w.alloc (.cells (ruC ae ae ae ae ae 0) 54)).alloc (.cells (ruC ae ae ae ae ae 0) 54)) w.heap.size (ruC ae ae ae ae ae 0) 54/\Blk ((w.alloc (.cells (ruC ae ae ae ae ae 0) 54)).alloc (.cells (ruC ae ae ae ae ae 0) 54)) (w.heap.size+1) (ruC ae ae ae ae ae 0) 54/\m<w.heap.size/\w.heap.size<=w.heap.size/\w.heap.size<w.heap.size+1):=by
  have m1:=(Mod.refl [] w).alloc (.cells (ruC ae ae ae ae ae 0) 54);have m2:=m1.alloc (.cells (ruC ae ae ae ae ae 0) 54);refine ⟨MK.stays _ _ h m2,m2,(Blk.new w _ _).kept ((Mod.refl [] _).alloc _) zk,?_,h.blk.lt,nR _,Nat.lt_succ_self _⟩;have:=Blk.new (w.alloc (.cells (ruC ae ae ae ae ae 0) 54)) (ruC ae ae ae ae ae 0) 54;simpa using this
 clear h1 he h hC hcl hgl hn hn1 hk0 hk6;obtain ⟨i0,ii,iz0,iz1,iz2⟩:=info_parts gN;obtain ⟨t0,ti,tz0,tz1,tz2⟩:=info_parts j0;obtain ⟨q0,qi,qz0,qz1,qz2⟩:=info_parts Bq;go_enter Tryz.func81,Tryz.ntmps81;go_upto_region 2 with fail;rw [show (w.alloc (.cells #[.slice none 0 0,.slice none 0 0,.slice none 0 0,.slice none 0 0,.slice none 0 0,.int .i64 0] 54)).alloc (.cells #[.slice none 0 0,.slice none 0 0,.slice none 0 0,.slice none 0 0,.slice none 0 0,.int .i64 0] 54)=(w.alloc (.cells (ruC ae ae ae ae ae 0) 54)).alloc (.cells (ruC ae ae ae ae ae 0) 54) from rfl];have b3a:=((H0.o.1.blk.cell 3).trans (congrArg some HGL.o))
 generalize (w.alloc (.cells (ruC ae ae ae ae ae 0) 54)).alloc (.cells (ruC ae ae ae ae ae 0) 54)=w0 at *
 clear b3;go_wp2_with fail;refine (C1.o w0 H0.o.1).mono ?_;rintro e w1 ⟨va1,rfl,hV,K1,M1⟩;obtain ⟨ox,cx,rfl,-⟩:=hV.form;have HWZ:=Hi (show w.heap.size=w.heap.size from rfl);have HS0:Hy (RuA w m sv l f w.heap.size (w.heap.size+1) (ruC ae (.slice (some ⟨w1.heap.size,0,none⟩) 1 1) ae ae ae 0) ae (.slice (some ⟨w1.heap.size,0,none⟩) 1 1) ae [] [a] [] s1 ((w1.alloc (.cells #[.slice ox a.length cx] 22)).setCell ⟨w.heap.size+1,1,none⟩ (.slice (some ⟨w1.heap.size,0,none⟩) 1 1))):=by
  have h9:=H0.o.2.2.2.2;have h8:=H0.o.2.2.2.1.lt;exact RuA.start K1 ((H0.o.2.1.more zk).then M1) (H0.o.2.2.1.kept M1 zqa) (H0.o.2.2.2.1.kept M1 zqa) h9 (hV.weak zd aF.weak λb _ hb=>by omega)
 have o1c:(w1.alloc (.cells #[.slice ox a.length cx] 22)).cell? ⟨w.heap.size+1,1,none⟩=some (.slice none 0 0):=((H0.o.2.2.2.1.kept M1 (by have:=H0.o.2.2.2.2;simp;omega)).alloc _).cell 1;have o1f:(w1.alloc (.cells #[.slice ox a.length cx] 22)).frozen? ⟨w.heap.size+1,1,none⟩=false:=((H0.o.2.2.2.1.kept M1 (by have:=H0.o.2.2.2.2;simp;omega)).alloc _).frozen 1;clear K1 M1 hV C1 H0 b3a;generalize hrb:w.heap.size=rb at HS0 o1c o1f ⊢;generalize hob:rb+1=ob at HS0 o1c o1f ⊢;clear hrb hob HWZ;go_upto_region 4 with fail;generalize (w1.alloc (.cells #[.slice ox a.length cx] 22)).setCell ⟨ob,1,none⟩ (.slice (some ⟨w1.heap.size,0,none⟩) 1 1)=w2 at *
 generalize w1.heap.size=ib at *
 clear o1c o1f
 by_cases hk:kind=6
 ·subst hk;obtain ⟨b,s2,h2⟩:∃ a b,Mk.set n s1=(a,b):=⟨_,_,rfl⟩
  obtain ⟨x,s3,h3⟩:∃ a b,Mk.next 41 s2=(a,b):=⟨_,_,rfl⟩
  obtain ⟨hrg1,hrs1⟩:rg=⟨[],[a,b],[],[],[],x*10 - 200⟩/\rs=s3:=by
   have h9:=HE.o;rw [if_pos rfl,Mk.ai h2,Mk.ai h3] at h9;exact ⟨(congrArg Prod.fst h9).symm,(congrArg Prod.snd h9).symm⟩
  subst hrs1;have HRG1:=Hi hrg1;have ix:=ay zd h3;have x1:IntKind.i64.wrap (x*10)=x*10:=wrapi zo zo;have x2:IntKind.i64.wrap (x*10 - 200)=x*10 - 200:=wrapi zo zo;have HX:Hy (I64 (x*10 - 200)):=I64.of zo zo;have C2:=Hi (CS.o s1 b s2 h2);have C3:=Hi (CN.o s2 x rs 41 zd zd h3);clear h2 h3 ix hrg1 HE;go_upto_region 5 with fail;have B1:∀ W,Mod [m] w2 W->W.cell? ⟨ob,1,none⟩=some (.slice (some ⟨ib,0,none⟩) 1 1):=λW k=>(HS0.o.blk.kept k (by have:=HS0.o.ord;simp;omega)).cell 1
  refine Sw.aL (I:=Mod [m] w2) (F0:=RuA w m sv l f rb ob (ruC ae (.slice (some ⟨ib,0,none⟩) 1 1) ae ae ae 0) ae (.slice (some ⟨ib,0,none⟩) 1 1) ae [] [a] [] s1) (λ_ _ h k=>h.then (k.more zk)) 5 [(0,none),(1,none),(2,none),(3,some (qY (λx=>ob<x/\(Value.slice (some ⟨ib,0,none⟩) 1 1).ownBlock≠some x) b (RuA w m sv l f rb ob (ruC ae (.slice (some ⟨ib,0,none⟩) 1 1) ae ae ae 0) ae (.slice (some ⟨ib,0,none⟩) 1 1) ae [] [a] [] s2))),(4,some (rf w2.heap.size (λx=>ob<x/\(Value.slice (some ⟨ib,0,none⟩) 1 1).ownBlock≠some x) b (RuA w m sv l f rb ob (ruC ae (.slice (some ⟨ib,0,none⟩) 1 1) ae ae ae 0) ae (.slice (some ⟨ib,0,none⟩) 1 1) ae [] [a] [] s2)))] zt zt (Sq.aW zt) ?hTS116 (mR.drew) RuA.stays (RuA.stays _ _ HS0.o (mR.drew)) ?mainS116
  case hTS116 =>
   intro p hp T hT v;simp only [List.mem_cons,List.not_mem_nil,or_false] at hp;rcases hp with rfl | rfl | rfl | rfl | rfl <;> first | (cases hT;done) | (cases hT;first | exact rf.stays RuA.stays _ | exact qY.stays RuA.stays _)
  iterate 3 refine Sw.vv (w0:=w2.drew) (mR.drew) ?_
  refine Sw.xx (λw' hw' hF K Q hK=>?_) (λkv hkv=>?_)
  ·go_wp2_with fail;refine (C2.o w' hF.mkr).mono ?_;rintro e w'' ⟨v,rfl,hv,K',M'⟩;obtain ⟨oy,cy,rfl,-⟩:=hv.form;go_wp2;exact hK _ _ (hw'.then M') ⟨⟨oy,cy,rfl,hF.DW hv⟩,hF.call K' M'⟩
  obtain ⟨_,_,⟨oy,cy,rfl,_⟩,_⟩:=hkv;refine Sw.xx (λw' hw' hF K Q hK=>?_) (λkv hkv=>?_)
  ·go_wp2_with fail;obtain ⟨⟨oz,cz,he,hS⟩,hO⟩:=hF;cases he;exact hK _ _ (hw'.alloc _) ⟨_,_,_,rfl,hw'.size,Blk.new _ _ _,hS.mod aF.stay (mR.alloc _),RuA.stays _ _ hO (mR.alloc _)⟩
  obtain ⟨_,_,nb,oy2,cy2,rfl,_⟩:=hkv;refine Sw.bJ ?_;intro w' hw' hF;simp only [qS,qZ];obtain ⟨b9,oy3,cy3,he9,-,hB,hS,hO⟩:=hF;cases he9;have HB:=Hi hB;have HS:=Hi hS;have HO:=Hi hO;clear hB hS hO hw' B1 HS0 C2;go_wp2_with (at_builtin;refine aO (k:=1) (e:=22) (base:=ob+1) (l:=[a]) (l':=[b]) rfl _ _ 49 rfl t0 _ 24 Tryz.underlying49 ti tz0 tz1 tz2 rfl zd aM.stay aM.weak rfl HO.o.gi ⟨nb,0,none⟩ _ _ [[.slice oy3 b.length cy3]] rfl rfl (aP.one rfl ⟨_,rfl,HS.o⟩) (λj u hu=>bi HB.o rfl hu) zqb ?_ ?_ ?_ ?_)
  ·show (2:Nat)<=maxLen;decide
  ·show (2:Nat)*24<=140737488355328;decide
  ·have:=HO.o.ord;omega
  intro v' w3 hGP hgr hbk;obtain ⟨ov,cv,rfl⟩:=hGP.form;have hP:=HO.o.push hGP hgr hbk;have o1c:w3.cell? ⟨ob,1,none⟩=some (.slice (some ⟨ib,0,none⟩) 1 1):=(HO.o.blk.grew hgr (λhb=>by have:=(HO.o.gi.lt _ hb).1;omega)).cell 1;have o1f:=(HO.o.blk.grew hgr (λhb=>by have:=(HO.o.gi.lt _ hb).1;omega)).frozen 1;have HP:Hy (RuA w m sv l f rb ob (ruC ae (.slice ov 2 cv) ae ae ae 0) ae (.slice ov 2 cv) ae [] [a,b] [] s2 (w3.setCell ⟨ob,1,none⟩ (.slice ov 2 cv))):=hP;clear hGP hgr hbk hP HO HB HS;go_upto_region 6 with fail;generalize w3.setCell ⟨ob,1,none⟩ (.slice ov 2 cv)=w4 at *
  clear o1c o1f;go_wp2_with fail;refine (C3.o w4 HP.o.mkr).mono ?_;rintro e w5 ⟨rfl,K5,M5⟩;have hP5:=HP.o.call K5 M5;have o5c:w5.cell? ⟨ob,5,none⟩=some (.int .i64 0):=hP5.blk.cell 5;have o5f:=hP5.blk.frozen 5;have HQ:Hy (ee w m sv l f rb ob w5.heap.size (ruC ae (.slice ov 2 cv) ae ae ae (x*10 - 200)) ae (.slice ov 2 cv) ae ae ae ⟨[],[a,b],[],[],[],x*10 - 200⟩ rs (w5.setCell ⟨ob,5,none⟩ (.int .i64 (x*10 - 200)))):=(hP5.done.set 5 (.int .i64 (x*10 - 200))).Ey (x*10 - 200);clear hP5 K5 M5 HP C3;go_upto_region 7 with fail;generalize w5.setCell ⟨ob,5,none⟩ (.int .i64 (x*10 - 200))=w6 at *
  generalize w5.heap.size=B5 at *
  clear o5c o5f;obtain ⟨xx,hxx⟩:∃ y,y=x*10 - 200:=⟨_,rfl⟩
  rw [<- hxx] at HQ HX HRG1;clear hxx x1 x2;have e0:w6.cell? ⟨ob,0,none⟩=some (.slice none 0 0):=HQ.o.blk.cell 0;have e1:w6.cell? ⟨ob,1,none⟩=some (.slice ov 2 cv):=HQ.o.blk.cell 1;have e2:w6.cell? ⟨ob,2,none⟩=some (.slice none 0 0):=HQ.o.blk.cell 2;have e3:w6.cell? ⟨ob,3,none⟩=some (.slice none 0 0):=HQ.o.blk.cell 3;have e4:w6.cell? ⟨ob,4,none⟩=some (.slice none 0 0):=HQ.o.blk.cell 4;have e5:w6.cell? ⟨ob,5,none⟩=some (.int .i64 xx):=HQ.o.blk.cell 5;have z0:w6.cell? ⟨rb,0,none⟩=some (.slice none 0 0):=HQ.o.rblk.cell 0;have zf0:=HQ.o.rblk.frozen 0;have z1:w6.cell? ⟨rb,1,none⟩=some (.slice none 0 0):=HQ.o.rblk.cell 1;have zf1:=HQ.o.rblk.frozen 1;have z2:w6.cell? ⟨rb,2,none⟩=some (.slice none 0 0):=HQ.o.rblk.cell 2;have zf2:=HQ.o.rblk.frozen 2;have z3:w6.cell? ⟨rb,3,none⟩=some (.slice none 0 0):=HQ.o.rblk.cell 3;have zf3:=HQ.o.rblk.frozen 3;have z4:w6.cell? ⟨rb,4,none⟩=some (.slice none 0 0):=HQ.o.rblk.cell 4;have zf4:=HQ.o.rblk.frozen 4;have z5:w6.cell? ⟨rb,5,none⟩=some (.int .i64 0):=HQ.o.rblk.cell 5;have zf5:=HQ.o.rblk.frozen 5;have HFIN:=Hi (ee.fin (d:=⟨[],[a,b],[],[],[],xx⟩) HQ.o HX.o);clear HQ;go_wp2_with fail;have XF:((((((w6.setCell ⟨rb,0,none⟩ (.slice none 0 0)).setCell ⟨rb,1,none⟩ (.slice ov 2 cv)).setCell ⟨rb,2,none⟩ (.slice none 0 0)).setCell ⟨rb,3,none⟩ (.slice none 0 0)).setCell ⟨rb,4,none⟩ (.slice none 0 0)).setCell ⟨rb,5,none⟩ (.int .i64 xx))=ec w6 (rb) (0) [.slice none 0 0,.slice ov 2 cv,.slice none 0 0,.slice none 0 0,.slice none 0 0,.int .i64 xx]:=rfl;rw [XF];clear XF;have r0:(ec w6 rb 0 [.slice none 0 0,.slice ov 2 cv,.slice none 0 0,.slice none 0 0,.slice none 0 0,.int .i64 xx]).cell? ⟨rb,0,none⟩=some (.slice none 0 0):=HFIN.o.2.2.2.cell 0;have r1:(ec w6 rb 0 [.slice none 0 0,.slice ov 2 cv,.slice none 0 0,.slice none 0 0,.slice none 0 0,.int .i64 xx]).cell? ⟨rb,1,none⟩=some (.slice ov 2 cv):=HFIN.o.2.2.2.cell 1;have r2:(ec w6 rb 0 [.slice none 0 0,.slice ov 2 cv,.slice none 0 0,.slice none 0 0,.slice none 0 0,.int .i64 xx]).cell? ⟨rb,2,none⟩=some (.slice none 0 0):=HFIN.o.2.2.2.cell 2;have r3:(ec w6 rb 0 [.slice none 0 0,.slice ov 2 cv,.slice none 0 0,.slice none 0 0,.slice none 0 0,.int .i64 xx]).cell? ⟨rb,3,none⟩=some (.slice none 0 0):=HFIN.o.2.2.2.cell 3;have r4:(ec w6 rb 0 [.slice none 0 0,.slice ov 2 cv,.slice none 0 0,.slice none 0 0,.slice none 0 0,.int .i64 xx]).cell? ⟨rb,4,none⟩=some (.slice none 0 0):=HFIN.o.2.2.2.cell 4;have r5:(ec w6 rb 0 [.slice none 0 0,.slice ov 2 cv,.slice none 0 0,.slice none 0 0,.slice none 0 0,.int .i64 xx]).cell? ⟨rb,5,none⟩=some (.int .i64 xx):=HFIN.o.2.2.2.cell 5;exact bodyPost_ret (v:=.agg #[.slice none 0 0,.slice ov 2 cv,.slice none 0 0,.slice none 0 0,.slice none 0 0,.int .i64 xx]) (by simp [results,Tryz.results81,go_sem,r0,r1,r2,r3,r4,r5]) rfl ⟨[.slice none 0 0,.slice ov 2 cv,.slice none 0 0,.slice none 0 0,.slice none 0 0,.int .i64 xx],rfl,HRG1.o ▸ HFIN.o.1,HFIN.o.2.1,HFIN.o.2.2.1⟩
 have kk1:=dF (p:=kind=6) hk;have kk2:(kind == 6)=false:=beq_false_of_ne hk;obtain ⟨z,s2,h2⟩:∃ a b,Mk.next 2 s1=(a,b):=⟨_,_,rfl⟩
 have HE2:Hy (Mk.bind (if z=0 then Mk.row n 2 s2 else ([],s2)) (λback s=>Mk.bind (if z=0 then Mk.row n 2 s else ([],s)) (λahead s=>Mk.kW n kind calls a back ahead s))=(rg,rs)):=by
  have h9:=HE.o;rw [if_neg hk,Mk.ai h2] at h9;exact h9
 have C2:=Hi (CN.o s1 z s2 2 zd zd h2 w2 HS0.o.mkr);have HKN:=Hi hk;clear hk h2 HE;go_wp2_with fail;refine C2.o.mono ?_;rintro e w3 ⟨rfl,K3,M3⟩;have HS1:=Hi (HS0.o.call K3 M3);clear K3 M3 HS0 C2 kk1 kk2;go_upto_if 41 with fail
 go_cut [] from 41 to 47 (λwx=>∃ (back ahead:List (List Int)) (s3:Mk.S) (p0 p2:Option Addr) (c0 c2:Nat),Hy (Mk.kW n kind calls a back ahead s3=(rg,rs))/\Hy (RuA w m sv l f rb ob (ruC (.slice p0 back.length c0) (.slice (some ⟨ib,0,none⟩) 1 1) (.slice p2 ahead.length c2) ae ae 0) (.slice p0 back.length c0) (.slice (some ⟨ib,0,none⟩) 1 1) (.slice p2 ahead.length c2) back [a] ahead s3 wx))
 case first =>
  by_cases hz:z=0
  case neg =>
   have kz:(z == 0)=false:=beq_false_of_ne hz;have kz2:=dF (p:=z=0) hz;have HT:Hy (Mk.kW n kind calls a [] [] s2=(rg,rs)):=by
    have h9:=HE2.o;rw [if_neg hz,Mk.ai rfl,if_neg hz,Mk.ai rfl] at h9;exact h9
   go_wp2;go_meet
   case rel=>exact ⟨[],[],s2,none,none,0,0,HT,HS1⟩
  subst hz;obtain ⟨back,s3,h3⟩:∃ a b,Mk.row n 2 s2=(a,b):=⟨_,_,rfl⟩
  obtain ⟨ahead,s4,h4⟩:∃ a b,Mk.row n 2 s3=(a,b):=⟨_,_,rfl⟩
  have HT:Hy (Mk.kW n kind calls a back ahead s4=(rg,rs)):=by
   have h9:=HE2.o;rw [if_pos rfl,Mk.ai h3,if_pos rfl,Mk.ai h4] at h9;exact h9
  have C3:=Hi (CR.o s2 back s3 h3 w3 HS1.o.mkr);have C4:=Hi (CR.o s3 ahead s4 h4);clear h3 h4 HE2;go_wp2_with fail;refine C3.o.mono ?_;rintro e w4 ⟨v,rfl,hv,K4,M4⟩;obtain ⟨p0,c0,rfl,-⟩:=hv.form;have hA:=(HS1.o.call K4 M4).Ed (HS1.o.newRow hv);have o0c:w4.cell? ⟨ob,0,none⟩=some (.slice none 0 0):=hA.blk.cell 0;have o0f:=hA.blk.frozen 0;have HS2:Hy (RuA w m sv l f rb ob (ruC (.slice p0 back.length c0) (.slice (some ⟨ib,0,none⟩) 1 1) ae ae ae 0) (.slice p0 back.length c0) (.slice (some ⟨ib,0,none⟩) 1 1) ae back [a] [] s3 (w4.setCell ⟨ob,0,none⟩ (.slice p0 back.length c0))):=hA.set 0 _;clear hA K4 M4 hv C3 HS1;go_upto_region 10 with fail;generalize w4.setCell ⟨ob,0,none⟩ (.slice p0 back.length c0)=w5 at *
  clear o0c o0f;go_wp2_with fail;refine (C4.o w5 HS2.o.mkr).mono ?_;rintro e w6 ⟨v,rfl,hv,K4,M4⟩;obtain ⟨p2,c2,rfl,-⟩:=hv.form;have hA:=(HS2.o.call K4 M4).Dr (HS2.o.newRow hv);have o0c:w6.cell? ⟨ob,2,none⟩=some (.slice none 0 0):=hA.blk.cell 2;have o0f:=hA.blk.frozen 2;have HS3:Hy (RuA w m sv l f rb ob (ruC (.slice p0 back.length c0) (.slice (some ⟨ib,0,none⟩) 1 1) (.slice p2 ahead.length c2) ae ae 0) (.slice p0 back.length c0) (.slice (some ⟨ib,0,none⟩) 1 1) (.slice p2 ahead.length c2) back [a] ahead s4 (w6.setCell ⟨ob,2,none⟩ (.slice p2 ahead.length c2))):=hA.set 2 _;clear hA K4 M4 hv C4 HS2;go_wp2;go_meet
  case rel=>exact ⟨back,ahead,s4,p0,p2,c0,c2,HT,HS3⟩
 case rest =>
  obtain ⟨back,ahead,s3,p0,p2,c0,c2,HT,HS2⟩:=hcut;clear HE2 HS1;have HAL:Hy (a.length<=4):=by have:=lg n s;rw [HAQ.o] at this;exact this
  go_upto_block 0 with fail
  go_cut [9,10,11,12,13] from 49 to 134 (λv9 v10 v11 v12 v13 wx=>∃ (p0 p1 p2 p3 p4:Option Addr) (c0 c1 c2 c3 c4 B:Nat),Hy (rg.x=0)/\Hy (ee w m sv l f rb ob B (ruC (.slice p0 rg.back.length c0) (.slice p1 rg.ins.length c1) (.slice p2 rg.ahead.length c2) (.slice p3 rg.o.length c3) (.slice p4 rg.calls.length c4) 0) (.slice p0 rg.back.length c0) (.slice p1 rg.ins.length c1) (.slice p2 rg.ahead.length c2) (.slice p3 rg.o.length c3) (.slice p4 rg.calls.length c4) rg rs wx))
  case first =>
   have hkk:kind=1∨kind=5∨kind=2∨kind=3∨kind=4:=by have:=HK6.o;have:=HKN.o;have h7:kind≠6:=HKN.o;omega
   clear HK6 HKN;rcases hkk with rfl | rfl | rfl | rfl | rfl
   ·obtain ⟨out,s4,h4⟩:∃ q r,Mk.rep a.length (nxF n) [] s3=(q,r):=⟨_,_,rfl⟩
    obtain ⟨hrg1,hrs1⟩:rg=⟨back,[a],ahead,out,[],0⟩/\rs=s4:=by
     have h9:=HT.o;unfold Mk.kW at h9;rw [if_pos (Or.inl rfl),Mk.ai (show Mk.nexts n a.length s3=(out,s4) from h4)] at h9;exact ⟨(congrArg Prod.fst h9).symm,(congrArg Prod.snd h9).symm⟩
    subst hrs1;have HRG1:=Hi hrg1;have H4:=Hi h4;have HKB:Hy (a.length<=4):=HAL.o;have HS2b:=Hi HS2.o;clear hrg1 h4 HT HS2;have HS3:=Hi HS2b.o.done;generalize wc.heap.size=B1 at HS3;clear HS2b;go_wp2_with fail
    go_loopg [9] a.length (λgk v9 wr=>∃ (i:Nat) (L:List Int) (st:Mk.S) (od:Option Addr) (cd:Nat),v9=.int .i64 (i:Int)/\Hy (i+gk=a.length)/\Hy (Mk.rep i (nxF n) [] s3=(L,st))/\Hy (L.length=i)/\Hy (eB w m sv l f rb ob B1 (ruC (.slice p0 back.length c0) (.slice (some ⟨ib,0,none⟩) 1 1) (.slice p2 ahead.length c2) (.slice od L.length cd) ae 0) (.slice p0 back.length c0) (.slice (some ⟨ib,0,none⟩) 1 1) (.slice p2 ahead.length c2) ae ⟨back,[a],ahead,[],[],0⟩ (.slice od L.length cd) L st wr))
    case atStart=>exact ⟨0,[],s3,none,0,rfl,by show 0+a.length=a.length;omega,rfl,rfl,HS3.o,aH.nil⟩
    case round =>
     obtain ⟨i,L,st,od,cd,rfl,hi5,HR,HLL,HS⟩:=hrel;clear HS3;have b1:wr.cell? ⟨ob,1,none⟩=some (.slice (some ⟨ib,0,none⟩) 1 1):=HS.o.st.blk.cell 1;obtain ⟨oi,ci,b0⟩:=HS.o.st.in0 rfl
     by_cases hin:i<a.length
     case neg =>
      have hie:i=a.length:=by have:=hi5.o;omega
      have k1:=dF (p:=(i:Int)<a.length) zo;have k2:¬ (i:Int)<a.length:=zo;obtain ⟨rfl,rfl⟩:L=out/\st=rs:=by have h9:=H4.o;rw [<- hie,HR.o] at h9;simpa using h9
      have HS4:=Hi (HS.o.st.nB HS.o.gr);clear HS hie;go_wp2;go_meet
      case rel=>rw [HRG1.o];exact ⟨p0,some ⟨ib,0,none⟩,p2,od,none,c0,1,c2,cd,0,_,rfl,HS4.o⟩
     have k1:=dT (p:=(i:Int)<a.length) zo;have k2:(i:Int)<a.length:=zo;have ei:IntKind.i64.wrap ((i:Int)+1)=(i:Int)+1:=wrapi zo (by have:=HKB.o;omega);obtain ⟨x,st1,hx⟩:∃ a b,Mk.next n st=(a,b):=⟨_,_,rfl⟩
     have CX:=Hi (CN.o st x st1 n zqf zqf hx);have ix:=ay zqf hx;have HXI:Hy (I64 x):=by have:=HN.o;exact I64.of zo zo
     have HD:Hy (nxF n i L st=(L++[x],st1)):=by unfold nxF;rw [Mk.ai hx];exact rfl
     have B3:∀ W,Mod [m] wr W->W.cell? ⟨ob,3,none⟩=some (.slice od L.length cd):=λW k=>(HS.o.st.blk.kept k zqp).cell 3
     have HIN:=Hi hin;clear hx ix hin;go_upto_region 23 with fail;refine Sw.aL (I:=Mod [m] wr) (F0:=eB w m sv l f rb ob B1 (ruC (.slice p0 back.length c0) (.slice (some ⟨ib,0,none⟩) 1 1) (.slice p2 ahead.length c2) (.slice od L.length cd) ae 0) (.slice p0 back.length c0) (.slice (some ⟨ib,0,none⟩) 1 1) (.slice p2 ahead.length c2) ae ⟨back,[a],ahead,[],[],0⟩ (.slice od L.length cd) L st) (λ_ _ h k=>h.then (k.more zk)) 6 [(0,none),(1,none),(2,none),(3,none),(4,some (Rg.iU (eB w m sv l f rb ob B1 (ruC (.slice p0 back.length c0) (.slice (some ⟨ib,0,none⟩) 1 1) (.slice p2 ahead.length c2) (.slice od L.length cd) ae 0) (.slice p0 back.length c0) (.slice (some ⟨ib,0,none⟩) 1 1) (.slice p2 ahead.length c2) ae ⟨back,[a],ahead,[],[],0⟩ (.slice od L.length cd) L st1) (.int .i64 x))),(5,some (bK wr.heap.size #[.int .i64 x] 3 1 (eB w m sv l f rb ob B1 (ruC (.slice p0 back.length c0) (.slice (some ⟨ib,0,none⟩) 1 1) (.slice p2 ahead.length c2) (.slice od L.length cd) ae 0) (.slice p0 back.length c0) (.slice (some ⟨ib,0,none⟩) 1 1) (.slice p2 ahead.length c2) ae ⟨back,[a],ahead,[],[],0⟩ (.slice od L.length cd) L st1)))] zt zt (Sq.aW zt) ?hTS338 (mR.drew) eB.stays (eB.stays _ _ HS.o (mR.drew)) ?mainS338
     case hTS338 =>
      intro p hp T hT v;simp only [List.mem_cons,List.not_mem_nil,or_false] at hp;rcases hp with rfl | rfl | rfl | rfl | rfl | rfl <;> first | (cases hT;done) | (cases hT;first | exact bK.stays eB.stays _ | exact Rg.cZ eB.stays _ _)
     iterate 4 refine Sw.vv (w0:=wr.drew) (mR.drew) ?_
     refine Sw.xx (λw' hw' hF K Q hK=>?_) (λkv hkv=>?_)
     ·go_wp2_with fail;refine (CX.o w' hF.st.mkr).mono ?_;rintro e w'' ⟨rfl,K',M'⟩;go_wp2;exact hK _ _ (hw'.then M') ⟨rfl,hF.call K' M'⟩
     obtain ⟨_,_,rfl,_⟩:=hkv;refine Sw.xx (λw' hw' hF K Q hK=>?_) (λkv hkv=>?_)
     ·go_wp2;exact hK _ _ (hw'.alloc _) ⟨⟨_,rfl,hw'.size,Blk.new _ _ _⟩,eB.stays _ _ hF.2 (mR.alloc _)⟩
     obtain ⟨_,_,⟨nb,rfl,hnb,_⟩,_⟩:=hkv;refine Sw.bJ ?_;intro w' hw' hF;simp only [qS,qZ];obtain ⟨⟨b9,he9,-,hB⟩,hO⟩:=hF;cases he9;have HB:=Hi hB;have HO:=Hi hO;clear hB hO hw' B3 HS CX;go_wp2_with (at_builtin;refine aO (k:=1) (e:=3) (base:=B1) (l:=L) (l':=[x]) rfl _ _ 22 rfl i0 _ 8 Tryz.underlying22 ii iz0 iz1 iz2 rfl zd aF.stay aF.weak rfl HO.o.gr ⟨nb,0,none⟩ _ _ [[.int .i64 x]] rfl rfl (aP.one rfl ⟨rfl,HXI.o⟩) (λj u hu=>bi HB.o rfl hu) zqb ?_ ?_ ?_ ?_)
     ·have h4:=HLL.o;have h5:=HIN.o;have h6:=HKB.o;unfold maxLen;simp;omega
     ·have h4:=HLL.o;have h5:=HIN.o;have h6:=HKB.o;simp;omega
     ·exact HO.o.st.ord.2.2.2.2
     intro v' w7 hGP hgr _;obtain ⟨od',cd',rfl⟩:=hGP.form;have hnl:(L++[x]).length=L.length+1:=by simp
     rw [hnl] at hGP;have HNL:=Hi hnl;clear hnl;have HS7:=Hi (HO.o.push hGP hgr);have o3c:w7.cell? ⟨ob,3,none⟩=some (.slice od L.length cd):=(HO.o.st.grown hgr λb hb=>(HO.o.gr.lt b hb).1).blk.cell 3;have o3f:=(HO.o.st.grown hgr λb hb=>(HO.o.gr.lt b hb).1).blk.frozen 3;clear hGP hgr HO HB;go_wp2;go_roundg (gk - 1)
     case measure=>have:=hi5.o;have:=HIN.o;omega
     case rel =>
      refine ⟨i+1,L++[x],st1,od',cd',by rw [Int.natCast_add];rfl,?_,?_,?_,by rw [HNL.o];exact HS7.o⟩
      ·have:=hi5.o;have:=HIN.o;show i+1+(gk - 1)=a.length;omega
      ·show Mk.rep (i+1) (nxF n) [] s3=_;rw [Mk.aR HR.o];exact HD.o
      ·have:=HLL.o;show (L++[x]).length=i+1;rw [HNL.o];omega
   ·obtain ⟨out,s4,h4⟩:∃ q r,Mk.rep a.length (nxF n) [] s3=(q,r):=⟨_,_,rfl⟩
    obtain ⟨hrg1,hrs1⟩:rg=⟨back,[a],ahead,out,[],0⟩/\rs=s4:=by
     have h9:=HT.o;unfold Mk.kW at h9;rw [if_pos (Or.inr rfl),Mk.ai (show Mk.nexts n a.length s3=(out,s4) from h4)] at h9;exact ⟨(congrArg Prod.fst h9).symm,(congrArg Prod.snd h9).symm⟩
    subst hrs1;have HRG1:=Hi hrg1;have H4:=Hi h4;have HKB:Hy (a.length<=4):=HAL.o;have HS2b:=Hi HS2.o;clear hrg1 h4 HT HS2;have HS3:=Hi HS2b.o.done;generalize wc.heap.size=B1 at HS3;clear HS2b;go_wp2_with fail
    go_loopg [9] a.length (λgk v9 wr=>∃ (i:Nat) (L:List Int) (st:Mk.S) (od:Option Addr) (cd:Nat),v9=.int .i64 (i:Int)/\Hy (i+gk=a.length)/\Hy (Mk.rep i (nxF n) [] s3=(L,st))/\Hy (L.length=i)/\Hy (eB w m sv l f rb ob B1 (ruC (.slice p0 back.length c0) (.slice (some ⟨ib,0,none⟩) 1 1) (.slice p2 ahead.length c2) (.slice od L.length cd) ae 0) (.slice p0 back.length c0) (.slice (some ⟨ib,0,none⟩) 1 1) (.slice p2 ahead.length c2) ae ⟨back,[a],ahead,[],[],0⟩ (.slice od L.length cd) L st wr))
    case atStart=>exact ⟨0,[],s3,none,0,rfl,by show 0+a.length=a.length;omega,rfl,rfl,HS3.o,aH.nil⟩
    case round =>
     obtain ⟨i,L,st,od,cd,rfl,hi5,HR,HLL,HS⟩:=hrel;clear HS3;have b1:wr.cell? ⟨ob,1,none⟩=some (.slice (some ⟨ib,0,none⟩) 1 1):=HS.o.st.blk.cell 1;obtain ⟨oi,ci,b0⟩:=HS.o.st.in0 rfl
     by_cases hin:i<a.length
     case neg =>
      have hie:i=a.length:=by have:=hi5.o;omega
      have k1:=dF (p:=(i:Int)<a.length) zo;have k2:¬ (i:Int)<a.length:=zo;obtain ⟨rfl,rfl⟩:L=out/\st=rs:=by have h9:=H4.o;rw [<- hie,HR.o] at h9;simpa using h9
      have HS4:=Hi (HS.o.st.nB HS.o.gr);clear HS hie;go_wp2;go_meet
      case rel=>rw [HRG1.o];exact ⟨p0,some ⟨ib,0,none⟩,p2,od,none,c0,1,c2,cd,0,_,rfl,HS4.o⟩
     have k1:=dT (p:=(i:Int)<a.length) zo;have k2:(i:Int)<a.length:=zo;have ei:IntKind.i64.wrap ((i:Int)+1)=(i:Int)+1:=wrapi zo (by have:=HKB.o;omega);obtain ⟨x,st1,hx⟩:∃ a b,Mk.next n st=(a,b):=⟨_,_,rfl⟩
     have CX:=Hi (CN.o st x st1 n zqf zqf hx);have ix:=ay zqf hx;have HXI:Hy (I64 x):=by have:=HN.o;exact I64.of zo zo
     have HD:Hy (nxF n i L st=(L++[x],st1)):=by unfold nxF;rw [Mk.ai hx];exact rfl
     have B3:∀ W,Mod [m] wr W->W.cell? ⟨ob,3,none⟩=some (.slice od L.length cd):=λW k=>(HS.o.st.blk.kept k zqp).cell 3
     have HIN:=Hi hin;clear hx ix hin;go_upto_region 23 with fail;refine Sw.aL (I:=Mod [m] wr) (F0:=eB w m sv l f rb ob B1 (ruC (.slice p0 back.length c0) (.slice (some ⟨ib,0,none⟩) 1 1) (.slice p2 ahead.length c2) (.slice od L.length cd) ae 0) (.slice p0 back.length c0) (.slice (some ⟨ib,0,none⟩) 1 1) (.slice p2 ahead.length c2) ae ⟨back,[a],ahead,[],[],0⟩ (.slice od L.length cd) L st) (λ_ _ h k=>h.then (k.more zk)) 6 [(0,none),(1,none),(2,none),(3,none),(4,some (Rg.iU (eB w m sv l f rb ob B1 (ruC (.slice p0 back.length c0) (.slice (some ⟨ib,0,none⟩) 1 1) (.slice p2 ahead.length c2) (.slice od L.length cd) ae 0) (.slice p0 back.length c0) (.slice (some ⟨ib,0,none⟩) 1 1) (.slice p2 ahead.length c2) ae ⟨back,[a],ahead,[],[],0⟩ (.slice od L.length cd) L st1) (.int .i64 x))),(5,some (bK wr.heap.size #[.int .i64 x] 3 1 (eB w m sv l f rb ob B1 (ruC (.slice p0 back.length c0) (.slice (some ⟨ib,0,none⟩) 1 1) (.slice p2 ahead.length c2) (.slice od L.length cd) ae 0) (.slice p0 back.length c0) (.slice (some ⟨ib,0,none⟩) 1 1) (.slice p2 ahead.length c2) ae ⟨back,[a],ahead,[],[],0⟩ (.slice od L.length cd) L st1)))] zt zt (Sq.aW zt) ?hTS452 (mR.drew) eB.stays (eB.stays _ _ HS.o (mR.drew)) ?mainS452
     case hTS452 =>
      intro p hp T hT v;simp only [List.mem_cons,List.not_mem_nil,or_false] at hp;rcases hp with rfl | rfl | rfl | rfl | rfl | rfl <;> first | (cases hT;done) | (cases hT;first | exact bK.stays eB.stays _ | exact Rg.cZ eB.stays _ _)
     iterate 4 refine Sw.vv (w0:=wr.drew) (mR.drew) ?_
     refine Sw.xx (λw' hw' hF K Q hK=>?_) (λkv hkv=>?_)
     ·go_wp2_with fail;refine (CX.o w' hF.st.mkr).mono ?_;rintro e w'' ⟨rfl,K',M'⟩;go_wp2;exact hK _ _ (hw'.then M') ⟨rfl,hF.call K' M'⟩
     obtain ⟨_,_,rfl,_⟩:=hkv;refine Sw.xx (λw' hw' hF K Q hK=>?_) (λkv hkv=>?_)
     ·go_wp2;exact hK _ _ (hw'.alloc _) ⟨⟨_,rfl,hw'.size,Blk.new _ _ _⟩,eB.stays _ _ hF.2 (mR.alloc _)⟩
     obtain ⟨_,_,⟨nb,rfl,hnb,_⟩,_⟩:=hkv;refine Sw.bJ ?_;intro w' hw' hF;simp only [qS,qZ];obtain ⟨⟨b9,he9,-,hB⟩,hO⟩:=hF;cases he9;have HB:=Hi hB;have HO:=Hi hO;clear hB hO hw' B3 HS CX;go_wp2_with (at_builtin;refine aO (k:=1) (e:=3) (base:=B1) (l:=L) (l':=[x]) rfl _ _ 22 rfl i0 _ 8 Tryz.underlying22 ii iz0 iz1 iz2 rfl zd aF.stay aF.weak rfl HO.o.gr ⟨nb,0,none⟩ _ _ [[.int .i64 x]] rfl rfl (aP.one rfl ⟨rfl,HXI.o⟩) (λj u hu=>bi HB.o rfl hu) zqb ?_ ?_ ?_ ?_)
     ·have h4:=HLL.o;have h5:=HIN.o;have h6:=HKB.o;unfold maxLen;simp;omega
     ·have h4:=HLL.o;have h5:=HIN.o;have h6:=HKB.o;simp;omega
     ·exact HO.o.st.ord.2.2.2.2
     intro v' w7 hGP hgr _;obtain ⟨od',cd',rfl⟩:=hGP.form;have hnl:(L++[x]).length=L.length+1:=by simp
     rw [hnl] at hGP;have HNL:=Hi hnl;clear hnl;have HS7:=Hi (HO.o.push hGP hgr);have o3c:w7.cell? ⟨ob,3,none⟩=some (.slice od L.length cd):=(HO.o.st.grown hgr λb hb=>(HO.o.gr.lt b hb).1).blk.cell 3;have o3f:=(HO.o.st.grown hgr λb hb=>(HO.o.gr.lt b hb).1).blk.frozen 3;clear hGP hgr HO HB;go_wp2;go_roundg (gk - 1)
     case measure=>have:=hi5.o;have:=HIN.o;omega
     case rel =>
      refine ⟨i+1,L++[x],st1,od',cd',by rw [Int.natCast_add];rfl,?_,?_,?_,by rw [HNL.o];exact HS7.o⟩
      ·have:=hi5.o;have:=HIN.o;show i+1+(gk - 1)=a.length;omega
      ·show Mk.rep (i+1) (nxF n) [] s3=_;rw [Mk.aR HR.o];exact HD.o
      ·have:=HLL.o;show (L++[x]).length=i+1;rw [HNL.o];omega
   ·obtain ⟨kk,s4,hkk⟩:∃ a b,Mk.next 4 s3=(a,b):=⟨_,_,rfl⟩
    have ikk:=ay zd hkk;obtain ⟨K,rfl⟩:∃ K:Nat,kk=K:=⟨kk.toNat,by omega⟩
    obtain ⟨out,s5,h4⟩:∃ a b,Mk.rep K (nxF n) [] s4=(a,b):=⟨_,_,rfl⟩
    obtain ⟨hrg1,hrs1⟩:rg=⟨back,[a],ahead,out,[],0⟩/\rs=s5:=by
     have h9:=HT.o;unfold Mk.kW at h9;rw [if_neg zd,if_pos rfl,Mk.ai hkk,Int.toNat_natCast,Mk.ai (show Mk.nexts n K s4=(out,s5) from h4)] at h9;exact ⟨(congrArg Prod.fst h9).symm,(congrArg Prod.snd h9).symm⟩
    subst hrs1;have HRG1:=Hi hrg1;have H4:=Hi h4;have HKB:Hy (K<=4):=by show K<=4;omega
    have CK:=Hi (CN.o s3 K s4 4 zd zd hkk wc HS2.o.mkr);clear hrg1 h4 HT hkk ikk;go_wp2_with fail;refine CK.o.mono ?_;rintro e w4 ⟨rfl,K4,M4⟩;have HS2b:=Hi (HS2.o.call K4 M4);clear K4 M4 HS2 CK;have HS3:=Hi HS2b.o.done;generalize w4.heap.size=B1 at HS3;clear HS2b;go_wp2_with fail
    go_loopg [11] K (λgk v9 wr=>∃ (i:Nat) (L:List Int) (st:Mk.S) (od:Option Addr) (cd:Nat),v9=.int .i64 (i:Int)/\Hy (i+gk=K)/\Hy (Mk.rep i (nxF n) [] s4=(L,st))/\Hy (L.length=i)/\Hy (eB w m sv l f rb ob B1 (ruC (.slice p0 back.length c0) (.slice (some ⟨ib,0,none⟩) 1 1) (.slice p2 ahead.length c2) (.slice od L.length cd) ae 0) (.slice p0 back.length c0) (.slice (some ⟨ib,0,none⟩) 1 1) (.slice p2 ahead.length c2) ae ⟨back,[a],ahead,[],[],0⟩ (.slice od L.length cd) L st wr))
    case atStart=>exact ⟨0,[],s4,none,0,rfl,by show 0+K=K;omega,rfl,rfl,HS3.o,aH.nil⟩
    case round =>
     obtain ⟨i,L,st,od,cd,rfl,hi5,HR,HLL,HS⟩:=hrel;clear HS3
     by_cases hin:i<K
     case neg =>
      have hie:i=K:=by have:=hi5.o;omega
      have k1:=dF (p:=(i:Int)<K) zo;have k2:¬ (i:Int)<K:=zo;obtain ⟨rfl,rfl⟩:L=out/\st=rs:=by have h9:=H4.o;rw [<- hie,HR.o] at h9;simpa using h9
      have HS4:=Hi (HS.o.st.nB HS.o.gr);clear HS hie;go_wp2;go_meet
      case rel=>rw [HRG1.o];exact ⟨p0,some ⟨ib,0,none⟩,p2,od,none,c0,1,c2,cd,0,_,rfl,HS4.o⟩
     have k1:=dT (p:=(i:Int)<K) zo;have k2:(i:Int)<K:=zo;have ei:IntKind.i64.wrap ((i:Int)+1)=(i:Int)+1:=wrapi zo (by have:=HKB.o;omega);obtain ⟨x,st1,hx⟩:∃ a b,Mk.next n st=(a,b):=⟨_,_,rfl⟩
     have CX:=Hi (CN.o st x st1 n zqf zqf hx);have ix:=ay zqf hx;have HXI:Hy (I64 x):=by have:=HN.o;exact I64.of zo zo
     have HD:Hy (nxF n i L st=(L++[x],st1)):=by unfold nxF;rw [Mk.ai hx];exact rfl
     have B3:∀ W,Mod [m] wr W->W.cell? ⟨ob,3,none⟩=some (.slice od L.length cd):=λW k=>(HS.o.st.blk.kept k zqp).cell 3
     have HIN:=Hi hin;clear hx ix hin;go_upto_region 29 with fail;refine Sw.aL (I:=Mod [m] wr) (F0:=eB w m sv l f rb ob B1 (ruC (.slice p0 back.length c0) (.slice (some ⟨ib,0,none⟩) 1 1) (.slice p2 ahead.length c2) (.slice od L.length cd) ae 0) (.slice p0 back.length c0) (.slice (some ⟨ib,0,none⟩) 1 1) (.slice p2 ahead.length c2) ae ⟨back,[a],ahead,[],[],0⟩ (.slice od L.length cd) L st) (λ_ _ h k=>h.then (k.more zk)) 6 [(0,none),(1,none),(2,none),(3,none),(4,some (Rg.iU (eB w m sv l f rb ob B1 (ruC (.slice p0 back.length c0) (.slice (some ⟨ib,0,none⟩) 1 1) (.slice p2 ahead.length c2) (.slice od L.length cd) ae 0) (.slice p0 back.length c0) (.slice (some ⟨ib,0,none⟩) 1 1) (.slice p2 ahead.length c2) ae ⟨back,[a],ahead,[],[],0⟩ (.slice od L.length cd) L st1) (.int .i64 x))),(5,some (bK wr.heap.size #[.int .i64 x] 3 1 (eB w m sv l f rb ob B1 (ruC (.slice p0 back.length c0) (.slice (some ⟨ib,0,none⟩) 1 1) (.slice p2 ahead.length c2) (.slice od L.length cd) ae 0) (.slice p0 back.length c0) (.slice (some ⟨ib,0,none⟩) 1 1) (.slice p2 ahead.length c2) ae ⟨back,[a],ahead,[],[],0⟩ (.slice od L.length cd) L st1)))] zt zt (Sq.aW zt) ?hTS572 (mR.drew) eB.stays (eB.stays _ _ HS.o (mR.drew)) ?mainS572
     case hTS572 =>
      intro p hp T hT v;simp only [List.mem_cons,List.not_mem_nil,or_false] at hp;rcases hp with rfl | rfl | rfl | rfl | rfl | rfl <;> first | (cases hT;done) | (cases hT;first | exact bK.stays eB.stays _ | exact Rg.cZ eB.stays _ _)
     iterate 4 refine Sw.vv (w0:=wr.drew) (mR.drew) ?_
     refine Sw.xx (λw' hw' hF K Q hK=>?_) (λkv hkv=>?_)
     ·go_wp2_with fail;refine (CX.o w' hF.st.mkr).mono ?_;rintro e w'' ⟨rfl,K',M'⟩;go_wp2;exact hK _ _ (hw'.then M') ⟨rfl,hF.call K' M'⟩
     obtain ⟨_,_,rfl,_⟩:=hkv;refine Sw.xx (λw' hw' hF K Q hK=>?_) (λkv hkv=>?_)
     ·go_wp2;exact hK _ _ (hw'.alloc _) ⟨⟨_,rfl,hw'.size,Blk.new _ _ _⟩,eB.stays _ _ hF.2 (mR.alloc _)⟩
     obtain ⟨_,_,⟨nb,rfl,hnb,_⟩,_⟩:=hkv;refine Sw.bJ ?_;intro w' hw' hF;simp only [qS,qZ];obtain ⟨⟨b9,he9,-,hB⟩,hO⟩:=hF;cases he9;have HB:=Hi hB;have HO:=Hi hO;clear hB hO hw' B3 HS CX;go_wp2_with (at_builtin;refine aO (k:=1) (e:=3) (base:=B1) (l:=L) (l':=[x]) rfl _ _ 22 rfl i0 _ 8 Tryz.underlying22 ii iz0 iz1 iz2 rfl zd aF.stay aF.weak rfl HO.o.gr ⟨nb,0,none⟩ _ _ [[.int .i64 x]] rfl rfl (aP.one rfl ⟨rfl,HXI.o⟩) (λj u hu=>bi HB.o rfl hu) zqb ?_ ?_ ?_ ?_)
     ·have h4:=HLL.o;have h5:=HIN.o;have h6:=HKB.o;unfold maxLen;simp;omega
     ·have h4:=HLL.o;have h5:=HIN.o;have h6:=HKB.o;simp;omega
     ·exact HO.o.st.ord.2.2.2.2
     intro v' w7 hGP hgr _;obtain ⟨od',cd',rfl⟩:=hGP.form;have hnl:(L++[x]).length=L.length+1:=by simp
     rw [hnl] at hGP;have HNL:=Hi hnl;clear hnl;have HS7:=Hi (HO.o.push hGP hgr);have o3c:w7.cell? ⟨ob,3,none⟩=some (.slice od L.length cd):=(HO.o.st.grown hgr λb hb=>(HO.o.gr.lt b hb).1).blk.cell 3;have o3f:=(HO.o.st.grown hgr λb hb=>(HO.o.gr.lt b hb).1).blk.frozen 3;clear hGP hgr HO HB;go_wp2;go_roundg (gk - 1)
     case measure=>have:=hi5.o;have:=HIN.o;omega
     case rel =>
      refine ⟨i+1,L++[x],st1,od',cd',by rw [Int.natCast_add];rfl,?_,?_,?_,by rw [HNL.o];exact HS7.o⟩
      ·have:=hi5.o;have:=HIN.o;show i+1+(gk - 1)=K;omega
      ·show Mk.rep (i+1) (nxF n) [] s4=_;rw [Mk.aR HR.o];exact HD.o
      ·have:=HLL.o;show (L++[x]).length=i+1;rw [HNL.o];omega
   ·obtain ⟨more,s4,h4⟩:∃ a b,Mk.row n 2 s3=(a,b):=⟨_,_,rfl⟩
    have HMO:Hy (more.length<=2):=by have:=xe n s3;rw [h4] at this;exact this
    have H4:=Hi h4;have C4:=Hi (CR.o s3 more s4 h4);clear h4;have B1:∀ W,Mod [m] wc W->W.cell? ⟨ob,1,none⟩=some (.slice (some ⟨ib,0,none⟩) 1 1):=λW k=>(HS2.o.blk.kept k (by have:=HS2.o.ord;simp;omega)).cell 1
    go_upto_region 31 with fail
    go_cut [] from 124 to 129 (λwx=>∃ (p1:Option Addr) (c1:Nat),Hy (RuA w m sv l f rb ob (ruC (.slice p0 back.length c0) (.slice p1 (a::more).length c1) (.slice p2 ahead.length c2) ae ae 0) (.slice p0 back.length c0) (.slice p1 (a::more).length c1) (.slice p2 ahead.length c2) back (a::more) ahead s4 wx))
    case first =>
     refine Sw.aL (I:=Mod [m] wc) (F0:=RuA w m sv l f rb ob (ruC (.slice p0 back.length c0) (.slice (some ⟨ib,0,none⟩) 1 1) (.slice p2 ahead.length c2) ae ae 0) (.slice p0 back.length c0) (.slice (some ⟨ib,0,none⟩) 1 1) (.slice p2 ahead.length c2) back [a] ahead s3) (λ_ _ h k=>h.then (k.more zk)) 4 [(0,none),(1,none),(2,none),(3,some (lT (λx=>ob<x/\(Value.slice (some ⟨ib,0,none⟩) 1 1).ownBlock≠some x) more (RuA w m sv l f rb ob (ruC (.slice p0 back.length c0) (.slice (some ⟨ib,0,none⟩) 1 1) (.slice p2 ahead.length c2) ae ae 0) (.slice p0 back.length c0) (.slice (some ⟨ib,0,none⟩) 1 1) (.slice p2 ahead.length c2) back [a] ahead s4)))] zt zt (Sq.aW zt) ?hTS649 (mR.drew) RuA.stays (RuA.stays _ _ HS2.o (mR.drew)) ?mainS649
     case hTS649 =>
      intro p hp T hT v;simp only [List.mem_cons,List.not_mem_nil,or_false] at hp;rcases hp with rfl | rfl | rfl | rfl <;> first | (cases hT;done) | (cases hT;first | exact lT.stays RuA.stays _)
     iterate 3 refine Sw.vv (w0:=wc.drew) (mR.drew) ?_
     refine Sw.xx (λw' hw' hF K Q hK=>?_) (λkv hkv=>?_)
     ·go_wp2_with fail;refine (C4.o w' hF.mkr).mono ?_;rintro e w'' ⟨v,rfl,hv,K',M'⟩;obtain ⟨oy,cy,rfl,-⟩:=hv.form;go_wp2;exact hK _ _ (hw'.then M') ⟨⟨oy,cy,rfl,hF.newRow hv⟩,hF.call K' M'⟩
     obtain ⟨_,_,⟨oy,cy,rfl,_⟩,_⟩:=hkv;refine Sw.bJ ?_;intro w' hw' hF;simp only [qS,qZ];obtain ⟨⟨oy3,cy3,he9,hS⟩,hO⟩:=hF;cases he9;have HO:=Hi hO;clear hO hw' B1 HS2;cases oy with
     | none =>
      have hm0:more=[]:=hS.lw;subst hm0;have o1c:w'.cell? ⟨ob,1,none⟩=some (.slice (some ⟨ib,0,none⟩) 1 1):=HO.o.blk.cell 1;have o1f:=HO.o.blk.frozen 1;have HP:Hy (RuA w m sv l f rb ob (ruC (.slice p0 back.length c0) (.slice (some ⟨ib,0,none⟩) 1 1) (.slice p2 ahead.length c2) ae ae 0) (.slice p0 back.length c0) (.slice (some ⟨ib,0,none⟩) 1 1) (.slice p2 ahead.length c2) back [a] ahead s4 (w'.setCell ⟨ob,1,none⟩ (.slice (some ⟨ib,0,none⟩) 1 1))):=HO.o.set 1 (.slice (some ⟨ib,0,none⟩) 1 1);clear hS;go_wp2_with (at_builtin;refine lB rfl _ _ 49 rfl t0 Tryz.underlying49 ti rfl HO.o.gi _ rfl ?_);clear HO;go_wp2;go_meet
      case rel=>exact ⟨_,_,HP.o⟩
     | some ad =>
      obtain ⟨css,hE,hN⟩:=hS.elems;have HE3:=Hi hE;have HN3:=Hi hN;clear hE hN hS;go_wp2_with (at_builtin;refine aO (k:=1) (e:=22) (base:=ob+1) (l:=[a]) (l':=more) rfl _ _ 49 rfl t0 _ 24 Tryz.underlying49 ti tz0 tz1 tz2 rfl zd aM.stay aM.weak rfl HO.o.gi ad _ _ css rfl rfl HE3.o HN3.o (qM HE3.o) ?_ ?_ ?_ ?_)
      ·have:=HMO.o;show 1+more.length<=maxLen;unfold maxLen;omega
      ·have:=HMO.o;show (1+more.length)*24<=140737488355328;omega
      ·have:=HO.o.ord;omega
      intro v' w5 hGP hgr hbk;obtain ⟨ov,cv,rfl⟩:=hGP.form;have o1c:w5.cell? ⟨ob,1,none⟩=some (.slice (some ⟨ib,0,none⟩) 1 1):=(HO.o.blk.grew hgr (λhb=>by have:=(HO.o.gi.lt _ hb).1;omega)).cell 1;have o1f:=(HO.o.blk.grew hgr (λhb=>by have:=(HO.o.gi.lt _ hb).1;omega)).frozen 1;have HP:Hy (RuA w m sv l f rb ob (ruC (.slice p0 back.length c0) (.slice ov ([a]++more).length cv) (.slice p2 ahead.length c2) ae ae 0) (.slice p0 back.length c0) (.slice ov ([a]++more).length cv) (.slice p2 ahead.length c2) back ([a]++more) ahead s4 (w5.setCell ⟨ob,1,none⟩ (.slice ov ([a]++more).length cv))):=HO.o.push hGP hgr hbk;clear hGP hgr hbk HO HE3 HN3;generalize hln:([a]++more).length=ln at *
      have HLN:=Hi hln;clear hln;go_wp2;go_meet
      case rel =>
       have h9:=HP.o;rw [<- HLN.o] at h9;exact ⟨ov,cv,h9⟩
    case rest =>
     obtain ⟨p1,c1,HS3⟩:=hcut;clear HS2 B1 C4;obtain ⟨x,s5,hx⟩:∃ a b,Mk.next n s4=(a,b):=⟨_,_,rfl⟩
     obtain ⟨hrg1,hrs1⟩:rg=⟨back,a::more,ahead,[x],[],0⟩/\rs=s5:=by
      have h9:=HT.o;unfold Mk.kW at h9;rw [if_neg zd,if_neg zd,if_pos rfl,Mk.ai H4.o,Mk.ai hx] at h9;exact ⟨(congrArg Prod.fst h9).symm,(congrArg Prod.snd h9).symm⟩
     subst hrs1;have HRG1:=Hi hrg1;have ix:=ay zqf hx;have HXI:Hy (I64 x):=by have:=HN.o;exact I64.of zo zo
     have CX:=Hi (CN.o s4 x rs n zqf zqf hx wc HS3.o.mkr);clear hx ix HT hrg1;generalize hln:(a::more).length=ln at *
     have HLN:=Hi hln;clear hln;go_wp2_with fail;refine CX.o.mono ?_;rintro e w4 ⟨rfl,K4,M4⟩;have hA:=(HS3.o.call K4 M4).done;have al:Mod [] w4 (w4.alloc (.cells #[.int .i64 x] 3)):=mR.alloc _;have hG:aH w4.heap.size 3 1 aF (λ_=>False) (.slice (some ⟨w4.heap.size,0,none⟩) 1 1) [x] (w4.alloc (.cells #[.int .i64 x] 3)) :=
      aH.made (l:=[x]) (css:=[[.int .i64 x]]) aF.weak (nR _) (Blk.new _ _ _) rfl (aP.one rfl ⟨rfl,HXI.o⟩) (λ_ _ h=>h.elim) (by simp [maxLen])
     have hA2:=(ee.stays _ _ hA al).nB hG;have o3c:(w4.alloc (.cells #[.int .i64 x] 3)).cell? ⟨ob,3,none⟩=some (.slice none 0 0):=hA2.blk.cell 3;have o3f:=hA2.blk.frozen 3;have HS4:=Hi (hA2.set 3 (.slice (some ⟨w4.heap.size,0,none⟩) 1 1));clear hA al hG hA2 K4 M4 CX HS3;go_wp2;go_meet
     case rel =>
      have h9:=HS4.o;rw [<- HLN.o] at h9;rw [HRG1.o];exact ⟨p0,p1,p2,some ⟨w4.heap.size,0,none⟩,none,c0,c1,c2,1,0,_,rfl,h9⟩
   ·obtain ⟨more,s4,h4⟩:∃ a b,Mk.row n 2 s3=(a,b):=⟨_,_,rfl⟩
    have HMO:Hy (more.length<=2):=by have:=xe n s3;rw [h4] at this;exact this
    have H4:=Hi h4;have C4:=Hi (CR.o s3 more s4 h4);clear h4;have B1:∀ W,Mod [m] wc W->W.cell? ⟨ob,1,none⟩=some (.slice (some ⟨ib,0,none⟩) 1 1):=λW k=>(HS2.o.blk.kept k (by have:=HS2.o.ord;simp;omega)).cell 1
    go_upto_region 12 with fail
    go_cut [] from 49 to 54 (λwx=>∃ (p1:Option Addr) (c1:Nat),Hy (RuA w m sv l f rb ob (ruC (.slice p0 back.length c0) (.slice p1 (a::more).length c1) (.slice p2 ahead.length c2) ae ae 0) (.slice p0 back.length c0) (.slice p1 (a::more).length c1) (.slice p2 ahead.length c2) back (a::more) ahead s4 wx))
    case first =>
     refine Sw.aL (I:=Mod [m] wc) (F0:=RuA w m sv l f rb ob (ruC (.slice p0 back.length c0) (.slice (some ⟨ib,0,none⟩) 1 1) (.slice p2 ahead.length c2) ae ae 0) (.slice p0 back.length c0) (.slice (some ⟨ib,0,none⟩) 1 1) (.slice p2 ahead.length c2) back [a] ahead s3) (λ_ _ h k=>h.then (k.more zk)) 4 [(0,none),(1,none),(2,none),(3,some (lT (λx=>ob<x/\(Value.slice (some ⟨ib,0,none⟩) 1 1).ownBlock≠some x) more (RuA w m sv l f rb ob (ruC (.slice p0 back.length c0) (.slice (some ⟨ib,0,none⟩) 1 1) (.slice p2 ahead.length c2) ae ae 0) (.slice p0 back.length c0) (.slice (some ⟨ib,0,none⟩) 1 1) (.slice p2 ahead.length c2) back [a] ahead s4)))] zt zt (Sq.aW zt) ?hTS766 (mR.drew) RuA.stays (RuA.stays _ _ HS2.o (mR.drew)) ?mainS766
     case hTS766 =>
      intro p hp T hT v;simp only [List.mem_cons,List.not_mem_nil,or_false] at hp;rcases hp with rfl | rfl | rfl | rfl <;> first | (cases hT;done) | (cases hT;first | exact lT.stays RuA.stays _)
     iterate 3 refine Sw.vv (w0:=wc.drew) (mR.drew) ?_
     refine Sw.xx (λw' hw' hF K Q hK=>?_) (λkv hkv=>?_)
     ·go_wp2_with fail;refine (C4.o w' hF.mkr).mono ?_;rintro e w'' ⟨v,rfl,hv,K',M'⟩;obtain ⟨oy,cy,rfl,-⟩:=hv.form;go_wp2;exact hK _ _ (hw'.then M') ⟨⟨oy,cy,rfl,hF.newRow hv⟩,hF.call K' M'⟩
     obtain ⟨_,_,⟨oy,cy,rfl,_⟩,_⟩:=hkv;refine Sw.bJ ?_;intro w' hw' hF;simp only [qS,qZ];obtain ⟨⟨oy3,cy3,he9,hS⟩,hO⟩:=hF;cases he9;have HO:=Hi hO;clear hO hw' B1 HS2;cases oy with
     | none =>
      have hm0:more=[]:=hS.lw;subst hm0;have o1c:w'.cell? ⟨ob,1,none⟩=some (.slice (some ⟨ib,0,none⟩) 1 1):=HO.o.blk.cell 1;have o1f:=HO.o.blk.frozen 1;have HP:Hy (RuA w m sv l f rb ob (ruC (.slice p0 back.length c0) (.slice (some ⟨ib,0,none⟩) 1 1) (.slice p2 ahead.length c2) ae ae 0) (.slice p0 back.length c0) (.slice (some ⟨ib,0,none⟩) 1 1) (.slice p2 ahead.length c2) back [a] ahead s4 (w'.setCell ⟨ob,1,none⟩ (.slice (some ⟨ib,0,none⟩) 1 1))):=HO.o.set 1 (.slice (some ⟨ib,0,none⟩) 1 1);clear hS;go_wp2_with (at_builtin;refine lB rfl _ _ 49 rfl t0 Tryz.underlying49 ti rfl HO.o.gi _ rfl ?_);clear HO;go_wp2;go_meet
      case rel=>exact ⟨_,_,HP.o⟩
     | some ad =>
      obtain ⟨css,hE,hN⟩:=hS.elems;have HE3:=Hi hE;have HN3:=Hi hN;clear hE hN hS;go_wp2_with (at_builtin;refine aO (k:=1) (e:=22) (base:=ob+1) (l:=[a]) (l':=more) rfl _ _ 49 rfl t0 _ 24 Tryz.underlying49 ti tz0 tz1 tz2 rfl zd aM.stay aM.weak rfl HO.o.gi ad _ _ css rfl rfl HE3.o HN3.o (qM HE3.o) ?_ ?_ ?_ ?_)
      ·have:=HMO.o;show 1+more.length<=maxLen;unfold maxLen;omega
      ·have:=HMO.o;show (1+more.length)*24<=140737488355328;omega
      ·have:=HO.o.ord;omega
      intro v' w5 hGP hgr hbk;obtain ⟨ov,cv,rfl⟩:=hGP.form;have o1c:w5.cell? ⟨ob,1,none⟩=some (.slice (some ⟨ib,0,none⟩) 1 1):=(HO.o.blk.grew hgr (λhb=>by have:=(HO.o.gi.lt _ hb).1;omega)).cell 1;have o1f:=(HO.o.blk.grew hgr (λhb=>by have:=(HO.o.gi.lt _ hb).1;omega)).frozen 1;have HP:Hy (RuA w m sv l f rb ob (ruC (.slice p0 back.length c0) (.slice ov ([a]++more).length cv) (.slice p2 ahead.length c2) ae ae 0) (.slice p0 back.length c0) (.slice ov ([a]++more).length cv) (.slice p2 ahead.length c2) back ([a]++more) ahead s4 (w5.setCell ⟨ob,1,none⟩ (.slice ov ([a]++more).length cv))):=HO.o.push hGP hgr hbk;clear hGP hgr hbk HO HE3 HN3;generalize hln:([a]++more).length=ln at *
      have HLN:=Hi hln;clear hln;go_wp2;go_meet
      case rel =>
       have h9:=HP.o;rw [<- HLN.o] at h9;exact ⟨ov,cv,h9⟩
    case rest =>
     obtain ⟨p1,c1,HS3⟩:=hcut;clear HS2 B1 C4;obtain ⟨kk,s5,hkk⟩:∃ a b,Mk.next 3 s4=(a,b):=⟨_,_,rfl⟩
     have ikk:=ay zd hkk;obtain ⟨K,rfl⟩:∃ K:Nat,kk=K:=⟨kk.toNat,by omega⟩
     obtain ⟨cs,s6,h6⟩:∃ q r,(if calls.length=0 then ([],s5) else Mk.rep K (caF (a::more).length calls) [] s5:List dY×Mk.S)=(q,r):=⟨_,_,rfl⟩
     obtain ⟨hrg1,hrs1⟩:rg=⟨back,a::more,ahead,[],cs,0⟩/\rs=s6:=by
      have h9:=HT.o;unfold Mk.kW at h9;rw [if_neg zd,if_neg zd,if_neg zd,Mk.ai H4.o,Mk.ai hkk,Int.toNat_natCast,Mk.ai h6] at h9;exact ⟨(congrArg Prod.fst h9).symm,(congrArg Prod.snd h9).symm⟩
     subst hrs1;have HRG1:=Hi hrg1;have H6:=Hi h6;have HKB:Hy (K<=3):=by show K<=3;omega
     have CK:=Hi (CN.o s4 K s5 3 zd zd hkk wc HS3.o.mkr);clear hrg1 h6 HT hkk ikk;have hlb:(a::more).length<=3:=by have:=HMO.o;simp;omega
     generalize hln:(a::more).length=ln at *
     have hl1:0<ln:=by rw [<- hln];simp
     have HLN:=Hi hln;have HLB:=Hi (And.intro hl1 hlb);clear hln hlb hl1;go_wp2_with fail;refine CK.o.mono ?_;rintro e w4 ⟨rfl,K4,M4⟩;have HS4:=Hi (HS3.o.call K4 M4).done;have HMW:Hy (Mod [m] w w4):=HS4.o.mod;clear K4 M4 HS3 CK;generalize w4.heap.size=B1 at HS4;go_wp2_with fail
     go_loopg [13] K (λgk v13 wr=>∃ (i:Nat) (L:List dY) (st:Mk.S) (od:Option Addr) (cd:Nat),v13=.int .i64 (i:Int)/\Hy (i+gk=K)/\Hy (Mk.rep i (caF ln calls) [] s5=(L,st))/\Hy (L.length=i)/\Hy (calls.length=0->i=0)/\Hy (jL w m sv l f rb ob B1 (ruC (.slice p0 back.length c0) (.slice p1 ln c1) (.slice p2 ahead.length c2) ae (.slice od L.length cd) 0) (.slice p0 back.length c0) (.slice p1 ln c1) (.slice p2 ahead.length c2) ae ⟨back,a::more,ahead,[],[],0⟩ (.slice od L.length cd) L st wr))
     case atStart=>exact ⟨0,[],s5,none,0,rfl,by show 0+K=K;omega,rfl,rfl,λ_=>rfl,HS4.o,aH.nil⟩
     case round =>
      obtain ⟨i,L,st,od,cd,rfl,hi5,HR,HLL,HZ0,HS⟩:=hrel;clear HS4;have stop:(i=K∨calls.length=0)->L=cs/\st=rs:=λh=>by
       have h9:=H6.o;have h8:=HR.o
       by_cases hc0:calls.length=0
       ·rw [if_pos hc0] at h9;rw [HZ0.o hc0,Mk.sM] at h8;rw [h8] at h9;simpa using h9
       ·rw [if_neg hc0,<- h.resolve_right hc0,h8] at h9;simpa using h9
      by_cases hin:i<K
      case neg =>
       have k1:=dF (p:=(i:Int)<K) zo;have k2:¬ (i:Int)<K:=zo;obtain ⟨rfl,rfl⟩:=stop (.inl (by have:=hi5.o;omega));have HS5:=Hi (HS.o.st.qO HS.o.gr);clear HS stop;go_wp2;go_meet
       case rel =>
        have h9:=HS5.o;rw [<- HLN.o] at h9;rw [HRG1.o];exact ⟨p0,p1,p2,none,od,c0,c1,c2,0,cd,_,rfl,h9⟩
      have k1:=dT (p:=(i:Int)<K) zo;have k2:(i:Int)<K:=zo
      by_cases hc0:calls.length=0
      ·have k3:=dF (p:=(0:Int)<calls.length) zo;have k4:¬ (0:Int)<calls.length:=zo;obtain ⟨rfl,rfl⟩:=stop (.inr hc0);have HS5:=Hi (HS.o.st.qO HS.o.gr);clear HS stop hc0;go_wp2;go_meet
       case rel =>
        have h9:=HS5.o;rw [<- HLN.o] at h9;rw [HRG1.o];exact ⟨p0,p1,p2,none,od,c0,c1,c2,0,cd,_,rfl,h9⟩
      have k3:=dT (p:=(0:Int)<calls.length) zo;have k4:(0:Int)<calls.length:=zo;have ei:IntKind.i64.wrap ((i:Int)+1)=(i:Int)+1:=wrapi zo (by have:=HKB.o;omega);obtain ⟨x,st1,hx⟩:∃ a b,Mk.next ln st=(a,b):=⟨_,_,rfl⟩
      obtain ⟨y,st2,hy⟩:∃ a b,Mk.next calls.length st1=(a,b):=⟨_,_,rfl⟩
      have CX:=Hi (CN.o st x st1 ln (by have:=HLB.o;omega) (by have:=HLB.o;omega) hx);have CY:=Hi (CN.o st1 y st2 calls.length zo (by have:=HCL.o;omega) hy);have ix:=ay (by have:=HLB.o;omega) hx;have iy:=ay zo hy;obtain ⟨Q,rfl⟩:∃ Q:Nat,y=Q:=⟨y.toNat,by omega⟩
      have hQ:Q<calls.length:=zo;obtain ⟨ac,hac,hab,ccs,-,hc1,-,hc2,hcI⟩:=HC.o.at Q hQ;subst hac;subst hc2;have c0':=hc1 zd;simp only [gZ,Nat.mul_one] at c0';have hd:calls.getD Q 0=calls[Q]:=by rw [List.getD_eq_getElem?_getD,gE hQ];rfl
      obtain ⟨z,hz⟩:∃ z,z=calls[Q]:=⟨_,rfl⟩
      rw [<- hz] at c0' hcI hd;have C0:∀ W,Mod [m] wr W->W.cell? (ac.add Q)=some (.int .i64 z):=λW k=>by
       have k9:Mod [m] w W:=HS.o.st.mod.then k
       rw [k9.cell (aV c0') (by rw [add_block];simpa using hab)];exact c0'
      have q1:(0:Int)<=Q:=zo;have q2:(Q:Int)<calls.length:=zo;have HXI:Hy (I64 x/\I64 z):=⟨by have:=HLB.o;exact I64.of zo zo,hcI⟩
      have HD:Hy (caF ln calls i L st=(L++[⟨x,z⟩],st2)):=by unfold caF;rw [Mk.ai hx,Mk.ai hy,Int.toNat_natCast,hd];exact rfl
      have BB1:∀ W,Mod [m] wr W->W.cell? ⟨ob,1,none⟩=some (.slice p1 ln c1):=λW k=>(HS.o.st.blk.kept k zqp).cell 1
      have B4:∀ W,Mod [m] wr W->W.cell? ⟨ob,4,none⟩=some (.slice od L.length cd):=λW k=>(HS.o.st.blk.kept k zqp).cell 4
      have HIN:=Hi hin;have HC0:Hy (¬ calls.length=0):=hc0;clear hx hy ix iy hin hc0 stop hc1 c0' hcI hd hz hab hQ;go_upto_region 17 with fail;refine Sw.aL (I:=Mod [m] wr) (F0:=jL w m sv l f rb ob B1 (ruC (.slice p0 back.length c0) (.slice p1 ln c1) (.slice p2 ahead.length c2) ae (.slice od L.length cd) 0) (.slice p0 back.length c0) (.slice p1 ln c1) (.slice p2 ahead.length c2) ae ⟨back,a::more,ahead,[],[],0⟩ (.slice od L.length cd) L st) (λ_ _ h k=>h.then (k.more zk)) 16 [(0,none),(1,none),(2,none),(3,none),(4,none),(5,none),(7,none),(8,none),(9,none),(10,none),(6,some (Rg.iU (jL w m sv l f rb ob B1 (ruC (.slice p0 back.length c0) (.slice p1 ln c1) (.slice p2 ahead.length c2) ae (.slice od L.length cd) 0) (.slice p0 back.length c0) (.slice p1 ln c1) (.slice p2 ahead.length c2) ae ⟨back,a::more,ahead,[],[],0⟩ (.slice od L.length cd) L st1) (.int .i64 x))),(11,some (Rg.iU (jL w m sv l f rb ob B1 (ruC (.slice p0 back.length c0) (.slice p1 ln c1) (.slice p2 ahead.length c2) ae (.slice od L.length cd) 0) (.slice p0 back.length c0) (.slice p1 ln c1) (.slice p2 ahead.length c2) ae ⟨back,a::more,ahead,[],[],0⟩ (.slice od L.length cd) L st2) (.int .i64 (Q:Int)))),(12,none),(13,none),(14,none),(15,some (bK wr.heap.size #[.int .i64 x,.int .i64 z] 51 1 (jL w m sv l f rb ob B1 (ruC (.slice p0 back.length c0) (.slice p1 ln c1) (.slice p2 ahead.length c2) ae (.slice od L.length cd) 0) (.slice p0 back.length c0) (.slice p1 ln c1) (.slice p2 ahead.length c2) ae ⟨back,a::more,ahead,[],[],0⟩ (.slice od L.length cd) L st2)))] zt zt (Sq.aW zt) ?hTS945 (mR.drew) jL.stays (jL.stays _ _ HS.o (mR.drew)) ?mainS945
      case hTS945 =>
       intro p hp T hT v;simp only [List.mem_cons,List.not_mem_nil,or_false] at hp;rcases hp with rfl | rfl | rfl | rfl | rfl | rfl | rfl | rfl | rfl | rfl | rfl | rfl | rfl | rfl | rfl | rfl <;> first | (cases hT;done) | (cases hT;first | exact bK.stays jL.stays _ | exact Rg.cZ jL.stays _ _)
      iterate 10 refine Sw.vv (w0:=wr.drew) (mR.drew) ?_
      refine Sw.xx (λw' hw' hF K Q hK=>?_) (λkv hkv=>?_)
      ·go_wp2_with fail;refine (CX.o w' hF.st.mkr).mono ?_;rintro e w'' ⟨rfl,K',M'⟩;go_wp2;exact hK _ _ (hw'.then M') ⟨rfl,hF.call K' M'⟩
      obtain ⟨_,_,rfl,_⟩:=hkv;refine Sw.xx (λw' hw' hF K Q hK=>?_) (λkv hkv=>?_)
      ·go_wp2_with fail;refine (CY.o w' hF.2.st.mkr).mono ?_;rintro e w'' ⟨rfl,K',M'⟩;go_wp2;exact hK _ _ (hw'.then M') ⟨rfl,hF.2.call K' M'⟩
      obtain ⟨_,_,rfl,_⟩:=hkv
      iterate 3 refine Sw.vv (w0:=wr.drew) (mR.drew) ?_
      refine Sw.xx (λw' hw' hF K Q hK=>?_) (λkv hkv=>?_)
      ·go_wp2;exact hK _ _ (hw'.alloc _) ⟨⟨_,rfl,hw'.size,Blk.new _ _ _⟩,jL.stays _ _ hF.2 (mR.alloc _)⟩
      obtain ⟨_,_,⟨nb,rfl,hnb,_⟩,_⟩:=hkv;refine Sw.bJ ?_;intro w' hw' hF;simp only [qS,qZ];obtain ⟨⟨b9,he9,-,hB⟩,hO⟩:=hF;cases he9;have HB:=Hi hB;have HO:=Hi hO;clear hB hO hw' BB1 B4 C0 HS CX CY;go_wp2_with (at_builtin;refine aO (k:=2) (e:=51) (l:=L) (l':=[⟨x,z⟩]) rfl _ _ 52 rfl q0 _ 16 Tryz.underlying52 qi qz0 qz1 qz2 rfl zd dM.stay dM.weak rfl HO.o.gr ⟨nb,0,none⟩ _ _ [[.int .i64 x,.int .i64 z]] rfl rfl (aP.one rfl ⟨rfl,HXI.o⟩) (λj u hu=>bi HB.o rfl hu) zqb ?_ ?_ ?_ ?_)
      ·have h4:=HLL.o;have h5:=HIN.o;have h6:=HKB.o;unfold maxLen;simp;omega
      ·have h4:=HLL.o;have h5:=HIN.o;have h6:=HKB.o;simp;omega
      ·exact HO.o.st.ord.2.2.2.2
      intro v' w7 hGP hgr _;obtain ⟨od',cd',rfl⟩:=hGP.form;have hnl:(L++[(⟨x,z⟩:dY)]).length=L.length+1:=by simp
      rw [hnl] at hGP;have HNL:=Hi hnl;clear hnl;have HS7:=Hi (HO.o.push hGP hgr);have o3c:w7.cell? ⟨ob,4,none⟩=some (.slice od L.length cd):=(HO.o.st.grown hgr λb hb=>(HO.o.gr.lt b hb).1).blk.cell 4;have o3f:=(HO.o.st.grown hgr λb hb=>(HO.o.gr.lt b hb).1).blk.frozen 4;clear hGP hgr HO HB;go_wp2;go_roundg (gk - 1)
      case measure=>have:=hi5.o;have:=HIN.o;omega
      case rel =>
       refine ⟨i+1,L++[⟨x,z⟩],st2,od',cd',by rw [Int.natCast_add];rfl,?_,?_,?_,?_,by rw [HNL.o];exact HS7.o⟩
       ·have:=hi5.o;have:=HIN.o;show i+1+(gk - 1)=K;omega
       ·show Mk.rep (i+1) (caF ln calls) [] s5=_;rw [Mk.aR HR.o];exact HD.o
       ·have:=HLL.o;show (L++[(_:dY)]).length=i+1;rw [HNL.o];omega
       ·exact λh=>absurd h HC0.o
  case rest =>
   obtain ⟨p0,p1,p2,p3,p4,c0,c1,c2,c3,c4,B,HX0,HQ0⟩:=hcut;have HQ:Hy (ee w m sv l f rb ob B (ruC (.slice p0 rg.back.length c0) (.slice p1 rg.ins.length c1) (.slice p2 rg.ahead.length c2) (.slice p3 rg.o.length c3) (.slice p4 rg.calls.length c4) rg.x) (.slice p0 rg.back.length c0) (.slice p1 rg.ins.length c1) (.slice p2 rg.ahead.length c2) (.slice p3 rg.o.length c3) (.slice p4 rg.calls.length c4) rg rs wc):=by rw [HX0.o];exact HQ0.o
   have HXI:Hy (I64 rg.x):=by rw [HX0.o];exact I64.of zd zd
   clear HS2 HQ0 HX0 HT;have e0:wc.cell? ⟨ob,0,none⟩=some (.slice p0 rg.back.length c0):=HQ.o.blk.cell 0;have e1:wc.cell? ⟨ob,1,none⟩=some (.slice p1 rg.ins.length c1):=HQ.o.blk.cell 1;have e2:wc.cell? ⟨ob,2,none⟩=some (.slice p2 rg.ahead.length c2):=HQ.o.blk.cell 2;have e3:wc.cell? ⟨ob,3,none⟩=some (.slice p3 rg.o.length c3):=HQ.o.blk.cell 3;have e4:wc.cell? ⟨ob,4,none⟩=some (.slice p4 rg.calls.length c4):=HQ.o.blk.cell 4;have e5:wc.cell? ⟨ob,5,none⟩=some (.int .i64 rg.x):=HQ.o.blk.cell 5;have z0:wc.cell? ⟨rb,0,none⟩=some (.slice none 0 0):=HQ.o.rblk.cell 0;have zf0:=HQ.o.rblk.frozen 0;have z1:wc.cell? ⟨rb,1,none⟩=some (.slice none 0 0):=HQ.o.rblk.cell 1;have zf1:=HQ.o.rblk.frozen 1;have z2:wc.cell? ⟨rb,2,none⟩=some (.slice none 0 0):=HQ.o.rblk.cell 2;have zf2:=HQ.o.rblk.frozen 2;have z3:wc.cell? ⟨rb,3,none⟩=some (.slice none 0 0):=HQ.o.rblk.cell 3;have zf3:=HQ.o.rblk.frozen 3;have z4:wc.cell? ⟨rb,4,none⟩=some (.slice none 0 0):=HQ.o.rblk.cell 4;have zf4:=HQ.o.rblk.frozen 4;have z5:wc.cell? ⟨rb,5,none⟩=some (.int .i64 0):=HQ.o.rblk.cell 5;have zf5:=HQ.o.rblk.frozen 5;have HFIN:=Hi (ee.fin (d:=rg) HQ.o HXI.o);clear HQ;go_wp2_with fail;have XF:((((((wc.setCell ⟨rb,0,none⟩ (.slice p0 rg.back.length c0)).setCell ⟨rb,1,none⟩ (.slice p1 rg.ins.length c1)).setCell ⟨rb,2,none⟩ (.slice p2 rg.ahead.length c2)).setCell ⟨rb,3,none⟩ (.slice p3 rg.o.length c3)).setCell ⟨rb,4,none⟩ (.slice p4 rg.calls.length c4)).setCell ⟨rb,5,none⟩ (.int .i64 rg.x))=ec wc (rb) (0) [.slice p0 rg.back.length c0,.slice p1 rg.ins.length c1,.slice p2 rg.ahead.length c2,.slice p3 rg.o.length c3,.slice p4 rg.calls.length c4,.int .i64 rg.x]:=rfl;rw [XF];clear XF;have r0:(ec wc rb 0 [.slice p0 rg.back.length c0,.slice p1 rg.ins.length c1,.slice p2 rg.ahead.length c2,.slice p3 rg.o.length c3,.slice p4 rg.calls.length c4,.int .i64 rg.x]).cell? ⟨rb,0,none⟩=some (.slice p0 rg.back.length c0):=HFIN.o.2.2.2.cell 0;have r1:(ec wc rb 0 [.slice p0 rg.back.length c0,.slice p1 rg.ins.length c1,.slice p2 rg.ahead.length c2,.slice p3 rg.o.length c3,.slice p4 rg.calls.length c4,.int .i64 rg.x]).cell? ⟨rb,1,none⟩=some (.slice p1 rg.ins.length c1):=HFIN.o.2.2.2.cell 1;have r2:(ec wc rb 0 [.slice p0 rg.back.length c0,.slice p1 rg.ins.length c1,.slice p2 rg.ahead.length c2,.slice p3 rg.o.length c3,.slice p4 rg.calls.length c4,.int .i64 rg.x]).cell? ⟨rb,2,none⟩=some (.slice p2 rg.ahead.length c2):=HFIN.o.2.2.2.cell 2;have r3:(ec wc rb 0 [.slice p0 rg.back.length c0,.slice p1 rg.ins.length c1,.slice p2 rg.ahead.length c2,.slice p3 rg.o.length c3,.slice p4 rg.calls.length c4,.int .i64 rg.x]).cell? ⟨rb,3,none⟩=some (.slice p3 rg.o.length c3):=HFIN.o.2.2.2.cell 3;have r4:(ec wc rb 0 [.slice p0 rg.back.length c0,.slice p1 rg.ins.length c1,.slice p2 rg.ahead.length c2,.slice p3 rg.o.length c3,.slice p4 rg.calls.length c4,.int .i64 rg.x]).cell? ⟨rb,4,none⟩=some (.slice p4 rg.calls.length c4):=HFIN.o.2.2.2.cell 4;have r5:(ec wc rb 0 [.slice p0 rg.back.length c0,.slice p1 rg.ins.length c1,.slice p2 rg.ahead.length c2,.slice p3 rg.o.length c3,.slice p4 rg.calls.length c4,.int .i64 rg.x]).cell? ⟨rb,5,none⟩=some (.int .i64 rg.x):=HFIN.o.2.2.2.cell 5;exact bodyPost_ret (v:=.agg #[.slice p0 rg.back.length c0,.slice p1 rg.ins.length c1,.slice p2 rg.ahead.length c2,.slice p3 rg.o.length c3,.slice p4 rg.calls.length c4,.int .i64 rg.x]) (by simp [results,Tryz.results81,go_sem,r0,r1,r2,r3,r4,r5]) rfl ⟨[.slice p0 rg.back.length c0,.slice p1 rg.ins.length c1,.slice p2 rg.ahead.length c2,.slice p3 rg.o.length c3,.slice p4 rg.calls.length c4,.int .i64 rg.x],rfl,  HFIN.o.1,HFIN.o.2.1,HFIN.o.2.2.1⟩
def MF.eo (f:MF) (v:Value):MF:=⟨f.u,f.gl,f.ch,v,f.ft,f.ax,f.rg,f.fn,f.cv⟩
def kT (S:Bl) (w:World) (cs:List Value) (d:ar):Prop:=cs=[.int .i64 d.kind,.bool d.ignore,ae]/\I64 d.kind/\d.rules=[]
theorem kT.stay:bI kT:=λ_ _ _ _ _ h _=>h
theorem kT.weak:bW kT:=λ_ _ _ _ _ h _=>h
structure gp (W:World) (m:Nat) (sv:Value) (l:List Int) (f:MF) (vl:Value) (D:List ar) (vc:Value) (C:List Int) (s:Mk.S) (w:World):Prop where
 mkr:MK m sv l (f.eo vl) s w
 mod:Mod [m] W w
 gl:aH W.heap.size 57 3 kT (λ_=>False) vl D w
 gc:aH W.heap.size 3 1 aF (λ_=>False) vc C w
 ord:m<W.heap.size
section
variable {W:World} {m:Nat} {sv:Value} {l:List Int} {f:MF} {vl v' vc:Value} {D:List ar} {C:List Int} {s s':Mk.S} {w w':World}
theorem gp.stays:aG (gp W m sv l f vl D vc C s):=λw w' h k=>⟨MK.stays _ _ h.mkr k,h.mod.then (k.more zk),h.gl.mod kT.stay k,h.gc.mod aF.stay k,h.ord⟩
theorem gp.call (h:gp W m sv l f vl D vc C s w) (k:MK m sv l (f.eo vl) s' w') (k2:Mod [m] w w'):gp W m sv l f vl D vc C s' w' :=
 ⟨k,h.mod.then k2,h.gl.gW kT.stay k2 (by have:=h.ord;simpa using this) (λ_ h=>h.elim),h.gc.gW aF.stay k2 (by have:=h.ord;simpa using this) (λ_ h=>h.elim),h.ord⟩
structure L1P (W:World) (m:Nat) (sv:Value) (l:List Int) (f:MF) (vl:Value) (D:List ar) (vc:Value) (C:List Int) (s:Mk.S) (v':Value) (w:World):Prop where
 mkr:MK m sv l (f.eo vl) s w
 mod:Mod [m] W w
 gl:aH W.heap.size 57 3 kT (λ_=>False) v' D w
 gc:aH W.heap.size 3 1 aF (λ_=>False) vc C w
 ord:m<W.heap.size
theorem L1P.stays (v':Value):aG (L1P W m sv l f vl D vc C s v'):=λw w' h k=>⟨MK.stays _ _ h.mkr k,h.mod.then (k.more zk),h.gl.mod kT.stay k,h.gc.mod aF.stay k,h.ord⟩
theorem gp.push {d:ar} (h:gp W m sv l f vl D vc C s w) (hG:aH W.heap.size 57 3 kT (λ_=>False) v' (D++[d]) w') (k:w.grownBy w' vl.ownBlock):L1P W m sv l f vl (D++[d]) vc C s v' w' :=
 ⟨h.mkr.grown k λb hb=>by have:=(h.gl.lt b hb).1;have:=h.ord;omega,h.mod.grew k λb hb=>(h.gl.lt b hb).1,hG,h.gc.other aF.stay k (h.gc.ne h.gl zd) (λ_ _ h=>h),h.ord⟩
theorem L1P.store (h:L1P W m sv l f vl D vc C s v' w):gp W m sv l f v' D vc C s (w.setCell ⟨m,5,none⟩ v'):=by
 have h1:=h.ord
 exact ⟨⟨h.mkr.blk.set 5 v',h.mkr.num.same aF.stay (bC.set w zk _),h.mkr.suf,h.mkr.lp0,h.mkr.lp1⟩,h.mod.setCell (p:=⟨m,5,none⟩) (λ_=>by simp) _,
  h.gl.set kT.stay (λhb=>by have:W.heap.size<=m:=(h.gl.lt _ hb).1;omega) (λh=>h) _,h.gc.set aF.stay (λhb=>by have:W.heap.size<=m:=(h.gc.lt _ hb).1;omega) (λh=>h) _,h1⟩
theorem gp.EC {x:Int} (h:gp W m sv l f vl D vc C s w) (hG:aH W.heap.size 3 1 aF (λ_=>False) v' (C++[x]) w') (k:w.grownBy w' vc.ownBlock):gp W m sv l f vl D v' (C++[x]) s w' :=
 ⟨h.mkr.grown k λb hb=>by have:=(h.gc.lt b hb).1;have:=h.ord;omega,h.mod.grew k λb hb=>(h.gc.lt b hb).1,h.gl.other kT.stay k (h.gl.ne h.gc zd) (λ_ _ h=>h),hG,h.ord⟩
end
structure fF (W:World) (m:Nat) (sv:Value) (l:List Int) (f:MF) (g B1 B:Nat) (D E:List ar) (vz:Value) (vc:Value) (C:List Int) (s:Mk.S) (w:World):Prop where
 mkr:MK m sv l f s w
 mod:Mod [m] W w
 bl:∃ cur,Blk w g cur 57/\D.length*3<=cur.size /\
  (∀ j (h:j<E.length),∃ v2,cur[j*3]?=some (.int .i64 E[j].kind)/\cur[j*3+1]?=some (.bool E[j].ignore)/\cur[j*3+2]?=some v2/\I64 E[j].kind/\az 6 bE (λb=>B1<=b/\b<B) w v2 E[j].rules) /\
  (∀ j (h:j<D.length),E.length<=j->cur[j*3]?=some (.int .i64 D[j].kind)/\cur[j*3+1]?=some (.bool D[j].ignore)/\cur[j*3+2]?=some (if j=E.length then vz else ae)/\I64 D[j].kind)
 cal:az 1 aF (λb=>(m<b/\b<B1)/\b≠g) w vc C
 le:E.length<=D.length/\D.length<=1000
 ord:m<W.heap.size/\W.heap.size<=g/\g<B1/\B1<=B/\B<=w.heap.size
section
variable {W:World} {m:Nat} {sv:Value} {l:List Int} {f:MF} {g B1 B:Nat} {D E:List ar} {vl vz v' vc u:Value} {C:List Int} {s s':Mk.S} {w w':World}
theorem fF.keep (h:fF W m sv l f g B1 B D E vz vc C s w) (k:MK m sv l f s' w') (k1:Mod [m] W w') (k2:w'.heap[g]?=w.heap[g]?) (k3:bC (λb=>B1<=b/\b<B) w w') (k4:bC (λb=>(m<b/\b<B1)/\b≠g) w w') (k5:w.heap.size<=w'.heap.size):fF W m sv l f g B1 B D E vz vc C s' w':=by
 obtain ⟨cur,h1,h2,h3,h4⟩:=h.bl;refine ⟨k,k1,⟨cur,by unfold Blk at h1 ⊢;rw [k2];exact h1,h2,λj hj=>?_,h4⟩,h.cal.same aF.stay k4,h.le,h.ord.1,h.ord.2.1,h.ord.2.2.1,h.ord.2.2.2.1,nT h.ord.2.2.2.2 k5⟩;obtain ⟨v2,a0,a1,a2,a3,a4⟩:=h3 j hj;exact ⟨v2,a0,a1,a2,a3,a4.same bE.stay k3⟩
theorem fF.stays:aG (fF W m sv l f g B1 B D E vz vc C s):=λw w' h k=>by
 obtain ⟨cur,h1,_⟩:=h.bl;exact h.keep (MK.stays _ _ h.mkr k) (h.mod.then (k.more zk)) (k.block g h1.lt zk) (k.same0 _) (k.same0 _) k.size
theorem fF.call (h:fF W m sv l f g B1 B D E vz vc C s w) (k:MK m sv l f s' w') (k2:Mod [m] w w'):fF W m sv l f g B1 B D E vz vc C s' w':=by
 obtain ⟨cur,h1,_⟩:=h.bl;have h5:=h.ord;exact h.keep k (h.mod.then k2) (k2.block g h1.lt zqa) (k2.jM zqv) (k2.jM zqv) k2.size
theorem fF.grown (h:fF W m sv l f g B1 B D E vz vc C s w) (k:w.grownBy w' u.ownBlock) (hu:∀ b,u.ownBlock=some b->B<=b):fF W m sv l f g B1 B D E vz vc C s w':=by
 obtain ⟨cur,h1,_⟩:=h.bl;have h5:=h.ord;exact h.keep (h.mkr.grown k λb hb=>by have:=hu b hb;omega) (h.mod.grew k λb hb=>by have:=hu b hb;omega) (k.block g h1.lt λhe=>by have:=hu g he.symm;omega) (bC.grown k λb hb hs=>by have:=hu b hb;omega) (bC.grown k λb hb hs=>by have:=hu b hb;omega) k.size
theorem fF.cells (h:fF W m sv l f g B1 B D E vz vc C s w) (hi:E.length<D.length):w.cell? ⟨g,E.length*3,none⟩=some (.int .i64 D[E.length].kind)/\w.cell? ⟨g,E.length*3+2,none⟩=some vz/\w.frozen? ⟨g,E.length*3+2,none⟩=false:=by
 obtain ⟨cur,h1,_,_,h4⟩:=h.bl;obtain ⟨a0,_,a2,_⟩:=h4 _ hi (nR _);exact ⟨(h1.cell _).trans a0,((h1.cell _).trans a2).trans (by rw [if_pos rfl]),h1.frozen _⟩
theorem fF.store (h:fF W m sv l f g B1 B D E vz vc C s w) (hi:E.length<D.length) (x:Value):fF W m sv l f g B1 B D E x vc C s (w.setCell ⟨g,E.length*3+2,none⟩ x):=by
 obtain ⟨cur,h1,h2,h3,h4⟩:=h.bl;have h5:=h.ord;refine ⟨h.mkr.set (by show m<g;omega) _,h.mod.eT (p:=⟨g,E.length*3+2,none⟩) (by show W.heap.size<=g;omega) _,⟨cur.setIfInBounds (E.length*3+2) x,h1.set _ x,by simpa using h2,λj hj=>?_,λj hj hE=>?_⟩,?_,h.le,h5.1,h5.2.1,h5.2.2.1,h5.2.2.2.1,by simpa using h5.2.2.2.2⟩
 ·obtain ⟨v2,a0,a1,a2,a3,a4⟩:=h3 j hj;refine ⟨v2,?_,?_,?_,a3,a4.same bE.stay (bC.set w zqa _)⟩
  ·rw [Array.getElem?_setIfInBounds_ne zo];exact a0
  ·rw [Array.getElem?_setIfInBounds_ne zo];exact a1
  ·rw [Array.getElem?_setIfInBounds_ne zo];exact a2
 ·obtain ⟨a0,a1,a2,a3⟩:=h4 j hj hE;refine ⟨?_,?_,?_,a3⟩
  ·rw [Array.getElem?_setIfInBounds_ne zo];exact a0
  ·rw [Array.getElem?_setIfInBounds_ne zo];exact a1
  ·by_cases he:j=E.length
   ·subst he;rw [if_pos rfl,Array.getElem?_setIfInBounds_self_of_lt zo]
   ·rw [if_neg he] at a2 ⊢;rw [Array.getElem?_setIfInBounds_ne zo];exact a2
 ·exact h.cal.same aF.stay (bC.set w zk _)
theorem fF.next {rs:List aN} (h:fF W m sv l f g B1 B D E vz vc C s w) (hi:E.length<D.length) (hG:aH B 54 6 bE (λb=>B<=b) vz rs w):fF W m sv l f g B1 w.heap.size D (E++[⟨D[E.length].kind,D[E.length].ignore,rs⟩]) ae vc C s w:=by
 obtain ⟨cur,h1,h2,h3,h4⟩:=h.bl;have h5:=h.ord;refine ⟨h.mkr,h.mod,⟨cur,h1,h2,λj hj=>?_,λj hj hE=>?_⟩,h.cal,⟨by simp;omega,h.le.2⟩,h5.1,h5.2.1,h5.2.2.1,by omega,nR _⟩
 ·by_cases hj2:j<E.length
  ·obtain ⟨v2,a0,a1,a2,a3,a4⟩:=h3 j hj2;rw [List.getElem_append_left hj2];exact ⟨v2,a0,a1,a2,a3,a4.weak zd bE.weak λb hb hs=>⟨hs.1,hb⟩⟩
  ·obtain rfl:j=E.length:=by simp at hj;omega
   obtain ⟨a0,a1,a2,a3⟩:=h4 _ hi (nR _);rw [if_pos rfl] at a2;have e1:(E++[(⟨D[E.length].kind,D[E.length].ignore,rs⟩:ar)])[E.length]'hj=⟨D[E.length].kind,D[E.length].ignore,rs⟩:=by simp
   rw [e1];exact ⟨vz,a0,a1,a2,a3,hG.done zd bE.weak (λb hb hs=>⟨by omega,hb⟩) λb hb=>by have:=hG.lt b hb;omega⟩
 ·simp only [List.length_append,List.length_cons,List.length_nil] at hE ⊢;obtain ⟨a0,a1,a2,a3⟩:=h4 j hj zo;refine ⟨a0,a1,?_,a3⟩;rw [if_neg zo] at a2;rw [a2]
  split <;> rfl
theorem fF.start (h:gp W m sv l f vl D vc C s w) (h0:0<D.length) (h9:D.length<=1000):∃ g cap,vl=.slice (some ⟨g,0,none⟩) D.length cap/\fF W m sv l (f.eo vl) g w.heap.size w.heap.size D [] ae vc C s w:=by
 obtain ⟨css,ho,he⟩:=id h.gl;rcases ho.2 with ⟨rfl,hn⟩ | ⟨g,cap,cur,hv,hb,hg,hc,hcm,hcs,ht⟩
 ·omega
 ·subst hv;have hB:Blk w g cur 57:=hg;refine ⟨g,cap,rfl,h.mkr,h.mod,⟨cur,hB,by rw [hcs];exact Nat.mul_le_mul_right _ hc,λj hj=>absurd hj (Nat.not_lt_zero j),λj hj _=>?_⟩,?_,⟨Nat.zero_le _,h9⟩,h.ord,hb,hB.lt,nR _,nR _⟩
  ·obtain ⟨g',c',cs,hv,hk,⟨rfl,hI,hr⟩,hcell⟩:=h.gl.at j hj;cases hv;have e0:=hcell 0 zd;have e1:=hcell 1 zd;have e2:=hcell 2 zd;rw [hB.cell] at e0 e1 e2;refine ⟨e0,e1,e2.trans ?_,hI⟩
   split <;> rfl
  ·refine h.gc.done zd aF.weak (λ_ _ h=>h.elim) λb hb2=>⟨?_,λhe=>?_⟩
   ·have:=h.gc.lt b hb2;have:=h.ord;omega
   ·subst he;rcases h.gc.ne h.gl zd with h1 | h1
    ·rw [h1] at hb2;cases hb2
    ·exact h1 (hb2.trans rfl)
theorem fF.fin {cap:Nat} (h:fF W m sv l f g B1 B D E vz vc C s w) (he:E.length=D.length):az 3 bc (λb=>W.heap.size<=b) w (.slice (some ⟨g,0,none⟩) E.length cap) E:=by
 obtain ⟨cur,h1,h2,h3,_⟩:=h.bl;have h5:=h.ord;refine ⟨_,_,rfl,by have:=h.le;unfold maxLen;omega,λj hj=>⟨_,rfl,h5.2.1,?_⟩⟩;obtain ⟨v2,a0,a1,a2,a3,a4⟩:=h3 j hj;refine ⟨[.int .i64 E[j].kind,.bool E[j].ignore,v2],rfl,λq hq=>?_,v2,rfl,a3,a4.weak zd bE.weak λb _ hb=>by omega⟩;rw [addr_add_add];have e1:(⟨g,0,Option.none⟩:Addr).add (j*3+q)=⟨g,j*3+q,Option.none⟩:=by unfold Addr.add;split <;> simp_all
 rw [e1,h1.cell]
 match q,hq with
 | 0,_=>exact a0
 | 1,_=>exact a1
 | 2,_=>exact a2
end
def nG (S:Bl) (d:aN) (Post:World->Prop) (v:Value) (w:World):Prop:=(∃ v0 v1 v2 v3 v4,v=.agg #[v0,v1,v2,v3,v4,.int .i64 d.x]/\bE S w [v0,v1,v2,v3,v4,.int .i64 d.x] d)/\Post w
theorem nG.stays {S:Bl} {d:aN} {Post:World->Prop} (hP:aG Post) (v:Value):aG (nG S d Post v):=λw w' ⟨⟨v0,v1,v2,v3,v4,h0,h1⟩,h2⟩ k=>⟨⟨v0,v1,v2,v3,v4,h0,bE.stay _ _ _ _ _ h1 (k.same0 _)⟩,hP _ _ h2 k⟩
def nH (B:Nat) (S:Bl) (d:aN) (Post:World->Prop) (v:Value) (w:World):Prop:=∃ nb v0 v1 v2 v3 v4,v=.slice (some ⟨nb,0,none⟩) 1 1/\B<=nb/\Blk w nb #[v0,v1,v2,v3,v4,.int .i64 d.x] 54/\bE S w [v0,v1,v2,v3,v4,.int .i64 d.x] d/\Post w
theorem nH.stays {B:Nat} {S:Bl} {d:aN} {Post:World->Prop} (hP:aG Post) (v:Value):aG (nH B S d Post v):=λw w' ⟨nb,v0,v1,v2,v3,v4,h0,h1,h2,h3,h4⟩ k=>⟨nb,v0,v1,v2,v3,v4,h0,h1,h2.kept k zk,bE.stay _ _ _ _ _ h3 (k.same0 _),hP _ _ h4 k⟩
def LkP (W:World) (m:Nat) (sv:Value) (l:List Int) (f:MF) (g B1 B:Nat) (D E:List ar) (vz vc:Value) (C:List Int) (s:Mk.S) (rs:List aN) (v:Value) (w:World):Prop :=
 (∃ (ov:Option Addr) (cv:Nat),v=.slice ov rs.length cv)/\fF W m sv l f g B1 B D E vz vc C s w/\aH B 54 6 bE (λb=>B<=b) v rs w
theorem LkP.stays {W:World} {m:Nat} {sv:Value} {l:List Int} {f:MF} {g B1 B:Nat} {D E:List ar} {vz vc:Value} {C:List Int} {s:Mk.S} {rs:List aN} (v:Value):aG (LkP W m sv l f g B1 B D E vz vc C s rs v):=λw w' h k=>⟨h.1,fF.stays _ _ h.2.1 k,h.2.2.mod bE.stay k⟩
theorem LkP.call {W:World} {m:Nat} {sv:Value} {l:List Int} {f:MF} {g B1 B:Nat} {D E:List ar} {vz vc:Value} {C:List Int} {s s':Mk.S} {rs:List aN} {v:Value} {w w':World} (h:LkP W m sv l f g B1 B D E vz vc C s rs v w) (k:MK m sv l f s' w') (k2:Mod [m] w w'):LkP W m sv l f g B1 B D E vz vc C s' rs v w' :=
 ⟨h.1,h.2.1.call k k2,h.2.2.gW bE.stay k2 (by have:=h.2.1.ord;simp;omega) (λb hb=>hb)⟩
theorem LkP.store {W:World} {m:Nat} {sv:Value} {l:List Int} {f:MF} {g B1 B:Nat} {D E:List ar} {vz vc:Value} {C:List Int} {s:Mk.S} {rs:List aN} {v:Value} {w:World} (h:LkP W m sv l f g B1 B D E vz vc C s rs v w) (hi:E.length<D.length):LkP W m sv l f g B1 B D E v vc C s rs v (w.setCell ⟨g,E.length*3+2,none⟩ v) :=
 ⟨h.1,h.2.1.store hi v,h.2.2.set bE.stay (λhb=>by have h9:B<=g:=(h.2.2.lt _ hb).1;have:=h.2.1.ord;omega) (by have:=h.2.1.ord;show ¬ B<=g;omega) v⟩
def MkJ (m:Nat) (sv:Value) (l:List Int) (f:MF) (o:List Nat) (w W:World):Prop:=Mod (m::o) w W/\∃ s,MK m sv l f s W
theorem MkJ.then {m:Nat} {sv:Value} {l:List Int} {f:MF} {o:List Nat} {w:World} (a b:World) (h:MkJ m sv l f o w a) (k:Mod [] a b):MkJ m sv l f o w b:=⟨h.1.then (k.more zk),h.2.elim λs hs=>⟨s,MK.stays _ _ hs k⟩⟩
theorem MkJ.grew {m:Nat} {sv:Value} {l:List Int} {f:MF} {row:Option Nat} {w a b:World} {s:Mk.S} (h:MkJ m sv l f row.toList w a) (g:a.grownBy b row) (k:MK m sv l f s b):MkJ m sv l f row.toList w b :=
 ⟨(h.1.xo g).more (λx hx _=>by rcases List.mem_append.1 hx with hx | hx;exact hx;exact List.mem_cons_of_mem _ hx),s,k⟩
def L1Q (W:World) (m:Nat) (sv:Value) (l:List Int) (f:MF) (vl:Value) (D:List ar) (vc:Value) (C:List Int) (s:Mk.S) (v:Value) (w:World):Prop:=(∃ (ov:Option Addr) (cv:Nat),v=.slice ov D.length cv)/\L1P W m sv l f vl D vc C s v w
theorem L1Q.stays {W:World} {m:Nat} {sv:Value} {l:List Int} {f:MF} {vl:Value} {D:List ar} {vc:Value} {C:List Int} {s:Mk.S} (v:Value):aG (L1Q W m sv l f vl D vc C s v):=λw w' h k=>⟨h.1,L1P.stays _ _ _ h.2 k⟩
section
variable {W:World} {m:Nat} {sv:Value} {l:List Int} {f:MF} {g B1 B:Nat} {D E:List ar} {vz v v' vc:Value} {C:List Int} {s s':Mk.S} {rs:List aN} {w w':World} {x:aN}
theorem fF.calm (h:fF W m sv l f g B1 B D E vz vc C s w):az 1 aF (λb=>b≠m) w vc C:=h.cal.weak zd aF.weak λb _ hb=>by omega
theorem LkP.Db {cs:List Value} (h:LkP W m sv l f g B1 B D E vz vc C s rs v w) (hS:bE (λb=>w.heap.size<=b) w' cs x):bE (λb=>B<=b/\v.ownBlock≠some b) w' cs x :=
 bE.weak _ _ _ _ _ hS λb _ hb=>⟨by have:=h.2.1.ord;omega,λhe=>by have:=(h.2.2.lt b he).2;omega⟩
theorem LkP.push (h:LkP W m sv l f g B1 B D E vz vc C s rs v w) (hG:aH B 54 6 bE (λb=>B<=b) v' (rs++[x]) w') (k:w.grownBy w' v.ownBlock):LkP W m sv l f g B1 B D E vz vc C s (rs++[x]) v' w' :=
 ⟨hG.form,h.2.1.grown k λb hb=>(h.2.2.lt b hb).1,hG⟩
theorem Ak {S:Bl} {v0 v1 v2 v3 v4:Value} {y:Int} (h:bE S w [v0,v1,v2,v3,v4,.int .i64 y] x):∀ u∈[[v0,v1,v2,v3,v4,.int .i64 y]].flatten,u.oneCell'=true:=by
 obtain ⟨u0,u1,u2,u3,u4,he,h0,h1,h2,h3,h4,_⟩:=h;simp only [List.cons.injEq,and_true] at he;obtain ⟨rfl,rfl,rfl,rfl,rfl,he5⟩:=he;intro u hu;simp only [List.flatten_cons,List.flatten_nil,List.append_nil,List.mem_cons,List.not_mem_nil,or_false] at hu;rcases hu with rfl | rfl | rfl | rfl | rfl | rfl
 ·exact lR h0
 ·exact lR h1
 ·exact lR h2
 ·exact lR h3
 ·exact lR h4
 ·rfl
end
def lk1F:Nat->List ar×List Int->Mk.M (List ar×List Int):=λi l s=>Mk.bind (Mk.next 10 s) λk s=>Mk.bind (Mk.next 3 s) λz s =>
 ((l.1++[⟨Mk.kinds.getD k.toNat 0,decide (z=0),[]⟩],if Mk.kinds.getD k.toNat 0<=4 then l.2++[(i:Int)] else l.2),s)
def kS (n kind:Int) (C:List Int):Nat->List aN->Mk.M (List aN):=λ_ rs s=>Mk.bind (Mk.rule n kind C s) λx s=>(rs++[x],s)
def lk2F (n:Int) (D:List ar) (C:List Int):Nat->List ar->Mk.M (List ar):=λi l s=>match D[i]? with
 | none=>(l,s)
 | some d=>if 7<=d.kind then (l++[d],s) else Mk.bind (Mk.next 3 s) λk s=>Mk.bind (Mk.rep (1+k).toNat (kS n d.kind C) [] s) λrs s=>(l++[⟨d.kind,d.ignore,rs⟩],s)
theorem Mk.jA {n k:Int} {s s1 s2:Mk.S} {D:List ar} {C:List Int} (h1:Mk.next 7 s=(k,s1)) (h2:Mk.rep k.toNat lk1F ([],[]) s1=((D,C),s2)):Mk.lookups n s=Mk.rep D.length (lk2F n D C) [] s2:=by
 have h3:Mk.lookups1 s=((D,C),s2):=by unfold Mk.lookups1;rw [Mk.ai h1];exact h2
 unfold Mk.lookups;rw [Mk.ai h3];rfl
theorem sY (Q:Nat) (h:Q<10):1<=Mk.kinds.getD Q 0/\Mk.kinds.getD Q 0<=8:=by
 match Q,h with
 | 0,_=>decide
 | 1,_=>decide
 | 2,_=>decide
 | 3,_=>decide
 | 4,_=>decide
 | 5,_=>decide
 | 6,_=>decide
 | 7,_=>decide
 | 8,_=>decide
 | 9,_=>decide
def qX:Array Value:=#[.int .i64 1,.int .i64 2,.int .i64 3,.int .i64 4,.int .i64 4,.int .i64 5,.int .i64 6,.int .i64 7,.int .i64 8,.int .i64 1]
theorem yQ (Q:Nat) (h:Q<10):qX[Q]?=some (.int .i64 (Mk.kinds.getD Q 0)):=by
 match Q,h with
 | 0,_=>rfl
 | 1,_=>rfl
 | 2,_=>rfl
 | 3,_=>rfl
 | 4,_=>rfl
 | 5,_=>rfl
 | 6,_=>rfl
 | 7,_=>rfl
 | 8,_=>rfl
 | 9,_=>rfl
theorem nC (k:Nat) (s:Mk.S):(Mk.rep k lk1F ([],[]) s).1.1.length=k/\(Mk.rep k lk1F ([],[]) s).1.2.length<=k/\∀ d∈(Mk.rep k lk1F ([],[]) s).1.1,1<=d.kind/\d.kind<=8/\d.rules=[]:=by
 refine Mk.bH (f:=lk1F) (λi (p:List ar×List Int)=>p.1.length=i/\p.2.length<=i/\∀ d∈p.1,1<=d.kind/\d.kind<=8/\d.rules=[]) ⟨rfl,nR _,by simp⟩ λi p s hi h=>?_
 have k1:=Mk.jZ 10 s zd;have k2:=Mk.gg 10 s zd;have k3:=sY (Mk.next 10 s).1.toNat zo;unfold lk1F Mk.bind;refine ⟨by simp [h.1],?_,λd hd=>?_⟩
 ·show (if _ then _ else _:List Int).length<=i+1
  split
  ·simp;exact h.2.1
  ·exact Nat.le_succ_of_le h.2.1
 ·rcases List.mem_append.1 hd with hd | hd
  ·exact h.2.2 d hd
  ·obtain rfl:=mI.1 hd;exact ⟨k3.1,k3.2,rfl⟩
theorem vY (m:Nat) (sv:Value) (l:List Int) (f:MF) (s:Mk.S) (n:Nat) (hn:0<n) (hn1:n<=100000) {og:Option Addr} {cg:Nat} (hgl:f.gl=.slice og n cg) (hlk:f.lk=.slice none 0 0) {L:List ar} {rs:Mk.S} (he:Mk.lookups n s=(L,rs)) (w:World) (h:MK m sv l f s w) :
  Calls Tryz.prog 23 #[.pointer (some ⟨m,0,none⟩)] w λe w'=>∃ v',e=.returned (.tuple #[])/\az 3 bc (λb=>w.heap.size<=b) w' v' L/\MK m sv l (f.eo v') rs w'/\Mod [m] w w':=by
 obtain ⟨k,s1,h1⟩:∃ a b,Mk.next 7 s=(a,b):=⟨_,_,rfl⟩
 obtain ⟨⟨D,C⟩,s2,h2⟩:∃ a b,Mk.rep k.toNat lk1F ([],[]) s1=(a,b):=⟨_,_,rfl⟩
 rw [Mk.jA h1 h2] at he;have i1:=ay zd h1;obtain ⟨K,rfl⟩:∃ K:Nat,k=K:=⟨k.toNat,by omega⟩
 rw [Int.toNat_natCast] at h2;have hDC:=nC K s1;rw [h2] at hDC;have C1:=Hi (bF m sv l f s 7 zd zd h1 w h);have CN:=Hi (λf st x st' n h1 h2 e=>bF m sv l f st n h1 h2 (r:=x) (s':=st') e);have hf0:f.eo ae=f:=by have h9:ae=f.lk:=hlk.symm;rw [h9];rfl
 have HF0:=Hi hf0;have HGL:=Hi hgl;have HE:=Hi he;have H2:=Hi h2;have HDC:=Hi hDC;have HN:=Hi (And.intro hn hn1);have HK:Hy (K<7):=by show K<7;omega
 have HMW:=Hi h.blk.lt;clear h1 h2 he i1 hDC hf0 hgl hlk h hn hn1;obtain ⟨i0,ii,iz0,iz1,iz2⟩:=info_parts gN;obtain ⟨t0,ti,tz0,tz1,tz2⟩:=info_parts pu;obtain ⟨q0,qi,qz0,qz1,qz2⟩:=info_parts tj;go_enter Tryz.func23,Tryz.ntmps23;go_wp2_with fail;refine C1.o.mono ?_;rintro e w1 ⟨rfl,K1,M1⟩;have HS0:Hy (gp w m sv l f (.slice none 0 0) [] (.slice none 0 0) [] s1 w1):=⟨by rw [HF0.o];exact K1,M1,aH.nil,aH.nil,HMW.o⟩
 clear K1 M1 C1;go_upto_block 0 with fail
 go_cut [3,4,5] from 11 to 42 (λv3 v4 v5 wx=>∃ (ol oc:Option Addr) (cl cc:Nat),v3=.slice oc C.length cc/\Hy (gp w m sv l f (.slice ol D.length cl) D (.slice oc C.length cc) C s2 wx))
 case first =>
  go_wp2_with fail
  go_loopg [3,4] K (λgk v3 v4 wr=>∃ (i:Nat) (D':List ar) (C':List Int) (st:Mk.S) (ol oc:Option Addr) (cl cc:Nat),v3=.slice oc C'.length cc/\v4=.int .i64 (i:Int)/\Hy (i+gk=K)/\Hy (Mk.rep i lk1F ([],[]) s1=((D',C'),st))/\Hy (D'.length=i/\C'.length<=i)/\Hy (gp w m sv l f (.slice ol D'.length cl) D' (.slice oc C'.length cc) C' st wr))
  case atStart=>exact ⟨0,[],[],s1,none,none,0,0,rfl,rfl,by show 0+K=K;omega,rfl,⟨rfl,nR _⟩,HS0.o⟩
  case round =>
   obtain ⟨i,D',C',st,ol,oc,cl,cc,rfl,rfl,hi5,HR,HLL,HS⟩:=hrel;clear HS0
   by_cases hin:i<K
   case neg =>
    obtain rfl:i=K:=by have:=hi5.o;omega
    have k1:=dF (p:=(i:Int)<i) zo;obtain ⟨⟨rfl,rfl⟩,rfl⟩:(D'=D/\C'=C)/\st=s2:=by have h9:=H2.o;rw [HR.o] at h9;simpa using h9
    go_wp2;go_meet
    case rel=>exact ⟨ol,oc,cl,cc,rfl,HS⟩
   have k1:=dT (p:=(i:Int)<K) zo;have k2:(i:Int)<K:=zo;have ei:IntKind.i64.wrap ((i:Int)+1)=(i:Int)+1:=wrapi zo zqw;obtain ⟨x,st1,hx⟩:∃ a b,Mk.next 10 st=(a,b):=⟨_,_,rfl⟩
   obtain ⟨z,st2,hz⟩:∃ a b,Mk.next 3 st1=(a,b):=⟨_,_,rfl⟩
   have ix:=ay zd hx;obtain ⟨Q,rfl⟩:∃ Q:Nat,x=Q:=⟨x.toNat,by omega⟩
   have q1:(0:Int)<=Q:=zo;have q2:(Q:Int)<10:=zo;have HKD:=Hi (sY Q zo);have HKA:=Hi (yQ Q zo);have HD:Hy (lk1F i (D',C') st=((D'++[⟨Mk.kinds.getD Q 0,decide (z=0),[]⟩],if Mk.kinds.getD Q 0<=4 then C'++[(i:Int)] else C'),st2)):=by
    unfold lk1F;rw [Mk.ai hx,Mk.ai hz,Int.toNat_natCast];exact rfl
   have al:Mod [] wr (wr.alloc (.cells qX 3)):=mR.alloc _;have CX:=Hi (CN.o _ st Q st1 10 zd zd hx _ (gp.stays _ _ HS.o al).mkr);have CZ:=Hi (CN.o (f.eo (.slice ol D'.length cl)) st1 z st2 3 zd zd hz);have HA:=Hi (Blk.new wr qX 3);have HS1:=Hi (gp.stays _ _ HS.o al);have HWR:Hy (m<wr.heap.size):=by have:=HS.o.mkr.blk.lt;exact this
   have HIN:=Hi hin;clear hx hz ix al hin HS;go_upto_region 5 with fail;go_wp2_with fail;rw [show wr.alloc (.cells #[.int .i64 1,.int .i64 2,.int .i64 3,.int .i64 4,.int .i64 4,.int .i64 5,.int .i64 6,.int .i64 7,.int .i64 8,.int .i64 1] 3)=wr.alloc (.cells qX 3) from rfl];refine CX.o.mono ?_;rintro e w2 ⟨rfl,K2,M2⟩;have HS2:=Hi (HS1.o.call K2 M2);have ac:w2.cell? ⟨wr.heap.size,Q,none⟩=some (.int .i64 (Mk.kinds.getD Q 0)):=((HA.o.kept M2 (by have:=HWR.o;simp;omega)).cell Q).trans HKA.o;generalize Mk.kinds.getD Q 0=kd at *
   clear K2 M2 HS1 CX HA HKA;go_upto_region 6 with fail;generalize wr.heap.size=kb at *
   clear ac;have B5:∀ W,MkJ m sv l (f.eo (.slice ol D'.length cl)) (Value.slice ol D'.length cl).ownBlock.toList w2 W->W.cell? ⟨m,5,none⟩=some (.slice ol D'.length cl):=λW k=>k.2.elim λ_ h9=>h9.blk.cell 5
   have HI0:MkJ m sv l (f.eo (.slice ol D'.length cl)) (Value.slice ol D'.length cl).ownBlock.toList w2 w2.drew:=⟨((Mod.refl [] w2).drew).more zk,_,MK.stays _ _ HS2.o.mkr (mR.drew)⟩
   have HLB:Hy (D'.length+1<=maxLen/\(D'.length+1)*40<=140737488355328):=by have h4:=HLL.o;have h5:=HIN.o;have h6:=HK.o;refine ⟨?_,?_⟩;unfold maxLen;omega;omega
   have HKI:Hy (I64 kd):=by have:=HKD.o;exact I64.of zo zo
   refine Sw.aL (I:=MkJ m sv l (f.eo (.slice ol D'.length cl)) (Value.slice ol D'.length cl).ownBlock.toList w2) (F0:=gp w m sv l f (.slice ol D'.length cl) D' (.slice oc C'.length cc) C' st1) MkJ.then 13 [(0,none),(1,none),(2,none),(3,none),(4,none),(5,none),(6,none),(7,none),(8,some (Rg.iU (gp w m sv l f (.slice ol D'.length cl) D' (.slice oc C'.length cc) C' st2) (.int .i64 z))),(9,none),(10,none),(11,some (bK w2.heap.size #[.int .i64 kd,.bool (z == 0),.slice none 0 0] 57 1 (gp w m sv l f (.slice ol D'.length cl) D' (.slice oc C'.length cc) C' st2))),(12,some (L1Q w m sv l f (.slice ol D'.length cl) (D'++[⟨kd,z == 0,[]⟩]) (.slice oc C'.length cc) C' st2))] zt zt (Sq.aW zt) ?hTS147 HI0 gp.stays (gp.stays _ _ HS2.o (mR.drew)) ?mainS147
   case hTS147 =>
    intro p hp T hT v;simp only [List.mem_cons,List.not_mem_nil,or_false] at hp;rcases hp with rfl | rfl | rfl | rfl | rfl | rfl | rfl | rfl | rfl | rfl | rfl | rfl | rfl <;> first | (cases hT;done) | (cases hT;first | exact L1Q.stays _ | exact bK.stays gp.stays _ | exact Rg.cZ gp.stays _ _)
   iterate 8 refine Sw.vv HI0 ?_
   refine Sw.xx (λw' hw' hF K Q hK=>?_) (λkv hkv=>?_)
   ·go_wp2_with fail;refine (CZ.o w' hF.mkr).mono ?_;rintro e w'' ⟨rfl,K',M'⟩;go_wp2;exact hK _ _ ⟨hw'.1.then (M'.more zk),_,K'⟩ ⟨rfl,hF.call K' M'⟩
   obtain ⟨_,_,rfl,_⟩:=hkv
   iterate 2 refine Sw.vv HI0 ?_
   refine Sw.xx (λw' hw' hF K Q hK=>?_) (λkv hkv=>?_)
   ·go_wp2;exact hK _ _ (MkJ.then _ _ hw' (mR.alloc _)) ⟨⟨_,rfl,hw'.1.size,Blk.new _ _ _⟩,gp.stays _ _ hF.2 (mR.alloc _)⟩
   obtain ⟨_,_,⟨nb,rfl,hnb,_⟩,_⟩:=hkv;refine Sw.xx (λw' hw' hF K Q hK=>?_) (λkv hkv=>?_)
   ·obtain ⟨⟨b9,he9,-,hB⟩,hO⟩:=hF;cases he9;refine eN (v:=.slice ol D'.length cl) (k:=3) (e:=57) (base:=w.heap.size) (l:=D') (l':=[⟨kd,z == 0,[]⟩]) rfl _ _ 26 rfl t0 _ 40 Tryz.underlying26 ti tz0 tz1 tz2 rfl zd kT.stay kT.weak rfl hO.gl ⟨nb,0,none⟩ _ _ [[.int .i64 kd,.bool (z == 0),.slice none 0 0]] rfl rfl (aP.one rfl ⟨rfl,HKI.o,rfl⟩) (λj u hu=>bi hB rfl hu) zqb HLB.o.1 HLB.o.2 hO.mod.size (λv' w'' hGP hgr _=>?_);obtain ⟨ov',cv',rfl⟩:=hGP.form;exact hK _ _ (hw'.grew hgr (hO.push hGP hgr).mkr) ⟨⟨ov',cv',rfl⟩,hO.push hGP hgr⟩
   obtain ⟨_,_,⟨ov,cv,rfl⟩,_⟩:=hkv;refine Sw.bJ ?_;intro w' hw' hF;simp only [qS,qZ];obtain ⟨⟨ov2,cv2,he9⟩,hO⟩:=hF;cases he9;have hnl:(D'++[(⟨kd,z == 0,[]⟩:ar)]).length=D'.length+1:=by simp
   rw [hnl] at hO ⊢;have HNL:=Hi hnl;have c5:w'.cell? ⟨m,5,none⟩=some (.slice ol D'.length cl):=hO.mkr.blk.cell 5;have f5:=hO.mkr.blk.frozen 5;have HS3:=Hi hO.store;clear hO hw' HS2 B5 CZ hnl HI0;go_upto_region 7 with fail;generalize w'.setCell ⟨m,5,none⟩ (.slice ov (D'.length+1) cv)=w3 at *
   clear c5 f5
   by_cases h4:kd<=4
   case neg =>
    have k3:=dF (p:=kd<=4) h4;rw [if_neg h4] at HD;clear h4;go_wp2;go_roundg (gk - 1)
    case measure=>have:=hi5.o;have:=HIN.o;omega
    case rel =>
     refine ⟨i+1,D'++[⟨kd,z == 0,[]⟩],C',st2,ov,oc,cv,cc,rfl,by rw [Int.natCast_add];rfl,?_,?_,?_,by rw [HNL.o];exact HS3.o⟩
     ·have:=hi5.o;have:=HIN.o;show i+1+(gk - 1)=K;omega
     ·show Mk.rep (i+1) lk1F ([],[]) s1=_;rw [Mk.aR HR.o];exact HD.o
     ·have:=HLL.o;refine ⟨?_,?_⟩
      ·show (D'++[(_:ar)]).length=i+1;rw [HNL.o];omega
      ·show C'.length<=i+1;omega
   have k3:=dT (p:=kd<=4) h4;rw [if_pos h4] at HD;have al:Mod [] w3 (w3.alloc (.cells #[.int .i64 (i:Int)] 3)):=mR.alloc _;have HS4:=Hi (gp.stays _ _ HS3.o al);clear h4 HS3 al;go_wp2_with (at_builtin;refine aO (k:=1) (e:=3) (base:=w.heap.size) (l:=C') (l':=[(i:Int)]) rfl _ _ 22 rfl i0 _ 8 Tryz.underlying22 ii iz0 iz1 iz2 rfl zd aF.stay aF.weak rfl HS4.o.gc ⟨w3.heap.size,0,none⟩ _ _ [[.int .i64 (i:Int)]] rfl rfl (aP.one rfl ⟨rfl,?_⟩) (λj u hu=>bi (Blk.new w3 #[.int .i64 (i:Int)] 3) rfl hu) zqb ?_ ?_ ?_ ?_)
   ·exact I64.of zo (by have:=HK.o;have:=HIN.o;omega)
   ·have h4:=HLL.o;have h5:=HIN.o;have h6:=HK.o;unfold maxLen;simp;omega
   ·have h4:=HLL.o;have h5:=HIN.o;have h6:=HK.o;simp;omega
   ·exact HS4.o.mod.size
   intro v' w5 hGP hgr _;obtain ⟨oc',cc',rfl⟩:=hGP.form;have hnl:(C'++[(i:Int)]).length=C'.length+1:=by simp
   have HCL:=Hi hnl;have HS5:=Hi (HS4.o.EC hGP hgr);clear hGP hgr HS4 hnl;go_wp2;go_roundg (gk - 1)
   case measure=>have:=hi5.o;have:=HIN.o;omega
   case rel =>
    refine ⟨i+1,D'++[⟨kd,z == 0,[]⟩],C'++[(i:Int)],st2,ov,oc',cv,cc',rfl,by rw [Int.natCast_add];rfl,?_,?_,?_,by rw [HNL.o];exact HS5.o⟩
    ·have:=hi5.o;have:=HIN.o;show i+1+(gk - 1)=K;omega
    ·show Mk.rep (i+1) lk1F ([],[]) s1=_;rw [Mk.aR HR.o];exact HD.o
    ·have:=HLL.o;refine ⟨?_,?_⟩
     ·show (D'++[(_:ar)]).length=i+1;rw [HNL.o];omega
     ·show (C'++[(i:Int)]).length<=i+1;rw [HCL.o];omega
 case rest =>
  obtain ⟨ol,oc,cl,cc,rfl,HS1⟩:=hcut;clear HS0 H2;go_upto_block 2 with fail
  by_cases hK0:K=0
  ·subst hK0;have hD0:D=[]:=List.eq_nil_of_length_eq_zero HDC.o.1;subst hD0;obtain ⟨rfl,rfl⟩:L=[]/\rs=s2:=by have h9:=HE.o;rw [List.length_nil,Mk.sM] at h9;exact ⟨(congrArg Prod.fst h9).symm,(congrArg Prod.snd h9).symm⟩
   have HS2:Hy (az 3 bc (λb=>w.heap.size<=b) wc (.slice ol 0 cl) []/\MK m sv l (f.eo (.slice ol 0 cl)) rs wc/\Mod [m] w wc):=⟨⟨ol,cl,rfl,Nat.zero_le _,λi h=>absurd h (Nat.not_lt_zero i)⟩,HS1.o.mkr,HS1.o.mod⟩
   clear HS1;go_wp2_with fail
   go_loopg [6] 0 (λgk v6 wr=>v6=.int .i64 0/\Hy (az 3 bc (λb=>w.heap.size<=b) wr (.slice ol 0 cl) []/\MK m sv l (f.eo (.slice ol 0 cl)) rs wr/\Mod [m] w wr))
   case atStart=>exact ⟨rfl,HS2.o⟩
   case round =>
    obtain ⟨rfl,HS3⟩:=hrel;clear HS2;go_wp2_with fail;refine bodyPost_end (results_none rfl _ _ _) rfl ?_;exact ⟨.slice ol 0 cl,rfl,HS3.o⟩
  obtain ⟨g,cap,hvl,hST⟩:=fF.start HS1.o (by have:=HDC.o.1;omega) (by have:=HDC.o.1;have:=HK.o;omega);obtain ⟨f2,hf2⟩:∃ f2,f2=f.eo (.slice ol D.length cl):=⟨_,rfl⟩
  have HF2:Hy (f2.gl=.slice og n cg/\f2.lk=.slice (some ⟨g,0,none⟩) D.length cap/\f2=f.eo (.slice (some ⟨g,0,none⟩) D.length cap)):=by rw [hf2,hvl];exact ⟨HGL.o,rfl,rfl⟩
  rw [<- hf2] at hST;obtain ⟨B1,hB1⟩:∃ B1,B1=wc.heap.size:=⟨_,rfl⟩
  rw [<- hB1] at hST;have HS2:Hy (fF w m sv l f2 g B1 B1 D [] ae (.slice oc C.length cc) C s2 wc):=hST;have HDL:Hy (D.length=K/\K<=6):=⟨HDC.o.1,by have:=HK.o;show K<=6;omega⟩
  have CN2:=Hi (λst x st' n h1 h2 e=>bF m sv l f2 st n h1 h2 (r:=x) (s':=st') e);have CRL:=Hi (λst kd h1 h2 q st' e=>Cx m sv l f2 st n HN.o.1 HN.o.2 HF2.o.1 kd h1 h2 C (by have:=HDC.o.2.1;have:=HK.o;omega) (oc:=oc) (cc:=cc) (rg:=q) (rs:=st') e);clear hf2 hvl hST HS1 hK0 HK CN hB1;go_wp2_with fail
  go_loopg [6] K (λgk v6 wr=>∃ (E:List ar) (st:Mk.S) (B:Nat),v6=.int .i64 (E.length:Int)/\Hy (E.length+gk=K)/\Hy (Mk.rep E.length (lk2F n D C) [] s2=(E,st))/\Hy (fF w m sv l f2 g B1 B D E ae (.slice oc C.length cc) C st wr))
  case atStart=>exact ⟨[],s2,B1,rfl,by show 0+K=K;omega,rfl,HS2.o⟩
  case round =>
   obtain ⟨E,st,B,rfl,hi5,HR,HS⟩:=hrel;clear HS2
   by_cases hin:E.length<K
   case neg =>
    have k1:=dF (p:=(E.length:Int)<K) zo;have k2:¬ (E.length:Int)<K:=zo;have hEK:E.length=K:=by have:=hi5.o;omega
    obtain ⟨rfl,rfl⟩:E=L/\st=rs:=by have h9:=HE.o;have h8:=HR.o;rw [HDL.o.1,<- hEK,h8] at h9;simpa using h9
    have HFIN:Hy (az 3 bc (λb=>w.heap.size<=b) wr (.slice (some ⟨g,0,none⟩) E.length cap) E/\MK m sv l (f.eo (.slice (some ⟨g,0,none⟩) E.length cap)) st wr/\Mod [m] w wr):=by
     have h3:=HF2.o.2.2;have h4:=HDL.o.1;refine ⟨HS.o.fin (hEK.trans h4.symm),?_,HS.o.mod⟩;rw [hEK,<- h4,<- h3];exact HS.o.mkr
    clear HS hEK;go_wp2_with fail;refine bodyPost_end (results_none rfl _ _ _) rfl ?_
    first | exact ⟨.slice (some ⟨g,0,none⟩) E.length cap,rfl,HFIN.o⟩ | exact ⟨rfl,.slice (some ⟨g,0,none⟩) E.length cap,HFIN.o⟩
   have k1:=dT (p:=(E.length:Int)<K) zo;have k2:(E.length:Int)<K:=zo;have hDl:E.length<D.length:=by have:=HDL.o.1;omega
   have k3:(0:Int)<=E.length:=zo;have k4:(E.length:Int)<D.length:=zo;have ei:IntKind.i64.wrap ((E.length:Int)+1)=(E.length:Int)+1:=wrapi zo (by have:=HDL.o.2;omega);obtain ⟨d,hd⟩:∃ d,d=D[E.length]:=⟨_,rfl⟩
   have hd9:D[E.length]?=some d:=by rw [hd];exact gE hDl
   have hc:=HS.o.cells hDl;rw [<- hd] at hc;have HDM:=Hi (HDC.o.2.2 d (by rw [hd];exact List.getElem_mem hDl));have b5:wr.cell? ⟨m,5,none⟩=some (.slice (some ⟨g,0,none⟩) D.length cap):=(HS.o.mkr.blk.cell 5).trans (congrArg some HF2.o.2.1);have a0:wr.cell? ⟨g,E.length*3,none⟩=some (.int .i64 d.kind):=hc.1;have HDL2:=Hi hDl;have HD9:=Hi hd9;have HDD:Hy (D[E.length]'hDl=d):=hd.symm;clear hd hd9 hc hin;obtain ⟨i,hi⟩:∃ i,i=E.length:=⟨_,rfl⟩
   rw [<- hi] at k1 k2 k3 k4 ei a0 ⊢;have HI:=Hi hi;clear hi
   by_cases h7:7<=d.kind
   ·have k7:=dT (p:=7<=d.kind) h7;have HNX:Hy (lk2F n D C E.length E st=(E++[⟨d.kind,d.ignore,[]⟩],st)):=by
     unfold lk2F;rw [HD9.o];show (if 7<=d.kind then _ else _)=_;rw [if_pos h7];obtain ⟨dk,di,dr⟩:=d;have:dr=[]:=HDM.o.2.2;subst this;rfl
    have hS2:=HS.o.next HDL2.o aH.nil;rw [HDD.o] at hS2;have HS2:=Hi hS2;clear hS2 HS h7;go_wp2;go_roundg (gk - 1)
    case measure=>have:=hi5.o;have:=HDL2.o;have:=HDL.o.1;omega
    case rel =>
     refine ⟨E++[(⟨d.kind,d.ignore,[]⟩:ar)],st,_,?_,?_,?_,HS2.o⟩
     ·rw [List.length_append,HI.o];rfl
     ·have:=hi5.o;have:=HDL2.o;have:=HDL.o.1;show (E++[(_:ar)]).length+(gk - 1)=K;rw [List.length_append];simp;omega
     ·show Mk.rep (E++[(_:ar)]).length (lk2F n D C) [] s2=_;rw [List.length_append];show Mk.rep (E.length+1) (lk2F n D C) [] s2=_;rw [Mk.aR HR.o];exact HNX.o
   have k7:=dF (p:=7<=d.kind) h7;obtain ⟨kk,s3,h3⟩:∃ a b,Mk.next 3 st=(a,b):=⟨_,_,rfl⟩
   have ikk:=ay zd h3;obtain ⟨M,hM⟩:∃ M:Nat,1+kk=(M:Int):=⟨(1+kk).toNat,by omega⟩
   have ek:IntKind.i64.wrap (1+kk)=(M:Int):=by rw [wrapi zo zo];exact hM
   obtain ⟨RR,s4,h4⟩:∃ a b,Mk.rep M (kS n d.kind C) [] s3=(a,b):=⟨_,_,rfl⟩
   have HNX:Hy (lk2F n D C E.length E st=(E++[⟨d.kind,d.ignore,RR⟩],s4)):=by
    unfold lk2F;rw [HD9.o];show (if 7<=d.kind then _ else _)=_;rw [if_neg h7,Mk.ai h3,hM,Int.toNat_natCast,Mk.ai h4]
   have HM:Hy (M<=3):=by show M<=3;omega
   have HKI:Hy (1<=d.kind/\d.kind<=6):=⟨HDM.o.1,by omega⟩
   have H4:=Hi h4;have C3:=Hi (CN2.o st kk s3 3 zd zd h3 wr HS.o.mkr);clear h3 h4 h7 ikk hM;go_wp2_with fail;refine C3.o.mono ?_;rintro e w3 ⟨rfl,K3,M3⟩;have HS3:=Hi (HS.o.call K3 M3);clear K3 M3 HS C3 b5 a0;go_wp2_with fail;generalize gk=G at *
   go_loopg [8] M (λgj v8 ws=>∃ (j:Nat) (R:List aN) (su:Mk.S) (ov:Option Addr) (cv:Nat),v8=.int .i64 (j:Int)/\Hy (j+gj=M)/\Hy (Mk.rep j (kS n d.kind C) [] s3=(R,su))/\Hy (R.length=j)/\Hy (LkP w m sv l f2 g B1 B D E (.slice ov R.length cv) (.slice oc C.length cc) C su R (.slice ov R.length cv) ws))
   case atStart=>exact ⟨0,[],s3,none,0,rfl,by show 0+M=M;omega,rfl,rfl,⟨⟨none,0,rfl⟩,HS3.o,aH.nil⟩⟩
   case round =>
    obtain ⟨j,R,su,ov,cv,rfl,hj5,HR2,HRL,HS⟩:=hrel;clear HS3
    by_cases hjm:j<M
    case neg =>
     obtain rfl:j=M:=by have:=hj5.o;omega
     have k8:=dF (p:=(j:Int)<j) zo;obtain ⟨rfl,rfl⟩:R=RR/\su=s4:=by have h9:=H4.o;rw [HR2.o] at h9;simpa using h9
     have hS2:=HS.o.2.1.next HDL2.o HS.o.2.2;rw [HDD.o] at hS2;have HS2:=Hi hS2;clear hS2 HS hjm;go_wp2;go_roundg (G - 1)
     case measure=>have:=hi5.o;have:=HDL2.o;have:=HDL.o.1;omega
     case rel =>
      refine ⟨E++[(⟨d.kind,d.ignore,R⟩:ar)],su,_,?_,?_,?_,HS2.o⟩
      ·rw [List.length_append,HI.o];rfl
      ·have:=hi5.o;have:=HDL2.o;have:=HDL.o.1;show (E++[(_:ar)]).length+(G - 1)=K;rw [List.length_append];simp;omega
      ·show Mk.rep (E++[(_:ar)]).length (lk2F n D C) [] s2=_;rw [List.length_append];show Mk.rep (E.length+1) (lk2F n D C) [] s2=_;rw [Mk.aR HR.o];exact HNX.o
    have k8:=dT (p:=(j:Int)<M) zo;have k9:(j:Int)<M:=zo;have ej:IntKind.i64.wrap ((j:Int)+1)=(j:Int)+1:=wrapi zo (by have:=HM.o;omega);obtain ⟨x,su1,hx⟩:∃ a b,Mk.rule n d.kind C su=(a,b):=⟨_,_,rfl⟩
    have CX:=Hi (CRL.o su d.kind HKI.o.1 HKI.o.2 x su1 hx);have HX:Hy (kS n d.kind C j R su=(R++[x],su1)):=by unfold kS;rw [Mk.ai hx];exact rfl
    have HJM:=Hi hjm;have BG:∀ W,MkJ m sv l f2 (Value.slice ov R.length cv).ownBlock.toList wr W->W.cell? ⟨g,i*3+2,none⟩=some (.slice ov R.length cv)/\W.cell? ⟨g,i*3,none⟩=some (.int .i64 d.kind):=λW k=>by
     have h1:=HS.o.2.1.cells HDL2.o;rw [HDD.o,<- HI.o] at h1;have hgm:g ∉ m::(Value.slice ov R.length cv).ownBlock.toList:=λhg=>by
      have h5:=HS.o.2.1.ord;rcases List.mem_cons.1 hg with hg | hg
      ·omega
      ·have:=(HS.o.2.2.lt g (by simpa using hg)).1;omega
     exact ⟨(k.1.cell (p:=⟨g,i*3+2,none⟩) (aV h1.2.1) hgm).trans h1.2.1,(k.1.cell (p:=⟨g,i*3,none⟩) (aV h1.1) hgm).trans h1.1⟩
    have BZ:∀ W,MkJ m sv l f2 (Value.slice ov R.length cv).ownBlock.toList wr W->W.cell? ⟨g,i*3+2,none⟩=some (.slice ov R.length cv):=λW k=>(BG W k).1
    have BK:∀ W,MkJ m sv l f2 (Value.slice ov R.length cv).ownBlock.toList wr W->W.cell? ⟨g,i*3,none⟩=some (.int .i64 d.kind):=λW k=>(BG W k).2
    have B5:∀ W,MkJ m sv l f2 (Value.slice ov R.length cv).ownBlock.toList wr W->W.cell? ⟨m,5,none⟩=some (.slice (some ⟨g,0,none⟩) D.length cap):=λW k=>k.2.elim λ_ h9=>(h9.blk.cell 5).trans (congrArg some HF2.o.2.1)
    have HI0:MkJ m sv l f2 (Value.slice ov R.length cv).ownBlock.toList wr wr.drew:=⟨((Mod.refl [] wr).drew).more zk,_,MK.stays _ _ HS.o.2.1.mkr (mR.drew)⟩
    have HLB:Hy (R.length+1<=maxLen/\(R.length+1)*128<=140737488355328):=by have h4:=HRL.o;have h5:=HJM.o;have h6:=HM.o;refine ⟨?_,?_⟩;unfold maxLen;omega;omega
    clear hx hjm BG;go_upto_region 17 with fail;refine Sw.aL (I:=MkJ m sv l f2 (Value.slice ov R.length cv).ownBlock.toList wr) (F0:=LkP w m sv l f2 g B1 B D E (.slice ov R.length cv) (.slice oc C.length cc) C su R (.slice ov R.length cv)) MkJ.then 29 [(0,none),(1,none),(2,none),(3,none),(4,none),(5,none),(6,none),(7,none),(8,none),(9,none),(10,none),(11,none),(12,none),(13,none),(14,none),(15,none),(16,none),(17,none),(18,none),(19,none),(20,none),(21,none),(22,none),(23,none),(24,none),(25,none),(26,some (nG (λb=>B<=b/\(Value.slice ov R.length cv).ownBlock≠some b) x (LkP w m sv l f2 g B1 B D E (.slice ov R.length cv) (.slice oc C.length cc) C su1 R (.slice ov R.length cv)))),(27,some (nH wr.heap.size (λb=>B<=b/\(Value.slice ov R.length cv).ownBlock≠some b) x (LkP w m sv l f2 g B1 B D E (.slice ov R.length cv) (.slice oc C.length cc) C su1 R (.slice ov R.length cv)))),(28,some (LkP w m sv l f2 g B1 B D E (.slice ov R.length cv) (.slice oc C.length cc) C su1 (R++[x])))] zt zt (Sq.aW zt) ?hTS453 HI0 (LkP.stays _) (LkP.stays _ _ _ HS.o (mR.drew)) ?mainS453
    case hTS453 =>
     intro p hp T hT v;simp only [List.mem_cons,List.not_mem_nil,or_false] at hp;rcases hp with rfl | rfl | rfl | rfl | rfl | rfl | rfl | rfl | rfl | rfl | rfl | rfl | rfl | rfl | rfl | rfl | rfl | rfl | rfl | rfl | rfl | rfl | rfl | rfl | rfl | rfl | rfl | rfl | rfl <;> first | (cases hT;done) | (cases hT;first | exact LkP.stays _ | exact nH.stays (LkP.stays _) _ | exact nG.stays (LkP.stays _) _)
    iterate 26 refine Sw.vv HI0 ?_
    refine Sw.xx (λw' hw' hF K Q hK=>?_) (λkv hkv=>?_)
    ·go_wp2_with fail;refine (CX.o w' hF.2.1.mkr hF.2.1.calm).mono ?_;rintro e w'' ⟨cs,rfl,⟨v0,v1,v2,v3,v4,rfl,hv⟩,K',M'⟩;go_wp2;exact hK _ _ ⟨hw'.1.then (M'.more zk),_,K'⟩ ⟨⟨v0,v1,v2,v3,v4,rfl,hF.Db ⟨v0,v1,v2,v3,v4,rfl,hv⟩⟩,hF.call K' M'⟩
    obtain ⟨_,_,⟨v0,v1,v2,v3,v4,rfl,_⟩,_⟩:=hkv;refine Sw.xx (λw' hw' hF K Q hK=>?_) (λkv hkv=>?_)
    ·go_wp2_with fail;obtain ⟨⟨u0,u1,u2,u3,u4,he,hS⟩,hO⟩:=hF;cases he;exact hK _ _ (MkJ.then _ _ hw' (mR.alloc _)) ⟨_,_,_,_,_,_,rfl,hw'.1.size,Blk.new _ _ _,bE.stay _ _ _ _ _ hS (((Mod.refl [] _).alloc _).same0 _),LkP.stays _ _ _ hO (mR.alloc _)⟩
    obtain ⟨_,_,nb,u0,u1,u2,u3,u4,rfl,_⟩:=hkv;refine Sw.xx (λw' hw' hF K Q hK=>?_) (λkv hkv=>?_)
    ·obtain ⟨b9,u0,u1,u2,u3,u4,he9,-,hB,hS,hO⟩:=hF;cases he9;refine eN (v:=.slice ov R.length cv) (k:=6) (e:=54) (base:=B) (l:=R) (l':=[x]) rfl _ _ 55 rfl q0 _ 128 Tryz.underlying55 qi qz0 qz1 qz2 rfl zd bE.stay bE.weak rfl hO.2.2 ⟨nb,0,none⟩ _ _ [[u0,u1,u2,u3,u4,.int .i64 x.x]] rfl rfl (aP.one rfl hS) (λj u hu=>bi hB rfl hu) (Ak hS) HLB.o.1 HLB.o.2 hO.2.1.ord.2.2.2.2 (λv' w'' hGP hgr _=>?_);obtain ⟨ov',cv',rfl⟩:=hGP.form;exact hK _ _ (hw'.grew hgr (hO.push hGP hgr).2.1.mkr) (hO.push hGP hgr)
    obtain ⟨_,_,⟨ov2,cv2,rfl⟩,_⟩:=hkv;refine Sw.bJ ?_;intro w' hw' hF;simp only [qS,qZ];have hnl:(R++[x]).length=R.length+1:=by simp
    have HNL:=Hi hnl;have hc:=(hF.2.1.cells HDL2.o).2;have hst:=hF.store HDL2.o;rw [<- HI.o] at hc hst;have gc:w'.cell? ⟨g,i*3+2,none⟩=some (.slice ov R.length cv):=hc.1;have gf:w'.frozen? ⟨g,i*3+2,none⟩=false:=hc.2;have HS5:=Hi hst;clear hc hst hF hw' hnl HS CX BZ BK B5 HI0;generalize hrl:(R++[x]).length=rl at *
    have HRL2:=Hi hrl;clear hrl;go_wp2;go_roundg (gk - 1)
    case measure=>have:=hj5.o;have:=HJM.o;omega
    case rel =>
     refine ⟨j+1,R++[x],su1,ov2,cv2,by rw [Int.natCast_add];rfl,?_,?_,?_,?_⟩
     ·have:=hj5.o;have:=HJM.o;show j+1+(gk - 1)=M;omega
     ·show Mk.rep (j+1) (kS n d.kind C) [] s3=_;rw [Mk.aR HR2.o];exact HX.o
     ·have:=HRL.o;show (R++[x]).length=j+1;simp;omega
     ·rw [HRL2.o];exact HS5.o
end Go.Proofs.YthheaflbbficgaaGreat
