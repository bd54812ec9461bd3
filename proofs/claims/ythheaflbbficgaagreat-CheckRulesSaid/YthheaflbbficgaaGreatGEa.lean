/- CkEach, CkSome. -/
import Derived.Test.YthheaflbbficgaaGreatGBase
import Derived.Test.YthheaflbbficgaaGreatGRf
import Derived.Test.YthheaflbbficgaaGreatGRing
import Derived.Deep.LoopGhost
import Derived.Deep.Cut
import Derived.Deep.CutBlock
import Derived.Deep.WholeRow
import Derived.Laws.Cells
import Derived.IntWalk
set_option linter.all false
namespace Go.Proofs.YthheaflbbficgaaGreat
set_option maxHeartbeats 8000000
open Go.RowKit
set_option maxRecDepth 100000
theorem Ck.dt {α:Type} {f:Nat->α->Int} {l:List α} {i:Nat} (hi:i<l.length) (h:f i l[i]≠0):Ck.bz f i (l.drop i)=(f i l[i],i):=by
 rw [List.drop_eq_getElem_cons hi];unfold Ck.bz;rw [if_neg h]
theorem Ck.dZ {α:Type} {f:Nat->α->Int} {l:List α} {i:Nat} (hi:i<l.length) (h:f i l[i]=0):Ck.bz f i (l.drop i)=Ck.bz f (i+1) (l.drop (i+1)):=by
 rw [List.drop_eq_getElem_cons hi];conv=>lhs;unfold Ck.bz
 rw [if_pos h]
theorem Ck.dH {α:Type} {f:Nat->α->Int} {l:List α}:Ck.bz f l.length (l.drop l.length)=(0,0):=by rw [List.drop_length];rfl
theorem Rows.one {α:Type} {k:Nat} {R:Nat->World->List Value->α->Prop} {B:Nat} {w:World} {v:Value} {l:List α} (h:Rows k R B w v l):v.oneCell'=true:=by
 obtain ⟨_,_,rfl,-⟩:=h.form;rfl
theorem oS {s:ByteArray}:(Value.string s).oneCell'=true:=rfl
theorem oI {k:IntKind} {i:Int}:(Value.int k i).oneCell'=true:=rfl
theorem oB {b:Bool}:(Value.bool b).oneCell'=true:=rfl
noncomputable def Cc (m:TypeId->TypeId):Op->Op
 | .indexAddr t a b=>.indexAddr (m t) a b
 | .load t a=>.load (m t) a
 | .alloc t=>.alloc (m t)
 | .store t a b=>.store (m t) a b
 | .call c=>.call { c with argTypes:=c.argTypes.map m }
 | o=>o
noncomputable def qV (m:TypeId->TypeId) (o:Oper):Oper:={ o with op:=Cc m o.op,type:=m o.type }
noncomputable def iQ (m:TypeId->TypeId):Code->Code
 | .region i ops d=>.region i (ops.map (qV m)) d
 | .seq a b=>.seq (iQ m a) (iQ m b)
 | .cond c a b=>.cond c (iQ m a) (iQ m b)
 | .block i b=>.block i (iQ m b)
 | .loop b=>.loop (iQ m b)
 | o=>o
noncomputable def jQ (m:TypeId->TypeId) (g f:Func):Func:={ f with name:=g.name,targs:=f.targs.map m,params:=f.params.map m,body:=f.body.map (iQ m) }
noncomputable def reM (f g:Func):TypeId->TypeId:=λt=>if t=f.targs.getD 0 0 then g.targs.getD 0 0 else if t=f.params.getD 0 0 then g.params.getD 0 0 else if t=f.params.getD 1 0 then g.params.getD 1 0 else t
noncomputable def zOk (k:Nat) (i:TypeInfo):Bool:=(match i.zero with | some (.agg z)=>z.size == k | _=>false) && i.size == k
theorem zOk.o {k:Nat} {t:TypeId} (h:(Tryz.prog.info? t).map (zOk k)=some true):(∃ z:Array Value,z.size=k/\∀ w,(zeroValue t).run Tryz.prog w=.ok (.agg z) w)/\(Tryz.prog.info? t).map (·.size)=some k/\∀ w,(sizeOf t).run Tryz.prog w=.ok k w:=by
 cases hq:Tryz.prog.info? t with
 | none=>simp [hq] at h
 | some i =>
  simp only [hq,Option.map_some,Option.some.injEq,zOk,Bool.and_eq_true,beq_iff_eq] at h;obtain ⟨h1,h2⟩:=h;refine ⟨?_,by simp [h2],λw=>by simp [sizeOf,typeInfo,hq,h2]⟩
  split at h1
  ·next z hz=>exact ⟨z,by simpa using h1,λw=>by simp [zeroValue,typeInfo,hq,hz]⟩
  ·cases h1
theorem sZ {t:TypeId} {b:Bool} (h:(Tryz.prog.underlying t).map (λu=>match u with | .struct _ | .array _ _=>true | _=>false)=some b) (w:World):(isAgg t).run Tryz.prog w=.ok b w:=by
 cases hq:Tryz.prog.underlying t with
 | none=>simp [hq] at h
 | some u=>simp only [hq,Option.map_some,Option.some.injEq] at h;subst h;cases u <;> simp [isAgg,underlying,hq]
structure ETy {α:Type} (b:Func) (s t u:TypeId) (k:Nat) (R:Nat->World->List Value->α->Prop) (id:FuncId) (g:Func):Prop where
 fn:Tryz.prog.funcs[id]?=some (jQ (reM b g) g b)
 fx:b.targs.getD 0 0=t/\b.params.getD 0 0=s/\b.params.getD 1 0=u
 hu:Tryz.prog.underlying (reM b g s)=some (.slice (reM b g t))
 hz:(Tryz.prog.info? (reM b g t)).map (zOk k)=some true
 ha:(Tryz.prog.underlying (reM b g t)).map (λu=>match u with | .struct _ | .array _ _=>true | _=>false)=some true
 hk:0<k
 one:∀ B w cs x,R B w cs x->cs.toArray.all (·.oneCell')=true
 st:gV R
theorem ETy.of {α:Type} {b:Func} {s t u:TypeId} {k:Nat} {R:Nat->World->List Value->α->Prop} {id:FuncId} {g:Func} (hf:Tryz.prog.funcs[id]?=some g) (st:gV R) (one:∀ B w cs x,R B w cs x->cs.toArray.all (·.oneCell')=true:=by (rintro _ _ _ _ ⟨rfl,-⟩;simp [oI,oB,oS])) (re:g=jQ (reM b g) g b:=by kernel_rfl) (fx:b.targs.getD 0 0=t/\b.params.getD 0 0=s/\b.params.getD 1 0=u:=by (refine ⟨?_,?_,?_⟩ <;> kernel_rfl))
  (hu:Tryz.prog.underlying (reM b g s)=some (.slice (reM b g t)):=by kernel_rfl) (hz:(Tryz.prog.info? (reM b g t)).map (zOk k)=some true:=by kernel_rfl) (ha:(Tryz.prog.underlying (reM b g t)).map (λu=>match u with | .struct _ | .array _ _=>true | _=>false)=some true:=by kernel_rfl) (hk:0<k:=by decide):ETy b s t u k R id g:=⟨hf.trans (congrArg some re),fx,hu,hz,ha,hk,one,st⟩
theorem ETy.o {α:Type} {b:Func} {s t u:TypeId} {k:Nat} {R:Nat->World->List Value->α->Prop} {id:FuncId} {g:Func} (T:ETy b s t u k R id g):∃ m:TypeId->TypeId,Tryz.prog.funcs[id]?=some (jQ m g b)/\(∀ x,x≠s->x≠t->x≠u->m x=x)/\Tryz.prog.underlying (m s)=some (.slice (m t))/\(∃ z:Array Value,z.size=k/\∀ w,(zeroValue (m t)).run Tryz.prog w=.ok (.agg z) w)/\(Tryz.prog.info? (m t)).map (·.size)=some k/\(∀ w,(sizeOf (m t)).run Tryz.prog w=.ok k w)/\(∀ w,(isAgg (m t)).run Tryz.prog w=.ok true w) /\
  (∀ (c n:Nat) a i w,i<n->(Instr.indexAt (m s) (.slice (some a) n c) (.int .i64 (i:Int))).run Tryz.prog w=.ok (.pointer (some (a.add (i*k)))) w):=by
 obtain ⟨hfn,hx,hu,hzi,ha,hk0,h1,hst⟩:=T;obtain ⟨hV,hi,hZ⟩:=zOk.o hzi;refine ⟨reM b g,hfn,λx h1 h2 h3=>(by unfold reM;rw [hx.1,hx.2.1,hx.2.2,if_neg h2,if_neg h1,if_neg h3]),hu,hV,hi,hZ,sZ ha,λc n a i w hi2=>?_⟩;have he:Tryz.prog.elem (reM b g s)=reM b g t:=by simp [Program.elem,hu]
 rw [run_indexAt_slice _ _ _ _ _ _ _ (by rw [he];exact hu),if_pos zo,he,hZ];rfl
theorem Blk.loads {w:World} {b:Nat} {cs:Array Value} {t:TypeId} {k:Nat} (h:Blk w b cs t) (hk:cs.size=k):(loadCellsFrom ⟨b,0,none⟩ 0 k #[]).run Tryz.prog w=.ok cs w:=by
 have:=run_loadCells_list (P:=Tryz.prog) w ⟨b,0,none⟩ cs.toList λj v hv=>by
  have:=h.cell j;rw [<- Array.getElem?_toList,hv] at this;rcases Nat.eq_zero_or_pos j with rfl | hj
  ·simpa [Addr.add] using this
  ·simpa [Addr.add,Nat.ne_of_gt hj] using this
 have hs:cs.toList.length=k:=by simpa using hk
 rw [hs] at this;rw [Array.toArray_toList] at this;exact this
theorem oT {w:World} {a:Addr} {cs:List Value} {k i:Nat} (hk:cs.length=k) (hk0:0<k) (hc0:0<k->w.cell? (a.add (i*k))=cs[0]?) (hcj:∀ j,0<j->j<k->w.cell? ⟨(a.add (i*k)).block,(a.add (i*k)).off+j,none⟩=cs[j]?):(loadCellsFrom (a.add (i*k)) 0 k #[]).run Tryz.prog w=.ok cs.toArray w:=by
 have:=run_loadCells_list (P:=Tryz.prog) w (a.add (i*k)) cs λj v hv=>by
  rcases Nat.eq_zero_or_pos j with rfl | hj
  ·rw [<- hv,<- hc0 hk0];simp [Addr.add]
  ·have hjk:j<k:=by rw [<- hk];exact (gI.1 hv).1
   rw [<- hv,<- hcj j hj hjk];simp [Addr.add,Nat.ne_of_gt hj]
 rwa [hk] at this
abbrev fw {α:Type} (k:Nat) (R:Nat->World->List Value->α->Prop) (one:List Value->Value) (id:FuncId):Prop:=∀ {F:List Nat} {J:Nat->World->Prop} {fn:Nat} {caps:Array Value} {oa:Option Addr} {n c B:Nat} {l:List α} {f:Nat->α->Int} (hS:∀ i,aG (J i)) (hR:∀ i w,J i w->Rows k R B w (.slice oa n c) l)
  (hf:∀ i x cs w,l[i]?=some x->J i w->R B w cs x->Calls Tryz.prog fn (#[.int .i64 (i:Int),one cs]++caps) w λe w'=>e=.returned (.int .i64 (f i x))/\Mod F w w'/\(f i x=0->J (i+1) w')) (hcf:∀ (a:Array Value) (w:World),(callFunc fn a).run Tryz.prog w=.ok (.enter fn a) w) (w:World) (hj0:J 0 w),
  Calls Tryz.prog id #[.slice oa n c,.func (.func fn) #[] caps] w λe w'=>e=.returned (.tuple #[.int .i64 (Ck.each f l).1,.int .i64 ((Ck.each f l).2:Int)])/\Mod F w w'
abbrev gH (cs:List Value):Value:=.agg cs.toArray
abbrev xy (cs:List Value):Value:=cs.headD undef
theorem dA {α:Type} {k:Nat} {R:Nat->World->List Value->α->Prop} {id:FuncId} {g:Func} (T:ETy Tryz.f136 38 97 183 k R id g):fw k R gH id:=by
 intro F J fn caps oa n c B l f hS hR hf hcf w hj0;have hn:n=l.length:=by obtain ⟨_,_,he,_⟩:=(hR 0 w hj0).form;cases he;rfl
 obtain ⟨m,hfn,hx,hu,⟨z,hz,hV⟩,hi,hZ,hA,hI⟩:=T.o;have hI:=hI c l.length;have hk0:=T.hk;have hst:∀ w w' cs x,R B w cs x->Mod [] w w'->R B w' cs x:=λw w' cs x h m=>T.st _ _ _ _ _ h (m.above B)
 have h1:=T.one B;clear T;obtain ⟨_,_,he,hml⟩:=(hR 0 w hj0).form;clear he;subst hn;have HML:=Hi (show l.length<=9223372036854775807 from hml);have HR:=Hi hR;have HS:=Hi hS;have HF:=Hi hf;have H0:=Hi hj0;have HM:=Hi (Mod.refl F w);have HI:=Hi hI;clear hR hf hj0 hS hml hI;have hnt:(jQ m g Tryz.f136).ntmps=25:=Tryz.ntmps136;have HK0:=Hi hk0;have HTI:=Hi hi;have HO:=Hi h1;have HST:=Hi hst;have HZ2:=Hi hz;clear hk0 hi h1 hst hz;go_enter hfn,hnt;simp only [iQ,qV,Cc,List.map_toArray,List.map_cons,List.map_nil,hx,ne_eq,Nat.reduceEqDiff,not_false_eq_true];clear hnt hfn hx;go_wp2_with fail
 go_loopg [11] l.length (λgk v11 wr=>∃ i:Nat,v11=.int .i64 (i:Int)/\Hy (i+gk=l.length)/\Hy (J i wr)/\Hy (Mod F w wr)/\Hy (Ck.each f l=Ck.bz f i (l.drop i)))
 case atStart=>exact ⟨0,rfl,by show 0+l.length=l.length;omega,H0.o,HM.o,rfl⟩
 case round =>
  obtain ⟨i,rfl,hi,HJ,HW,HE⟩:=hrel;clear HM H0
  by_cases hin:i<l.length
  case neg =>
   obtain rfl:i=l.length:=by have:=hi.o;omega
   have k1:=dF (p:=(l.length:Int)<l.length) zo;go_wp2;go_ret2;rw [HE.o,Ck.dH];exact ⟨rfl,HW.o⟩
  have k1:=dT (p:=(i:Int)<l.length) zo;obtain ⟨a,rfl,-,cs,hk,hc0,hcj,hx⟩:=(HR.o i wr HJ.o).at i hin;have hL:=oT (w:=wr) (a:=a) (i:=i) hk HK0.o hc0 hcj;have g1:=HI.o a i wr hin;have k2:(0:Int)<=i:=zo;have k3:(i:Int)<l.length:=zo;have k4:=dT (p:=i<l.length) hin;have HN1:=Hi (λh=>HE.o.trans (Ck.dt (f:=f) hin h));have HN2:=Hi (λh=>HE.o.trans (Ck.dZ (f:=f) hin h));have HGI:=Hi (gE hin);generalize l[i]=x at *
  have hSt:(storeCells ⟨wr.heap.size,0,none⟩ cs 0).run Tryz.prog (wr.alloc (.cells z (m 97)))=.ok () (wr.alloc (.cells cs.toArray (m 97))):=by
   have:=run_storeCells_new (P:=Tryz.prog) wr (m 97) z cs.toArray (by rw [HTI.o];simp [hk]) (by simp [hk,HZ2.o]) (HO.o _ _ _ hx);simpa using this
  have hLd:=run_loadCellsFrom_new (P:=Tryz.prog) wr (m 97) cs.toArray k (by simp [hk]);have ei:IntKind.i64.wrap ((i:Int)+1)=(i:Int)+1:=IntWalk.i64_in _ zqh;have al:Mod [] wr (wr.alloc (.cells cs.toArray (m 97))):=mR.alloc _;have HX:=Hi (HF.o i x cs _ HGI.o (HS.o i _ _ HJ.o al) (HST.o _ _ _ _ hx al));have HA:=Hi al;clear hc0 hcj hx al hin;go_upto_region 4 with fail;clear hSt hL hV hk;generalize wr.alloc (.cells cs.toArray (m 97))=w1 at *
  generalize wr.heap.size=b7 at *
  clear HJ;go_wp2_with fail;refine HX.o.mono ?_;rintro e w2 ⟨rfl,m2,j2⟩;have HW2:=Hi ((HW.o.then (HA.o.more zk)).then m2);have HJ2:=Hi j2;clear m2 j2 HX HGI HA hLd
  by_cases hz:f i x=0
  case neg =>
   have z1:(f i x != 0)=true:=by simpa using hz
   have z2:=dF (p:=f i x=0) hz;have z3:(f i x == 0)=false:=by simpa using hz
   have HE2:=Hi (HN1.o hz);generalize f i x=e at *
   go_wp2;go_ret2;rw [HE2.o];exact ⟨rfl,HW2.o⟩
  have HE2:=Hi (HN2.o hz);have HJ3:=Hi (HJ2.o hz);rw [hz];clear HE HJ2 hz HN1 HN2;go_wp2;go_roundg (gk - 1)
  case measure=>have:=hi.o;omega
  case rel=>exact ⟨i+1,by rw [Int.natCast_add];rfl,by have:=hi.o;show i+1+(gk - 1)=l.length;omega,HJ3.o,HW2.o,HE2.o⟩
structure E1 {α:Type} (R:Nat->World->List Value->α->Prop) (id:FuncId) (g:Func):Prop where
 fn:Tryz.prog.funcs[id]?=some (jQ (reM Tryz.f155 g) g Tryz.f155)
 h3:reM Tryz.f155 g 3=3
 h61:reM Tryz.f155 g 61=61
 hu:Tryz.prog.underlying (reM Tryz.f155 g 49)=some (.slice (reM Tryz.f155 g 22))
 hz:(Tryz.prog.info? (reM Tryz.f155 g 22)).map (·.size)=some 1
 ha:(Tryz.prog.underlying (reM Tryz.f155 g 22)).map (λu=>match u with | .struct _ | .array _ _=>true | _=>false)=some false
theorem E1.of {α:Type} {R:Nat->World->List Value->α->Prop} {id:FuncId} {g:Func} (hf:Tryz.prog.funcs[id]?=some g) (re:g=jQ (reM Tryz.f155 g) g Tryz.f155:=by kernel_rfl)
  (h3:reM Tryz.f155 g 3=3:=by kernel_rfl) (h61:reM Tryz.f155 g 61=61:=by kernel_rfl) (hu:Tryz.prog.underlying (reM Tryz.f155 g 49)=some (.slice (reM Tryz.f155 g 22)):=by kernel_rfl) (hz:(Tryz.prog.info? (reM Tryz.f155 g 22)).map (·.size)=some 1:=by kernel_rfl)
  (ha:(Tryz.prog.underlying (reM Tryz.f155 g 22)).map (λu=>match u with | .struct _ | .array _ _=>true | _=>false)=some false:=by kernel_rfl):E1 R id g:=⟨hf.trans (congrArg some re),h3,h61,hu,hz,ha⟩
theorem eY {α:Type} {R:Nat->World->List Value->α->Prop} {id:FuncId} {g:Func} (T:E1 R id g):fw 1 R xy id:=by
 intro F J fn caps oa n c B l f hS hR hf hcf w h0;obtain ⟨hfn,h3,h61,hu,hzi,ha⟩:=T;have hA:=sZ ha;have hI:∀ a i w,i<l.length->(Instr.indexAt (reM Tryz.f155 g 49) (.slice (some a) l.length c) (.int .i64 (i:Int))).run Tryz.prog w=.ok (.pointer (some (a.add i))) w:=by
  intro a i w hi2;have he:Tryz.prog.elem (reM Tryz.f155 g 49)=reM Tryz.f155 g 22:=by simp [Program.elem,hu]
  have hZ:(sizeOf (reM Tryz.f155 g 22)).run Tryz.prog w=.ok 1 w:=by
   cases hq:Tryz.prog.info? (reM Tryz.f155 g 22) with
   | none=>simp [hq] at hzi
   | some i=>simp [hq] at hzi;simp [sizeOf,typeInfo,hq,hzi]
  rw [run_indexAt_slice _ _ _ _ _ _ _ (by rw [he];exact hu),if_pos zo,he,hZ];simp
 clear ha hzi;generalize hm:reM Tryz.f155 g=m at *
 clear hm;obtain ⟨_,_,he,hml⟩:=(hR 0 w h0).form;obtain rfl:n=l.length:=by cases he;rfl
 clear he;have HML:=Hi (show l.length<=9223372036854775807 from hml);have HR:=Hi hR;have HS:=Hi hS;have HF:=Hi hf;have H0:=Hi h0;have HM:=Hi (Mod.refl F w);have HI:=Hi hI;clear hR hf h0 hS hml hI;have hnt:(jQ m g Tryz.f155).ntmps=25:=Tryz.ntmps155;go_enter hfn,hnt;simp only [iQ,qV,Cc,List.map_toArray,List.map_cons,List.map_nil,h3,h61];clear hnt hfn h3 h61;go_wp2_with fail
 go_loopg [11] l.length (λgk v11 wr=>∃ i:Nat,v11=.int .i64 (i:Int)/\Hy (i+gk=l.length)/\Hy (J i wr)/\Hy (Mod F w wr)/\Hy (Ck.each f l=Ck.bz f i (l.drop i)))
 case atStart=>exact ⟨0,rfl,by show 0+l.length=l.length;omega,H0.o,HM.o,rfl⟩
 case round =>
  obtain ⟨i,rfl,hi,HJ,HW,HE⟩:=hrel;clear HM H0
  by_cases hin:i<l.length
  case neg =>
   obtain rfl:i=l.length:=by have:=hi.o;omega
   have k1:=dF (p:=(l.length:Int)<l.length) zo;go_wp2;go_ret2;rw [HE.o,Ck.dH];exact ⟨rfl,HW.o⟩
  have k1:=dT (p:=(i:Int)<l.length) zo;have k2:(0:Int)<=i:=zo;have k3:(i:Int)<l.length:=zo;have k4:=dT (p:=i<l.length) hin;have HN1:=Hi (λh=>HE.o.trans (Ck.dt (f:=f) hin h));have HN2:=Hi (λh=>HE.o.trans (Ck.dZ (f:=f) hin h));have HGI:=Hi (gE hin);obtain ⟨a,rfl,-,cs,hk,hc0,hcj,hx⟩:=(HR.o i wr HJ.o).at i hin;obtain ⟨v,rfl⟩:∃ v,cs=[v]:=by cases cs with | nil=>cases hk | cons v t=>cases t with | nil=>exact ⟨v,rfl⟩ | cons=>cases hk
  generalize l[i]=x at *
  have c0:=hc0 zd;have g1:=HI.o a i wr hin;simp only [Nat.mul_one,gZ,gS] at c0;have HX:=Hi (HF.o i x _ wr HGI.o HJ.o hx);have ei:IntKind.i64.wrap ((i:Int)+1)=(i:Int)+1:=IntWalk.i64_in _ zqh;clear hc0 hcj hx hin;go_wp2_with fail;refine HX.o.mono ?_;rintro e w2 ⟨rfl,m2,j2⟩;have HW2:=Hi ((HW.o).then m2);have HJ2:=Hi j2;clear m2 j2 HX HGI c0 HJ g1
  by_cases hz:f i x=0
  case neg =>
   have z1:(f i x != 0)=true:=by simpa using hz
   have z2:=dF (p:=f i x=0) hz;have z3:(f i x == 0)=false:=by simpa using hz
   have HE2:=Hi (HN1.o hz);generalize f i x=e at *
   go_wp2;go_ret2;rw [HE2.o];exact ⟨rfl,HW2.o⟩
  have HE2:=Hi (HN2.o hz);have HJ3:=Hi (HJ2.o hz);rw [hz];clear HE HJ2 hz HN1 HN2;go_wp2;go_roundg (gk - 1)
  case measure=>have:=hi.o;omega
  case rel=>exact ⟨i+1,by rw [Int.natCast_add];rfl,by have:=hi.o;show i+1+(gk - 1)=l.length;omega,HJ3.o,HW2.o,HE2.o⟩
theorem wB:fw 3 eH gH 136:=dA (.of Tryz.func136 eH.stay)
theorem zc:fw 3 eE gH 140:=dA (.of Tryz.func140 eE.stay)
theorem uw:fw 4 dD gH 142:=dA (.of Tryz.func142 dD.stay)
theorem wD:fw 4 er gH 145:=dA (.of Tryz.func145 er.stay)
theorem BH:fw 2 jm gH 171:=dA (.of Tryz.func171 jm.stay)
theorem zf:fw 2 eF gH 117:=dA (.of Tryz.func117 eF.stay)
theorem zg:fw 2 iC gH 175:=dA (.of Tryz.func175 iC.stay)
theorem za:fw 3 iX gH 127:=dA (.of Tryz.func127 iX.stay)
theorem zh:fw 4 eP gH 124:=dA (.of Tryz.func124 eP.stay)
theorem sd:fw 2 aZ gH 121:=dA (.of Tryz.func121 aZ.stay (by rintro _ _ _ _ ⟨_,rfl,-,h⟩;simp [oS,oI,oB,h.one]))
theorem zb:fw 6 dW gH 103:=dA (.of Tryz.func103 dW.stay (by rintro _ _ _ _ ⟨_,_,_,_,_,rfl,h0,h1,h2,h3,h4,-⟩;simp [oS,oI,oB,h0.one,h1.one,h2.one,h3.one,h4.one]))
theorem uu:fw 3 aJ gH 119:=dA (.of Tryz.func119 aJ.stay (by rintro _ _ _ _ ⟨_,rfl,-,h⟩;simp [oS,oI,oB,h.one]))
theorem wC:fw 9 aI gH 109:=dA (.of Tryz.func109 aI.stay zqm)
theorem ut:fw 1 dC gH 126:=dA (.of Tryz.func126 dC.stay (by rintro _ _ _ _ ⟨_,rfl,h⟩;simp [h.one]))
theorem jT:fw 1 bn xy 112:=eY (.of Tryz.func112)
theorem BF:fw 1 eW xy 155:=eY (.of Tryz.func155)
theorem ze:fw 1 gK xy 130:=eY (.of Tryz.func130)
def bw (f:Nat) (s most fv:Value) (v:Value) (w:World):Prop:=∃ b0 b1 b2 t0 t1 t2,v=.func (.func f) #[] #[.pointer (some ⟨b0,0,none⟩),.pointer (some ⟨b1,0,none⟩),.pointer (some ⟨b2,0,none⟩)]/\Blk w b0 #[s] t0/\Blk w b1 #[most] t1/\Blk w b2 #[fv] t2
theorem bw.stays {f:Nat} {s most fv v:Value}:aG (bw f s most fv v):=λw w' ⟨b0,b1,b2,t0,t1,t2,h,h0,h1,h2⟩ m=>⟨b0,b1,b2,t0,t1,t2,h,h0.kept m zk,h1.kept m zk,h2.kept m zk⟩
abbrev dR (idL id:FuncId):Prop:=∀ (oa:Option Addr) (n c most fn:Nat) (caps:Array Value) (w:World),Calls Tryz.prog id #[.slice oa n c,.int .i64 (most:Int),.func (.func fn) #[] caps] w λe w'=>(∃ v,e=.returned v/\bw idL (.slice oa n c) (.int .i64 (most:Int)) (.func (.func fn) #[] caps) v w')/\Mod [] w w'
abbrev gL (idE id:FuncId):Prop:=∀ {F:List Nat} {oa:Option Addr} {n c most fn:Nat} {caps:Array Value} {r s:Int} {b0 b1 b2:Nat} {w:World} (hb:w.cell? ⟨b0,0,none⟩=some (.slice oa n c)/\w.cell? ⟨b1,0,none⟩=some (.int .i64 (most:Int))/\w.cell? ⟨b2,0,none⟩=some (.func (.func fn) #[] caps))
  (HC:Hy (Calls Tryz.prog idE #[.slice oa n c,.func (.func fn) #[] caps] w λe w'=>e=.returned (.tuple #[.int .i64 r,.int .i64 s])/\Mod F w w')),
  Calls Tryz.prog id #[.pointer (some ⟨b0,0,none⟩),.pointer (some ⟨b1,0,none⟩),.pointer (some ⟨b2,0,none⟩)] w λe w'=>(if most<n then e=.returned (.tuple #[.int .i64 2,.int .i64 0]) else e=.returned (.tuple #[.int .i64 r,.int .i64 s]))/\Mod F w w'
theorem dR.of {idL id k:Nat} {g:Func} (h:Tryz.prog.funcs[id]?=some g) (h2:g.ntmps=k) (W:Tryz.prog.funcs[id]?=some g->g.ntmps=k->dR idL id:=by (intro hf hn oa n c most fn caps w;go_enter hf,hn;go_wp2;go_ret;exact have T:=own3 w _ _ _ _ _ _;⟨⟨_,rfl,_,_,_,_,_,_,rfl,T.at 0 rfl,T.at 1 rfl,T.at 2 rfl⟩,T.mod⟩)):dR idL id:=W h h2
theorem gL.of {idE id k:Nat} {g:Func} (h:Tryz.prog.funcs[id]?=some g) (h2:g.ntmps=k) (W:Tryz.prog.funcs[id]?=some g->g.ntmps=k->gL idE id:=by
  (intro hf hn F oa n c most fn caps r s b0 b1 b2 w hb HC
   obtain ⟨c0,c1,c2⟩:=hb
   by_cases hm:most<n
   ·have k1:=dT (p:=(most:Int)<n) zo;have k2:(most:Int)<n:=zo;simp only [if_pos hm];clear HC;go_enter hf,hn;go_wp2;go_ret2;exact ⟨rfl,mR⟩
   have k1:=dF (p:=(most:Int)<n) zo
   have k2:¬ (most:Int)<n:=zo
   simp only [if_neg hm]
   go_enter hf,hn
   go_wp2_with fail
   refine HC.o.mono ?_
   rintro e w2 ⟨rfl,m2⟩
   have HM:=Hi m2
   clear m2 HC c0 c1 c2 hm
   go_wp2
   go_ret2
   exact ⟨rfl,HM.o⟩)):gL idE id:=W h h2
abbrev dX {α:Type} (k:Nat) (R:Nat->World->List Value->α->Prop) (one:List Value->Value) (id:FuncId):Prop:=∀ {F:List Nat} {J:Nat->World->Prop} {fn:Nat} {caps:Array Value} {oa:Option Addr} {n c B most:Nat} {l:List α} {f:Nat->α->Int} (hS:∀ i,aG (J i)) (hR:∀ i w,J i w->Rows k R B w (.slice oa n c) l)
  (hf:∀ i x cs w,l[i]?=some x->J i w->R B w cs x->Calls Tryz.prog fn (#[.int .i64 (i:Int),one cs]++caps) w λe w'=>e=.returned (.int .i64 (f i x))/\Mod F w w'/\(f i x=0->J (i+1) w'))
  (hcf:∀ (a:Array Value) (w:World),(callFunc fn a).run Tryz.prog w=.ok (.enter fn a) w) (b0 b1 b2:Nat) (w:World) (h0:J 0 w)
  (hb:w.cell? ⟨b0,0,none⟩=some (.slice oa n c)/\w.cell? ⟨b1,0,none⟩=some (.int .i64 (most:Int))/\w.cell? ⟨b2,0,none⟩=some (.func (.func fn) #[] caps)),
  Calls Tryz.prog id #[.pointer (some ⟨b0,0,none⟩),.pointer (some ⟨b1,0,none⟩),.pointer (some ⟨b2,0,none⟩)] w λe w'=>e=.returned (.tuple #[.int .i64 (Ck.some most f l).1,.int .i64 ((Ck.some most f l).2:Int)])/\Mod F w w'
theorem dX.of {α:Type} {k:Nat} {R:Nat->World->List Value->α->Prop} {one:List Value->Value} {id idE:FuncId} (E:fw k R one idE) (W:gL idE id):dX k R one id:=by
 intro F J fn caps oa n c B most l f hS hR hf hcf b0 b1 b2 w h0 hb;refine (W hb (Hi (E hS hR hf hcf w h0))).mono ?_;rintro e w' ⟨h,m⟩;obtain ⟨_,_,he,-⟩:=(hR 0 w h0).form;obtain rfl:n=l.length:=by cases he;rfl
 refine ⟨?_,m⟩;unfold Ck.some
 split at h
 ·next hm=>rw [h,if_pos hm];rfl
 ·next hm=>rw [h,if_neg hm]
theorem xO:dR 139 85:=dR.of Tryz.func85 Tryz.ntmps85
theorem yJ:dX 3 eE gH 139:=dX.of zc (gL.of Tryz.func139 Tryz.ntmps139)
theorem tY:dR 141 88:=dR.of Tryz.func88 Tryz.ntmps88
theorem ui:dX 4 dD gH 141:=dX.of uw (gL.of Tryz.func141 Tryz.ntmps141)
theorem vq:dR 144 90:=dR.of Tryz.func90 Tryz.ntmps90
theorem wj:dX 4 er gH 144:=dX.of wD (gL.of Tryz.func144 Tryz.ntmps144)
theorem Ad:dR 170 131:=dR.of Tryz.func131 Tryz.ntmps131
theorem Bc:dX 2 jm gH 170:=dX.of BH (gL.of Tryz.func170 Tryz.ntmps170)
theorem xQ:dR 116 57:=dR.of Tryz.func57 Tryz.ntmps57
theorem yL:dX 2 eF gH 116:=dX.of zf (gL.of Tryz.func116 Tryz.ntmps116)
theorem xR:dR 123 66:=dR.of Tryz.func66 Tryz.ntmps66
theorem yM:dX 4 eP gH 123:=dX.of zh (gL.of Tryz.func123 Tryz.ntmps123)
theorem rJ:dR 120 62:=dR.of Tryz.func62 Tryz.ntmps62
theorem rV:dX 2 aZ gH 120:=dX.of sd (gL.of Tryz.func120 Tryz.ntmps120)
theorem tX:dR 118 60:=dR.of Tryz.func60 Tryz.ntmps60
theorem uh:dX 3 aJ gH 118:=dX.of uu (gL.of Tryz.func118 Tryz.ntmps118)
theorem vm:dR 108 53:=dR.of Tryz.func53 Tryz.ntmps53
theorem vZ:dX 9 aI gH 108:=dX.of wC (gL.of Tryz.func108 Tryz.ntmps108)
theorem tW:dR 125 69:=dR.of Tryz.func69 Tryz.ntmps69
theorem ug:dX 1 dC gH 125:=dX.of ut (gL.of Tryz.func125 Tryz.ntmps125)
theorem Ab:dR 133 75:=dR.of Tryz.func75 Tryz.ntmps75
theorem Bb:dX 1 bn xy 133:=dX.of jT (gL.of Tryz.func133 Tryz.ntmps133)
theorem xP:dR 129 72:=dR.of Tryz.func72 Tryz.ntmps72
theorem yK:dX 1 gK xy 129:=dX.of ze (gL.of Tryz.func129 Tryz.ntmps129)
end Go.Proofs.YthheaflbbficgaaGreat
