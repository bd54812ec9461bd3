/- MkOk, MrA, MrB, MrC, MrD. -/
import Derived.Test.YthheaflbbficgaaGreatGBase
import Derived.Test.YthheaflbbficgaaGreatGMade
import Derived.Test.YthheaflbbficgaaGreatGRf
import Derived.Test.YthheaflbbficgaaGreatGCo
import Derived.Test.YthheaflbbficgaaGreatGCf
import Derived.Test.YthheaflbbficgaaGreatGCp
set_option linter.all false
namespace Go.Proofs.YthheaflbbficgaaGreat
open Go.RowKit
theorem ed {α:Type} {f:Nat->List α->Mk.M (List α)} (P:α->Prop) {n:Nat} {s:Mk.S} {a:List α} (h0:∀ x∈a,P x) (hf:∀ i L s,i<n->(∀ x∈L,P x)->∀ x∈(f i L s).1,P x):∀ x∈(Mk.rep n f a s).1,P x :=
 Mk.bH (f:=f) (λ_ (L:List α)=>∀ x∈L,P x) h0 λi L s hi h=>hf i L s hi h
theorem bu {α:Type} {P:α->Prop} {L:List α} {x:α} (h:∀ y∈L,P y) (hx:P x):∀ y∈L++[x],P y:=λy hy=>by
 rcases List.mem_append.1 hy with hy | hy
 ·exact h y hy
 ·obtain rfl:=mI.1 hy;exact hx
def nL (p:bV):Prop:=-100<=p.x/\p.x<=900/\-200<=p.y/\p.y<=800
theorem Aw (p:Nat) (s:Mk.S):nL (Mk.point p s).1:=by
 obtain ⟨x,s1,h1⟩:∃ a b,Mk.next 21 s=(a,b):=⟨_,_,rfl⟩
 obtain ⟨y,s2,h2⟩:∃ a b,Mk.next 21 s1=(a,b):=⟨_,_,rfl⟩
 have i1:=ay zd h1;have i2:=ay zd h2;unfold Mk.point;rw [Mk.ai h1,Mk.ai h2]
 split
 ·unfold nL;simp only;omega
 ·obtain ⟨z,s3,h3⟩:∃ a b,Mk.next 4 s2=(a,b):=⟨_,_,rfl⟩
  rw [Mk.ai h3];unfold nL;simp only;omega
def Cd:Nat->List bV->Mk.M (List bV):=λp l s=>Mk.bind (Mk.point p s) λd s=>(l++[d],s)
def fJ:Int->List Int->Int->Prop
 | last,[],n=>last=n - 1
 | last,e::r,n=>last+2<=e/\e<n/\fJ e r n
theorem fJ.snoc {n n':Int}:∀ {l:List Int} {a:Int},fJ a l n->n+2<=n'->fJ a (l++[n' - 1]) n'
 | [],a,h,h2=>by unfold fJ at h;subst h;exact ⟨by omega,by omega,rfl⟩
 | e::r,a,h,h2=>⟨h.1,by have:=h.2.1;omega,fJ.snoc h.2.2 h2⟩
theorem vQ (s:Mk.S):(∀ p∈(Mk.outline s).1.pts,nL p)/\(Mk.outline s).1.ends.length<=2/\fJ (-1) (Mk.outline s).1.ends (Mk.outline s).1.pts.length:=by
 obtain ⟨n,s1,h1⟩:∃ a b,Mk.next 3 s=(a,b):=⟨_,_,rfl⟩
 have i1:=ay zd h1;unfold Mk.outline;rw [Mk.ai h1];have key:=Mk.bH (f:=λ_ o s=>Mk.contour o s) (a:=(⟨[],[]⟩:dm)) (s:=s1) (n:=n.toNat) (λi (o:dm)=>(∀ p∈o.pts,nL p)/\o.ends.length<=i/\fJ (-1) o.ends o.pts.length) ⟨by simp,nR _,by simp [fJ]⟩ λi o s hi h=>by
  obtain ⟨k,t1,hk⟩:∃ a b,Mk.next 4 s=(a,b):=⟨_,_,rfl⟩
  have ik:=ay zd hk;obtain ⟨P,t2,hP⟩:∃ a b,Mk.rep (2+k).toNat Cd o.pts t1=(a,b):=⟨_,_,rfl⟩
  have hc:Mk.contour o s=(⟨P,o.ends++[(P.length:Int) - 1]⟩,t2):=by
   unfold Mk.contour;rw [Mk.ai hk];show Mk.bind (Mk.rep (2+k).toNat Cd o.pts t1) _=_;rw [Mk.ai hP]
  rw [hc];have a1:=ed (f:=Cd) nL (n:=(2+k).toNat) (s:=t1) h.1 λi L s _ hL=>bu hL (Aw i s)
  have a2:=Mk.bH (f:=Cd) (a:=o.pts) (s:=t1) (n:=(2+k).toNat) (λi (L:List bV)=>L.length=o.pts.length+i) rfl λi L s _ hL=>by
   show (L++[_]).length=_;simp;omega
  rw [hP] at a1 a2;refine ⟨a1,by simp;exact h.2.1,?_⟩;have a3:P.length=o.pts.length+(2+k).toNat:=a2;exact fJ.snoc h.2.2 zo
 refine ⟨key.1,nT key.2.1 zo,key.2.2⟩
def uK (nr np:Nat) (d:co):Prop:=0<=d.region/\d.region<nr/\-1<=d.point/\d.point<np/\-20<=d.x/\d.x<=20/\-20<=d.y/\d.y<=20/\(d.point=-1->d.y=0)
theorem zl (nr np:Nat) (s:Mk.S):(∀ d∈(Mk.deltas nr np s).1,uK nr np d)/\(Mk.deltas nr np s).1.length<=nr*(np+1):=by
 show (∀ d∈(Mk.rep nr (deR np) [] s).1,uK nr np d)/\(Mk.rep nr (deR np) [] s).1.length<=nr*(np+1)
 refine Mk.bH (f:=deR np) (λi (L:List co)=>(∀ d∈L,uK nr np d)/\L.length<=i*(np+1)) ⟨by simp,by simp⟩ λr L s hr h=>?_
 have key:=Mk.bH (f:=deP r) (a:=L) (s:=s) (n:=np+1) (λi (M:List co)=>(∀ d∈M,uK nr np d)/\M.length<=L.length+i) ⟨h.1,nR _⟩ λp M s hp hM=>by
  obtain ⟨z,t1,hz⟩:∃ a b,Mk.next 3 s=(a,b):=⟨_,_,rfl⟩
  unfold deP;rw [Mk.ai hz]
  split
  ·obtain ⟨x,t2,hx⟩:∃ a b,Mk.next 41 t1=(a,b):=⟨_,_,rfl⟩
   have ix:=ay zd hx;rw [Mk.ai hx]
   split
   ·exact ⟨bu hM.1 zqo,by simp;omega⟩
   ·obtain ⟨y,t3,hy⟩:∃ a b,Mk.next 41 t2=(a,b):=⟨_,_,rfl⟩
    have iy:=ay zd hy;rw [Mk.ai hy];exact ⟨bu hM.1 zqo,by simp;omega⟩
  ·exact ⟨hM.1,by have:=hM.2;simp only;omega⟩
 refine ⟨key.1,?_⟩;have h1:=key.2;have h2:=h.2;have h3:(r+1)*(np+1)=r*(np+1)+(np+1):=by rw [Nat.add_mul,Nat.one_mul]
 exact nT h1 zo
theorem oJ (n funcs most:Int) (hm:0<most) (s:Mk.S):(Mk.hint n funcs most s).1.length<=9*most.toNat:=by
 obtain ⟨k,s1,h1⟩:∃ a b,Mk.next most s=(a,b):=⟨_,_,rfl⟩
 have i1:=ay hm h1;rw [Mk.rA h1];have key:=Mk.bH (f:=qc n funcs) (a:=[]) (s:=s1) (n:=k.toNat) (λi (L:List bS)=>L.length<=9*i) (nR _) λi L s _ h=>by
  show (L++(Mk.piece n funcs s).1).length<=9*(i+1)
  have:=(Mk.qu n funcs s).1;rw [List.length_append];omega
 omega
def anG (mark:Bool) (c:Int):Nat->List bh->Mk.M (List bh):=λi l s=>Mk.bind (Mk.next 3 s) λz s =>
  let k:Int×Int:=[(1,0),(1,1),(3,0),(4,0),(2,c)].getD i (0,0)
  if z=0/\(k.1≠2∨mark=true) then Mk.bind (Mk.next 21 s) λx s=>Mk.bind (Mk.next 21 s) λy s=>(l++[⟨k.1,k.2,x*50,y*50 - 200⟩],s) else (l,s)
theorem uC (mark:Bool) (s:Mk.S):(Mk.anchors mark s).1.length<=5:=by
 obtain ⟨c,s1,h1⟩:∃ a b,Mk.next 2 s=(a,b):=⟨_,_,rfl⟩
 have e:Mk.anchors mark s=Mk.rep 5 (anG mark c) [] s1:=by unfold Mk.anchors;rw [Mk.ai h1];rfl
 rw [e];refine Mk.bH (f:=anG mark c) (λi (L:List bh)=>L.length<=i) (nR _) λi L s _ h=>?_
 obtain ⟨z,t1,hz⟩:∃ a b,Mk.next 3 s=(a,b):=⟨_,_,rfl⟩
 unfold anG;rw [Mk.ai hz];simp only
 split
 ·show (L++[_]).length<=i+1;simp;exact h
 ·exact Nat.le_succ_of_le h
theorem yx (n:Nat) (s:Mk.S):(Mk.parts n s).1.length<=1:=by
 unfold Mk.parts
 split
 ·obtain ⟨z,t1,hz⟩:∃ a b,Mk.next 4 s=(a,b):=⟨_,_,rfl⟩
  rw [Mk.ai hz]
  split
  ·unfold Mk.kG Mk.bind;simp
  ·exact Nat.zero_le _
 ·exact Nat.zero_le _
structure Cj (nr:Nat) (g:av):Prop where
 adv:100<=g.adv/\g.adv<=1000
 ptl:g.pts.length<=10
 pts:∀ p∈g.pts,nL p
 endl:g.ends.length<=2
 ends:fJ (-1) g.ends g.pts.length
 del:∀ d∈g.deltas,uK nr g.pts.length d
 dell:g.deltas.length<=nr*11
 parl:g.parts.length<=1
 ancl:g.anchors.length<=5
 hinl:g.hint.length<=54
 name:g.name.size<=7
theorem tA (n nr nf:Nat) (s:Mk.S):Cj nr (Mk.glyph n nr nf s).1:=by
 obtain ⟨a,s1,h1⟩:∃ a b,Mk.next 19 s=(a,b):=⟨_,_,rfl⟩
 obtain ⟨k,s2,h2⟩:∃ a b,Mk.next 4 s1=(a,b):=⟨_,_,rfl⟩
 obtain ⟨o,s3,h3⟩:∃ a b,Mk.outline s2=(a,b):=⟨_,_,rfl⟩
 obtain ⟨p,s4,h4⟩:∃ a b,Mk.parts n s3=(a,b):=⟨_,_,rfl⟩
 obtain ⟨an,s5,h5⟩:∃ a b,Mk.anchors (decide (n≠0) && decide (k=0)) s4=(a,b):=⟨_,_,rfl⟩
 obtain ⟨de,s6,h6⟩:∃ a b,Mk.deltas nr o.pts.length s5=(a,b):=⟨_,_,rfl⟩
 obtain ⟨hi,s7,h7⟩:∃ a b,Mk.hint o.pts.length nf 6 ⟨s6.r,2⟩=(a,b):=⟨_,_,rfl⟩
 have i1:=ay zd h1;have e:Mk.glyph n nr nf s=(⟨if n=0 then (⟨#[46,110,111,116,100,101,102]⟩:ByteArray) else Mk.gname n,100+a*50,decide (n≠0) && decide (k=0),o.pts,o.ends,p,an,de,hi⟩,s7):=by
  unfold Mk.glyph;rw [Mk.ai h1,Mk.ai h2,Mk.ai h3,Mk.ai h4];simp only;rw [Mk.ai h5,Mk.ai h6,Mk.ai h7]
 rw [e];have a1:=mP s2;have a2:=vQ s2;have a3:=yx n s3;have a4:=uC (decide (n≠0) && decide (k=0)) s4;have a5:=zl nr o.pts.length s5;have a6:=oJ o.pts.length nf 6 zd ⟨s6.r,2⟩;rw [h3] at a1 a2;rw [h4] at a3;rw [h5] at a4;rw [h6] at a5;rw [h7] at a6;refine ⟨⟨by simp only;omega,by simp only;omega⟩,a1,a2.1,a2.2.1,a2.2.2,a5.1,nT a5.2 (Nat.mul_le_mul_left _ (by have:o.pts.length<=10:=a1;omega)),a3,a4,a6,?_⟩;simp only
 split
 ·decide
 ·show (2:Nat)<=7;decide
def nk (l:List Int):Prop:=l.length<=4
theorem nz (n most:Int) (hm:0<=most) (s:Mk.S):(∀ x∈(Mk.row n most s).1,nk x)/\(Mk.row n most s).1.length<=most.toNat:=by
 obtain ⟨k,s1,h1⟩:∃ a b,Mk.next (most+1) s=(a,b):=⟨_,_,rfl⟩
 have i1:=ay zo h1;rw [Mk.uO h1];have key:=Mk.bH (f:=xw n) (a:=[]) (s:=s1) (n:=k.toNat) (λi (L:List (List Int))=>(∀ x∈L,nk x)/\L.length<=i) ⟨by simp,nR _⟩ λi L s _ h=>by
  show (∀ x∈L++[(Mk.set n s).1],nk x)/\(L++[(Mk.set n s).1]).length<=i+1;exact ⟨bu h.1 (lg n s),by simp;exact h.2⟩
 exact ⟨key.1,by have:=key.2;omega⟩
structure RuT (r:aN):Prop where
 bl:r.back.length<=4
 b:∀ x∈r.back,nk x
 il:r.ins.length<=4
 i:∀ x∈r.ins,nk x
 al:r.ahead.length<=4
 a:∀ x∈r.ahead,nk x
 ol:r.o.length<=4
 cl:r.calls.length<=4
theorem j3 (n:Int) (k:Nat) (s:Mk.S):(Mk.nexts n k s).1.length=k:=dG (f:=λ_ l s=>Mk.bind (Mk.next n s) λx s=>(l++[x],s)) (λ_ _ _=>by simp [Mk.bind]) k s
theorem ifrow (c:Prop) [Decidable c] (n:Int) (s:Mk.S):(∀ x∈(if c then Mk.row n 2 s else ([],s)).1,nk x)/\(if c then Mk.row n 2 s else ([],s)).1.length<=2:=by
 split
 ·exact nz n 2 zd s
 ·exact ⟨by simp,Nat.zero_le _⟩
theorem Cv (n kind:Int) (C:List Int) (s:Mk.S):RuT (Mk.rule n kind C s).1:=by
 obtain ⟨a,s1,h1⟩:∃ a b,Mk.set n s=(a,b):=⟨_,_,rfl⟩
 have ha:nk a:=by have:=lg n s;rw [h1] at this;exact this
 unfold Mk.rule;rw [Mk.ai h1];have one:∀ x∈[a],nk x:=by intro x hx;obtain rfl:=mI.1 hx;exact ha
 have none':∀ x∈([]:List (List Int)),nk x:=by simp
 split
 ·obtain ⟨b,s2,h2⟩:∃ a b,Mk.set n s1=(a,b):=⟨_,_,rfl⟩
  have hb:nk b:=by have:=lg n s1;rw [h2] at this;exact this
  rw [Mk.ai h2]
  exact ⟨Nat.zero_le _,none',by simp [Mk.bind],by
   intro x hx;simp only [Mk.bind,List.mem_cons,List.not_mem_nil,or_false] at hx;rcases hx with rfl | rfl
   ·exact ha
   ·exact hb,Nat.zero_le _,none',Nat.zero_le _,Nat.zero_le _⟩
 obtain ⟨z,s2,h2⟩:∃ a b,Mk.next 2 s1=(a,b):=⟨_,_,rfl⟩
 obtain ⟨bk,s3,h3⟩:∃ a b,(if z=0 then Mk.row n 2 s2 else ([],s2))=(a,b):=⟨_,_,rfl⟩
 obtain ⟨ah,s4,h4⟩:∃ a b,(if z=0 then Mk.row n 2 s3 else ([],s3))=(a,b):=⟨_,_,rfl⟩
 have b3:=ifrow (z=0) n s2;have b4:=ifrow (z=0) n s3;rw [h3] at b3;rw [h4] at b4;simp only at b3 b4;rw [Mk.ai h2,Mk.ai h3,Mk.ai h4];have more:∀ s,(∀ x∈a::(Mk.row n 2 s).1,nk x)/\(a::(Mk.row n 2 s).1).length<=4:=λs=>by
  have h9:=nz n 2 zd s;have h8:(Mk.row n 2 s).1.length<=2:=h9.2;refine ⟨λx hx=>?_,by rw [List.length_cons];omega⟩;rcases List.mem_cons.1 hx with rfl | hx
  ·exact ha
  ·exact h9.1 x hx
 split
 ·refine ⟨by have:=b3.2;show bk.length<=4;omega,b3.1,by simp [Mk.bind],one,by have:=b4.2;show ah.length<=4;omega,b4.1,?_,Nat.zero_le _⟩;show (Mk.nexts n a.length s4).1.length<=4;rw [j3];exact ha
 split
 ·obtain ⟨k,s5,h5⟩:∃ a b,Mk.next 4 s4=(a,b):=⟨_,_,rfl⟩
  have i5:=ay zd h5;rw [Mk.ai h5];refine ⟨by have:=b3.2;show bk.length<=4;omega,b3.1,by simp [Mk.bind],one,by have:=b4.2;show ah.length<=4;omega,b4.1,?_,Nat.zero_le _⟩;show (Mk.nexts n k.toNat s5).1.length<=4;rw [j3];omega
 split
 ·obtain ⟨mo,s5,h5⟩:∃ a b,Mk.row n 2 s4=(a,b):=⟨_,_,rfl⟩
  have hm:=more s4;rw [h5] at hm;rw [Mk.ai h5];exact ⟨by have:=b3.2;show bk.length<=4;omega,b3.1,hm.2,hm.1,by have:=b4.2;show ah.length<=4;omega,b4.1,by simp [Mk.bind],Nat.zero_le _⟩
 obtain ⟨mo,s5,h5⟩:∃ a b,Mk.row n 2 s4=(a,b):=⟨_,_,rfl⟩
 obtain ⟨k,s6,h6⟩:∃ a b,Mk.next 3 s5=(a,b):=⟨_,_,rfl⟩
 have hm:=more s4;rw [h5] at hm;have i6:=ay zd h6;rw [Mk.ai h5,Mk.ai h6];refine ⟨by have:=b3.2;show bk.length<=4;omega,b3.1,hm.2,hm.1,by have:=b4.2;show ah.length<=4;omega,b4.1,Nat.zero_le _,?_⟩;show (if C.length=0 then (([]:List dY),s6) else Mk.rep k.toNat (λ_ l s=>Mk.bind (Mk.next ((a::mo).length:Int) s) λp s=>Mk.bind (Mk.next (C.length:Int) s) λq s=>(l++[(⟨p,C.getD q.toNat 0⟩:dY)],s)) [] s6).1.length<=4
 split
 ·exact Nat.zero_le _
 ·refine nT (Nat.le_of_eq (dG (f:=λ_ l s=>Mk.bind (Mk.next ((a::mo).length:Int) s) λp s=>Mk.bind (Mk.next (C.length:Int) s) λq s=>(l++[(⟨p,C.getD q.toNat 0⟩:dY)],s)) (λ_ _ _=>by simp [Mk.bind]) k.toNat s6)) ?_;omega
def LkT (d:ar):Prop:=d.rules.length<=4/\∀ r∈d.rules,RuT r
theorem vX (n:Int) (s:Mk.S):∀ d∈(Mk.lookups n s).1,LkT d:=by
 obtain ⟨k,s1,h1⟩:∃ a b,Mk.next 7 s=(a,b):=⟨_,_,rfl⟩
 obtain ⟨⟨D,C⟩,s2,h2⟩:∃ a b,Mk.rep k.toNat lk1F ([],[]) s1=(a,b):=⟨_,_,rfl⟩
 rw [Mk.jA h1 h2];refine ed (f:=lk2F n D C) LkT zk λi L s hi h=>?_
 unfold lk2F
 split
 ·exact h
 ·rename_i d hd
  split
  ·refine bu h ?_;have h3:=nC k.toNat s1;rw [h2] at h3;have h4:d.rules=[]:=(h3.2.2 d (List.mem_of_getElem? hd)).2.2;unfold LkT;rw [h4];exact ⟨Nat.zero_le _,by simp⟩
  ·obtain ⟨x,t1,hx⟩:∃ a b,Mk.next 3 s=(a,b):=⟨_,_,rfl⟩
   have ix:=ay zd hx;rw [Mk.ai hx];refine bu h ⟨?_,?_⟩
   ·show (Mk.rep (1+x).toNat (kS n d.kind C) [] t1).1.length<=4;rw [dG (f:=kS n d.kind C) (λ_ _ _=>by simp [kS,Mk.bind])];omega
   ·exact ed (f:=kS n d.kind C) RuT zk λi L s _ h=>bu h (Cv n d.kind C s)
def Cm (a:bB):Prop:=-200<=a.min/\a.min<=0/\a.dflt=0/\0<=a.max/\a.max<=300/\a.name.size=3
theorem rH (k:Nat) (s:Mk.S):(∀ a∈(Mk.axes k s).1,Cm a)/\(Mk.axes k s).1.length=k:=by
 rw [Mk.ll];refine ⟨ed (f:=axF) Cm zk λi L s _ h=>?_,dG (f:=axF) (λ_ _ _=>by simp [axF,Mk.bind]) k s⟩;obtain ⟨x,s1,h1⟩:∃ a b,Mk.next 3 s=(a,b):=⟨_,_,rfl⟩
 obtain ⟨y,s2,h2⟩:∃ a b,Mk.next 4 s1=(a,b):=⟨_,_,rfl⟩
 have i1:=ay zd h1;have i2:=ay zd h2;unfold axF;rw [Mk.ai h1,Mk.ai h2];refine bu h ⟨?_,?_,rfl,?_,?_,rfl⟩ <;> simp only <;> omega
def zH (k:Nat) (r:bv):Prop:=r.tents.length=k/\∀ t∈r.tents,t∈Mk.tents
theorem xD (x:Nat) (h:x<5):Mk.tents.getD x ⟨0,0,0⟩∈Mk.tents:=by
 match x,h with
 | 0,_=>simp [Mk.tents]
 | 1,_=>simp [Mk.tents]
 | 2,_=>simp [Mk.tents]
 | 3,_=>simp [Mk.tents]
 | 4,_=>simp [Mk.tents]
theorem l9 (k:Nat) (s:Mk.S):zH k (Mk.region k s).1:=by
 obtain ⟨T,t1,hT⟩:∃ a b,Mk.rep k tnF [] s=(a,b):=⟨_,_,rfl⟩
 have e:Mk.region k s=(⟨T⟩,t1):=by unfold Mk.region;exact (Mk.ai hT _).trans rfl
 rw [e];have a1:=dG (f:=tnF) (λ_ _ _=>by simp [tnF,Mk.bind]) k s;have a2:=ed (f:=tnF) (λt=>t∈Mk.tents) (n:=k) (s:=s) (a:=[]) zk λi L s _ h=>by
  obtain ⟨x,s1,h1⟩:∃ a b,Mk.next 5 s=(a,b):=⟨_,_,rfl⟩
  have i1:=ay zd h1;unfold tnF;rw [Mk.ai h1];exact bu h (xD _ zo)
 rw [hT] at a1 a2;exact ⟨a1,a2⟩
theorem oZ (k:Nat) (s:Mk.S):(∀ r∈(Mk.regions k s).1,zH k r)/\(Mk.regions k s).1.length<=3/\(k=0->(Mk.regions k s).1=[]):=by
 unfold Mk.regions
 split
 ·obtain ⟨x,s1,h1⟩:∃ a b,Mk.next 4 s=(a,b):=⟨_,_,rfl⟩
  have i1:=ay zd h1;rw [Mk.ai h1];refine ⟨ed (f:=rgF k) (zH k) zk λi L s _ h=>bu h (l9 k s),?_,λh0=>by omega⟩;show (Mk.rep x.toNat (rgF k) [] s1).1.length<=3;rw [dG (f:=rgF k) (λ_ _ _=>by simp [rgF,Mk.bind])];omega
 ·exact ⟨by simp,Nat.zero_le _,λ_=>rfl⟩
structure EK (F:aD):Prop where
 unit:I64 F.unit
 gll:2<=F.glyphs.length/\F.glyphs.length<=10
 gl:∀ g∈F.glyphs,Cj F.regions.length g
 chl:F.chars.length<=16
 lkl:F.lookups.length<=100
 lk:∀ d∈F.lookups,LkT d
 ftl:F.features.length<=8
 ft:∀ f∈F.features,f.name.size<=4/\f.lookups.length<=100
 axl:F.axes.length<=2
 ax:∀ a∈F.axes,Cm a
 rgl:F.regions.length<=3
 rg:∀ r∈F.regions,zH F.axes.length r
 rg0:F.axes.length=0->F.regions=[]
 fnl:F.funcs.length<=2
 fn:∀ c∈F.funcs,c.length<=36
 cvl:F.cvt.length<=3
theorem De (l:List Int):EK (Mk.made l):=by
 obtain ⟨u,s1,h1⟩:∃ a b,Mk.next 4 ⟨l,0⟩=(a,b):=⟨_,_,rfl⟩
 obtain ⟨ka,s2,h2⟩:∃ a b,Mk.next 3 s1=(a,b):=⟨_,_,rfl⟩
 have i1:=ay zd h1;have i2:=ay zd h2;obtain ⟨U,rfl⟩:∃ K:Nat,u=K:=⟨u.toNat,by omega⟩
 obtain ⟨KA,rfl⟩:∃ K:Nat,ka=K:=⟨ka.toNat,by omega⟩
 obtain ⟨AX,s3,h3⟩:∃ a b,Mk.rep KA axF [] s2=(a,b):=⟨_,_,rfl⟩
 obtain ⟨RG,s4,h4⟩:∃ a b,Mk.regions KA s3=(a,b):=⟨_,_,rfl⟩
 obtain ⟨kf,s5,h5⟩:∃ a b,Mk.next 3 s4=(a,b):=⟨_,_,rfl⟩
 have i5:=ay zd h5;obtain ⟨KF,rfl⟩:∃ K:Nat,kf=K:=⟨kf.toNat,by omega⟩
 obtain ⟨FN,s6,h6⟩:∃ a b,Mk.rep KF fnF [] s5=(a,b):=⟨_,_,rfl⟩
 obtain ⟨kc,s7,h7⟩:∃ a b,Mk.next 4 s6=(a,b):=⟨_,_,rfl⟩
 have i7:=ay zd h7;obtain ⟨KC,rfl⟩:∃ K:Nat,kc=K:=⟨kc.toNat,by omega⟩
 obtain ⟨CV,s8,h8⟩:∃ a b,Mk.rep KC cvF [] s7=(a,b):=⟨_,_,rfl⟩
 obtain ⟨kg,s9,h9⟩:∃ a b,Mk.next 9 s8=(a,b):=⟨_,_,rfl⟩
 have i9:=ay zd h9;obtain ⟨KG,hKG⟩:∃ K:Nat,2+kg=K:=⟨(2+kg).toNat,by omega⟩
 obtain ⟨GL,s10,h10⟩:∃ a b,Mk.rep KG (glF RG.length FN.length) [] s9=(a,b):=⟨_,_,rfl⟩
 obtain ⟨CH,s11,h11⟩:∃ a b,Mk.rep 16 (chF KG) [] s10=(a,b):=⟨_,_,rfl⟩
 obtain ⟨LK,s12,h12⟩:∃ a b,Mk.lookups KG s11=(a,b):=⟨_,_,rfl⟩
 obtain ⟨FT,s13,h13⟩:∃ a b,Mk.rep 8 (ftF LK.length) [] s12=(a,b):=⟨_,_,rfl⟩
 rw [ry h1 h2 h3 h4 h5 h6 h7 h8 h9 hKG h10 h11 h12 h13];have a3:=rH KA s2;rw [Mk.ll,h3] at a3;have a4:=oZ KA s3;rw [h4] at a4;have a6:=dG (f:=fnF) (λ_ _ _=>by simp [fnF,Mk.bind]) KF s5
 have a6':=ed (f:=fnF) (λc=>c.length<=36) (n:=KF) (s:=s5) (a:=[]) zk λi L s _ h=>bu h (by
  have:=oJ 6 i 4 zd ⟨s.r,0⟩
  exact this)
 rw [h6] at a6 a6';have a8:=dG (f:=cvF) (λ_ _ _=>by simp [cvF,Mk.bind]) KC s7;rw [h8] at a8;have a10:=dG (f:=glF RG.length FN.length) (λ_ _ _=>by simp [glF,Mk.bind]) KG s9;have a10':=ed (f:=glF RG.length FN.length) (Cj RG.length) (n:=KG) (s:=s9) (a:=[]) zk λi L s _ h=>bu h (tA i RG.length FN.length s)
 rw [h10] at a10 a10';have a11:=Mk.bH (f:=chF KG) (a:=[]) (s:=s10) (n:=16) (λi (L:List dc)=>L.length<=i) (nR _) λi L s _ h=>by
  obtain ⟨z,t1,hz⟩:∃ a b,Mk.next 4 s=(a,b):=⟨_,_,rfl⟩
  unfold chF;rw [Mk.ai hz]
  split
  ·show (L++[_]).length<=i+1;simp;exact h
  ·exact Nat.le_succ_of_le h
 rw [h11] at a11;have a12:=mQ KG s11;have a12':=vX KG s11;rw [h12] at a12 a12';have a13:=Mk.bH (f:=ftF LK.length) (a:=[]) (s:=s12) (n:=8) (λi (L:List aA)=>L.length<=i/\∀ f∈L,f.name.size<=4/\f.lookups.length<=100) ⟨nR _,by simp⟩ λi L s hi h=>by
  obtain ⟨T,t1,hT⟩:∃ a b,Mk.rep LK.length ftR [] s=(a,b):=⟨_,_,rfl⟩
  obtain ⟨z,t2,hz⟩:∃ a b,Mk.next 2 t1=(a,b):=⟨_,_,rfl⟩
  unfold ftF;rw [Mk.ai hT,Mk.ai hz];have hTl:=Mk.bH (f:=ftR) (a:=[]) (s:=s) (n:=LK.length) (λi (r:List Int)=>r.length<=i) (nR _) λi r s _ h=>by
   show (if _ then _ else _:List Int).length<=i+1
   split
   ·simp;exact h
   ·exact Nat.le_succ_of_le h
  rw [hT] at hTl;simp only
  split
  ·refine ⟨by simp;exact h.1,bu h.2 ⟨?_,nT hTl a12⟩⟩;simp only
   match i,hi with
   | 0,_=>decide
   | 1,_=>decide
   | 2,_=>decide
   | 3,_=>decide
   | 4,_=>decide
   | 5,_=>decide
   | 6,_=>decide
   | 7,_=>decide
  ·exact ⟨Nat.le_succ_of_le h.1,h.2⟩
 rw [h13] at a13;have e3:AX.length=KA:=a3.2;exact ⟨qf U,by have:GL.length=KG:=a10;simp only;omega,a10',a11,a12,a12',a13.1,a13.2,by simp only;omega,a3.1,a4.2.1,λr hr=>by have:=a4.1 r hr;rw [<- e3] at this;exact this,λh0=>a4.2.2 (by rw [<- e3];exact h0),by have:FN.length=KF:=a6;simp only;omega,a6',by have:CV.length=KC:=a8;simp only;omega⟩
namespace Mr
theorem kC {α:Type} {f:Nat->α->Int}:∀ {l:List α} {i:Nat},(∀ k x,l[k]?=some x->f (i+k) x=0)->Ck.bz f i l=(0,0)
 | [],_,_=>rfl
 | x::l,i,h=>by
  unfold Ck.bz;rw [if_pos (show f i x=0 from h 0 x rfl)];exact kC λk y hy=>by
   have:=h (k+1) y (by simpa using hy);rwa [show i+1+k=i+(k+1) by omega]
theorem j8 {α:Type} {f:Nat->α->Int} {l:List α} (h:∀ k x,l[k]?=some x->f k x=0):Ck.each f l=(0,0):=kC λk x hx=>by rw [Nat.zero_add];exact h k x hx
theorem gD {α:Type} {f:α->Int} {l:List α} (h:∀ x∈l,f x=0):Ck.each (λ_ x=>f x) l=(0,0):=j8 λ_ x hx=>h x (List.mem_of_getElem? hx)
theorem fA {α:Type} {m:Nat} {f:Nat->α->Int} {l:List α} (hl:l.length<=m) (h:∀ k x,l[k]?=some x->f k x=0):Ck.some m f l=(0,0):=by
 unfold Ck.some;rw [if_neg zo];exact j8 h
theorem jS {α:Type} {m:Nat} {f:α->Int} {l:List α} (hl:l.length<=m) (h:∀ x∈l,f x=0):Ck.some m (λ_ x=>f x) l=(0,0):=fA hl λ_ x hx=>h x (List.mem_of_getElem? hx)
theorem fp {x:Int} (h1:-16384<=x) (h2:x<=16384):Ck.may x=true:=by unfold Ck.may;rw [dT h1,dT h2];rfl
theorem jC {n:Nat} {x:Int} (h1:0<=x) (h2:x<n):Ck.bo n x=true:=by unfold Ck.bo;rw [dT h1,dT h2];rfl
theorem cW {α:Type} {P:α->Prop} {c:Prop} [Decidable c] {a b:α} (h1:c->P a) (h2:¬ c->P b):P (if c then a else b):=by
 by_cases h:c
 ·rw [if_pos h];exact h1 h
 ·rw [if_neg h];exact h2 h
def eC (i:bS):Prop:=1<=i.op/\i.op<=39/\-1000000<=i.a/\i.a<=1000000
theorem Bj {i:bS} (h:eC i):Ck.ins i=0:=by
 unfold eC at h;unfold Ck.ins;rw [if_neg zo,if_neg zo]
theorem jI {l:List bS} (hl:l.length<=200) (h:∀ i∈l,eC i):Ck.program l=0:=by
 unfold Ck.program;rw [jS (f:=Ck.ins) hl λi hi=>Bj (h i hi)]
theorem CJ {q:Int} (h1:-100000<=q) (h2:q<=100000):∀ i∈Mk.rest q,eC i:=by
 intro i hi;simp only [Mk.rest,List.mem_cons,List.not_mem_nil,or_false] at hi;rcases hi with rfl | rfl | rfl | rfl | rfl | rfl <;> (unfold eC;simp only;omega)
theorem Ay (n funcs:Int) (hn:0<=n) (hn1:n<=1000) (hf:funcs<=1000) (s:Mk.S):∀ i∈(Mk.piece n funcs s).1,eC i:=by
 obtain ⟨p,s1,h1⟩:∃ a b,Mk.next (n+1) s=(a,b):=⟨_,_,rfl⟩
 obtain ⟨q,s2,h2⟩:∃ a b,Mk.next (n+1) s1=(a,b):=⟨_,_,rfl⟩
 obtain ⟨a,s3,h3⟩:∃ a b,Mk.next 2 s2=(a,b):=⟨_,_,rfl⟩
 obtain ⟨c,s4,h4⟩:∃ a b,Mk.next 12 s3=(a,b):=⟨_,_,rfl⟩
 have i1:=ay zo h1;have i2:=ay zo h2;have i3:=ay zd h3;unfold Mk.piece;rw [Mk.ai h1,Mk.ai h2,Mk.ai h3,Mk.ai h4];unfold Mk.dI;have hq:=CJ (q:=q) zo zo;clear h1 h2 h3 h4;refine cW (P:=λx:List bS×Mk.S=>∀ i∈x.1,eC i) (λhf0=>?_) λ_=>?_
 ·intro i hi;simp only [List.mem_cons,List.not_mem_nil,or_false] at hi;rcases hi with rfl | rfl <;> (unfold eC;simp only;omega)
 refine cW (P:=λx:List bS×Mk.S=>∀ i∈x.1,eC i) (λhf0=>?_) λ_=>?_
 ·obtain ⟨v,t1,hv⟩:∃ a b,Mk.next 6 s4=(a,b):=⟨_,_,rfl⟩
  have iv:=ay zd hv;rw [Mk.ai hv];intro i hi;simp only [List.mem_cons,List.not_mem_nil,or_false] at hi;subst hi;unfold eC;simp only;omega
 refine cW (P:=λx:List bS×Mk.S=>∀ i∈x.1,eC i) (λhf0=>?_) λ_=>?_
 ·intro i hi;simp only [List.mem_cons,List.not_mem_nil,or_false] at hi;rcases hi with rfl | rfl | rfl | rfl | rfl <;> (unfold eC;simp only;omega)
 refine cW (P:=λx:List bS×Mk.S=>∀ i∈x.1,eC i) (λhf0=>?_) λ_=>?_
 ·intro i hi;simp only [List.mem_cons,List.not_mem_nil,or_false] at hi;rcases hi with rfl | rfl | rfl | rfl | rfl <;> (unfold eC;simp only;omega)
 refine cW (P:=λx:List bS×Mk.S=>∀ i∈x.1,eC i) (λhf0=>?_) λ_=>?_
 ·obtain ⟨v,t1,hv⟩:∃ a b,Mk.next 200 s4=(a,b):=⟨_,_,rfl⟩
  have iv:=ay zd hv;rw [Mk.ai hv];intro i hi;simp only [List.mem_cons,List.not_mem_nil,or_false] at hi;rcases hi with rfl | rfl | rfl <;> (unfold eC;simp only;omega)
 refine cW (P:=λx:List bS×Mk.S=>∀ i∈x.1,eC i) (λhf0=>?_) λ_=>?_
 ·intro i hi;simp only [List.mem_cons,List.not_mem_nil,or_false] at hi;rcases hi with rfl | rfl | rfl <;> (unfold eC;simp only;omega)
 refine cW (P:=λx:List bS×Mk.S=>∀ i∈x.1,eC i) (λhf0=>?_) λ_=>?_
 ·intro i hi;simp only [List.mem_cons,List.not_mem_nil,or_false] at hi;subst hi;unfold eC;simp only;omega
 refine cW (P:=λx:List bS×Mk.S=>∀ i∈x.1,eC i) (λhf0=>?_) λ_=>?_
 ·intro i hi;simp only [List.mem_cons,List.not_mem_nil,or_false] at hi;rcases hi with rfl | rfl | rfl | rfl | rfl | rfl <;> (unfold eC;simp only;omega)
 refine cW (P:=λx:List bS×Mk.S=>∀ i∈x.1,eC i) (λhf0=>?_) λ_=>?_
 ·refine cW (P:=λx:List bS×Mk.S=>∀ i∈x.1,eC i) (λhf0=>?_) λ_=>?_
  ·obtain ⟨v,t1,hv⟩:∃ a b,Mk.next funcs s4=(a,b):=⟨_,_,rfl⟩
   have iv:=ay hf0 hv;rw [Mk.ai hv];intro i hi;simp only [List.mem_cons,List.not_mem_nil,or_false] at hi;subst hi;unfold eC;simp only;omega
  ·exact hq
 refine cW (P:=λx:List bS×Mk.S=>∀ i∈x.1,eC i) (λhf0=>?_) λ_=>?_
 ·refine cW (P:=λx:List bS×Mk.S=>∀ i∈x.1,eC i) (λhf0=>?_) λ_=>?_
  ·obtain ⟨v,t1,hv⟩:∃ a b,Mk.next 5 ⟨s4.r,s4.lp - 1⟩=(a,b):=⟨_,_,rfl⟩
   obtain ⟨u,t2,hu⟩:∃ a b,Mk.next funcs t1=(a,b):=⟨_,_,rfl⟩
   have iv:=ay zd hv;have iu:=ay hf0.1 hu;rw [Mk.ai hv,Mk.ai hu];intro i hi;simp only [List.mem_cons,List.not_mem_nil,or_false] at hi;rcases hi with rfl | rfl <;> (unfold eC;simp only;omega)
  ·exact hq
 refine cW (P:=λx:List bS×Mk.S=>∀ i∈x.1,eC i) (λhf0=>?_) λ_=>?_
 ·intro i hi;simp only [List.mem_cons,List.not_mem_nil,or_false] at hi;rcases hi with rfl | rfl | rfl | rfl | rfl | rfl | rfl | rfl | rfl <;> (unfold eC;simp only;omega)
 ·exact hq
theorem xl (n funcs most:Int) (hn:0<=n) (hn1:n<=1000) (hf:funcs<=1000) (s:Mk.S):∀ i∈(Mk.hint n funcs most s).1,eC i:=by
 obtain ⟨k,s1,h1⟩:∃ a b,Mk.next most s=(a,b):=⟨_,_,rfl⟩
 rw [Mk.rA h1];refine ed (f:=qc n funcs) eC zk λi L s _ h=>?_
 show ∀ x∈L++(Mk.piece n funcs s).1,eC x;intro x hx;rcases List.mem_append.1 hx with hx | hx
 ·exact h x hx
 ·exact Ay n funcs hn hn1 hf s x hx
theorem pC {n:Nat}:∀ {l:List Int} {a:Int},fJ a l n->Ck.bN n a l=true
 | [],a,h=>by unfold fJ at h;unfold Ck.bN;rw [h];simp
 | e::r,a,h=>by
  unfold Ck.bN;have h1:=h.1;have h2:=h.2.1;rw [dF (by omega:¬ (n:Int)<=e),dF (by omega:¬ e<a+2),pC h.2.2];rfl
theorem vN {p:bV} (h:nL p):Ck.point p=0:=by
 unfold nL at h;unfold Ck.point;rw [fp zo zo,fp zo zo];rfl
theorem pN {pts:List bV} {ends:List Int} (h1:pts.length<=200) (h2:ends.length<=40) (h3:∀ p∈pts,nL p) (h4:fJ (-1) ends pts.length):Ck.contours pts ends=true:=by
 unfold Ck.contours;rw [dF zo,dF zo,pC h4];have:(pts.all λp=>Ck.may p.x && Ck.may p.y)=true:=List.all_eq_true.2 λp hp=>by
  have:=h3 p hp;unfold nL at this;rw [fp zo zo,fp zo zo];rfl
 rw [this];rfl
theorem vu {nr:Nat} {g:av} (h:Cj nr g):Ck.shape g=0:=by
 have ha:=h.adv;have hl:=h.ptl;have he:=h.endl;unfold Ck.shape;rw [if_neg zo,if_neg zo,gD (f:=Ck.point) λp hp=>vN (h.pts p hp),if_neg zk,pN zo zo h.pts h.ends];rfl
def KS (c:Int):List (Int×Int):=[(1,0),(1,1),(3,0),(4,0),(2,c)]
def Cn (mark:Bool) (c:Int) (a:bh):Prop:=0<=a.x/\a.x<=1000/\-200<=a.y/\a.y<=800/\(a.kind=2->mark=true)
theorem EI (c:Int):∀ i,i<5->(KS c).take (i+1)=(KS c).take i++[(KS c).getD i (0,0)]
 | 0,_=>rfl
 | 1,_=>rfl
 | 2,_=>rfl
 | 3,_=>rfl
 | 4,_=>rfl
theorem uD (mark:Bool) (s:Mk.S):∃ c,(c=0∨c=1)/\((Mk.anchors mark s).1.map λa=>(a.kind,a.cls)).Sublist (KS c)/\∀ a∈(Mk.anchors mark s).1,Cn mark c a:=by
 obtain ⟨c,s1,h1⟩:∃ a b,Mk.next 2 s=(a,b):=⟨_,_,rfl⟩
 have i1:=ay zd h1;have e:Mk.anchors mark s=Mk.rep 5 (anG mark c) [] s1:=by unfold Mk.anchors;rw [Mk.ai h1];rfl
 rw [e];refine ⟨c,by omega,?_⟩;have key:=Mk.bH (f:=anG mark c) (a:=[]) (s:=s1) (n:=5) (λi (L:List bh)=>(L.map λa=>(a.kind,a.cls)).Sublist ((KS c).take i)/\∀ a∈L,Cn mark c a) ⟨List.Sublist.refl _,by simp⟩ λi L s hi h=>by
  obtain ⟨z,t1,hz⟩:∃ a b,Mk.next 3 s=(a,b):=⟨_,_,rfl⟩
  unfold anG;rw [Mk.ai hz,EI c i hi];simp only
  split
  ·rename_i hc;obtain ⟨x,t2,hx⟩:∃ a b,Mk.next 21 t1=(a,b):=⟨_,_,rfl⟩
   obtain ⟨y,t3,hy⟩:∃ a b,Mk.next 21 t2=(a,b):=⟨_,_,rfl⟩
   have ix:=ay zd hx;have iy:=ay zd hy;rw [Mk.ai hx,Mk.ai hy];refine ⟨?_,bu h.2 ⟨by simp only;omega,by simp only;omega,by simp only;omega,by simp only;omega,λh2=>?_⟩⟩
   ·rw [List.map_append];exact h.1.append (List.Sublist.refl _)
   ·rcases hc.2 with h3 | h3
    ·exact absurd h2 h3
    ·exact h3
  ·exact ⟨h.1.trans (List.sublist_append_left _ _),h.2⟩
 exact ⟨key.1,key.2⟩
theorem Bg (c:Int) (h:c=0∨c=1):(KS c).Nodup:=by rcases h with rfl | rfl <;> decide
theorem EH {c:Int} (h:c=0∨c=1) {p:Int×Int} (hp:p∈KS c):1<=p.1/\p.1<=4/\0<=p.2/\p.2<=1/\((p.1=3∨p.1=4)->p.2=0):=by
 simp only [KS,List.mem_cons,List.not_mem_nil,or_false] at hp;rcases hp with rfl | rfl | rfl | rfl | rfl <;> refine ⟨?_,?_,?_,?_,?_⟩ <;> first | decide | (simp only;omega)
theorem so {mark:Bool} {l:List bh} {c:Int} (hc:c=0∨c=1) (hs:(l.map λa=>(a.kind,a.cls)).Sublist (KS c)) (h:∀ a∈l,Cn mark c a) (hl:l.length<=5):Ck.anchors mark l=(0,0):=by
 unfold Ck.anchors;refine fA zo λk a hk=>?_
 have hm:=List.mem_of_getElem? hk;have ha:=h a hm;have hin:=EH hc (hs.subset (mM (f:=λa:bh=>(a.kind,a.cls)) hm));have hmet:((l.take k).any λb=>b.kind == a.kind && b.cls == a.cls)=false:=by
  rw [List.any_eq_false];intro b hb hbe;simp only [Bool.and_eq_true,beq_iff_eq] at hbe;have hnd:=(Bg c hc).sublist hs;rw [<- List.take_append_drop k l,List.map_append,List.nodup_append] at hnd;have ha2:a∈l.drop k:=by
   have hkl:=(gI.1 hk).1;have e:l[k]=a:=(gI.1 hk).2;rw [<- List.getElem_cons_drop hkl,e];exact List.mem_cons_self
  exact hnd.2.2 _ (mM (f:=λa:bh=>(a.kind,a.cls)) hb) _ (mM (f:=λa:bh=>(a.kind,a.cls)) ha2) (by simp only [hbe.1,hbe.2])
 unfold Ck.anchor Ck.iG;rw [hmet];unfold Cn at ha;have h34:(a.kind == 3 || a.kind == 4)=false∨(a.cls != 0)=false:=by
  by_cases h3:a.kind=3∨a.kind=4
  ·exact .inr (by have:=hin.2.2.2.2 h3;simp only at this;simp [this])
  ·exact .inl zqa
 have h2:(a.kind == 2 && !mark)=false:=by
  by_cases h3:a.kind=2
  ·rw [ha.2.2.2.2 h3];simp
  ·simp [h3]
 rw [dF (by have:=hin.1;simp only at this;omega),dF (by have:=hin.2.1;simp only at this;omega),dF (by have:=hin.2.2.1;simp only at this;omega),dF (by have:=hin.2.2.2.1;simp only at this;omega),h2,fp zo zo,fp zo zo];rcases h34 with h34 | h34
 ·rw [h34];rfl
 ·rw [h34,Bool.and_false];rfl
def Lx (a b:co):Prop:=a.region<b.region∨(a.region=b.region/\a.point<b.point)
theorem se (nr np:Nat) (s:Mk.S):(Mk.deltas nr np s).1.Pairwise Lx:=by
 show (Mk.rep nr (deR np) [] s).1.Pairwise Lx;refine (Mk.bH (f:=deR np) (λi (L:List co)=>L.Pairwise Lx/\∀ d∈L,d.region<i) ⟨List.Pairwise.nil,by simp⟩ λr L s hr h=>?_).1;have key:=Mk.bH (f:=deP r) (a:=L) (s:=s) (n:=np+1) (λi (M:List co)=>M.Pairwise Lx/\∀ d∈M,d.region<r∨(d.region=r/\d.point<(i:Int) - 1)) ⟨h.1,λd hd=>.inl (h.2 d hd)⟩ λp M s hp hM=>by
  have snoc:∀ d:co,d.region=r->d.point=(p:Int) - 1->(M++[d]).Pairwise Lx/\∀ e∈M++[d],e.region<r∨(e.region=r/\e.point<((p+1:Nat):Int) - 1):=λd h1 h2=>by
   refine ⟨List.pairwise_append.2 ⟨hM.1,List.pairwise_singleton _ _,λa ha b hb=>?_⟩,bu (λe he=>?_) (.inr ⟨h1,by omega⟩)⟩
   ·rw [mI.1 hb];unfold Lx;have:=hM.2 a ha;omega
   ·have:=hM.2 e he;omega
  obtain ⟨z,t1,hz⟩:∃ a b,Mk.next 3 s=(a,b):=⟨_,_,rfl⟩
  unfold deP;rw [Mk.ai hz]
  split
  ·obtain ⟨x,t2,hx⟩:∃ a b,Mk.next 41 t1=(a,b):=⟨_,_,rfl⟩
   rw [Mk.ai hx]
   split
   ·exact snoc _ rfl zqg
   ·obtain ⟨y,t3,hy⟩:∃ a b,Mk.next 41 t2=(a,b):=⟨_,_,rfl⟩
    rw [Mk.ai hy];exact snoc _ rfl rfl
  ·exact ⟨hM.1,λe he=>by have:=hM.2 e he;omega⟩
 exact ⟨key.1,λd hd=>by have:=key.2 d hd;omega⟩
theorem ux {nr np:Nat} {l:List co} (hl:l.length<=400) (h:∀ d∈l,uK nr np d) (ho:l.Pairwise Lx):Ck.deltas nr np l=(0,0):=by
 unfold Ck.deltas;refine fA hl λk d hk=>?_
 have hd:=h d (List.mem_of_getElem? hk);unfold uK at hd;unfold Ck.delta
 rw [if_neg zo,fp zo zo,fp zo zo,if_neg (by
  rintro (h1 | h1 | h1 | h1)
  ·omega
  ·omega
  ·simp at h1
  ·exact h1.2 (hd.2.2.2.2.2.2.2.2 h1.1))]
 cases k with
 | zero=>rw [if_neg zo]
 | succ k =>
  have hkl:=(gI.1 hk).1;have e:l[k+1]=d:=(gI.1 hk).2;have hp:=List.pairwise_iff_getElem.1 ho k (k+1) zo hkl zo;rw [e] at hp;have hs:Ck.ij l (k+1)=(l[k].region,l[k].point):=by show (match l[k]? with | Option.some d=>((d.region,d.point):Int×Int) | Option.none=>(0,0))=_;rw [gE zo]
  rw [hs];unfold Lx at hp;rw [if_neg zo]
structure Gl (n nr:Nat) (g:av):Prop where
 name:Ck.bZ g.name=true
 shape:Ck.shape g=0
 parl:g.parts.length<=1
 par:∀ p∈g.parts,Ck.part n p=0
 anc:Ck.anchors g.mark g.anchors=(0,0)
 del:Ck.deltas nr g.pts.length g.deltas=(0,0)
 hinl:g.hint.length<=199
 hint:∀ i∈g.hint,eC i
 ptl:g.pts.length<=10
theorem Gl.zero {n nr:Nat} {g:av} {nm:Int} (h:Gl n nr g) (hn:nm=0):Ck.glyph n nr g nm=0:=by
 unfold Ck.glyph;rw [hn,h.shape,jS (f:=Ck.part n) (by have:=h.parl;omega) h.par,h.anc,h.del,jI (by have:=h.hinl;omega) h.hint];rfl
def gname (i:Nat):ByteArray:=if i=0 then (⟨#[46,110,111,116,100,101,102]⟩:ByteArray) else Mk.gname i
theorem uj:∀ i,i<11->Ck.bZ (gname i)=true
 | 0,_=>by decide
 | 1,_=>by decide
 | 2,_=>by decide
 | 3,_=>by decide
 | 4,_=>by decide
 | 5,_=>by decide
 | 6,_=>by decide
 | 7,_=>by decide
 | 8,_=>by decide
 | 9,_=>by decide
 | 10,_=>by decide
theorem AA (n:Nat) (s:Mk.S):(Mk.parts n s).1=[]∨(1<n/\∃ x y,(Mk.parts n s).1=[⟨1,x,y⟩]/\-200<=x/\x<=200/\0<=y/\y<=200):=by
 unfold Mk.parts
 split
 ·rename_i hn;obtain ⟨z,t1,hz⟩:∃ a b,Mk.next 4 s=(a,b):=⟨_,_,rfl⟩
  rw [Mk.ai hz]
  split
  ·obtain ⟨x,t2,hx⟩:∃ a b,Mk.next 9 t1=(a,b):=⟨_,_,rfl⟩
   obtain ⟨y,t3,hy⟩:∃ a b,Mk.next 5 t2=(a,b):=⟨_,_,rfl⟩
   have ix:=ay zd hx;have iy:=ay zd hy;unfold Mk.kG;rw [Mk.ai hx,Mk.ai hy];exact .inr ⟨hn,_,_,rfl,by omega,by omega,by omega,by omega⟩
  ·exact .inl rfl
 ·exact .inl rfl
structure GlN (N nr n:Nat) (g:av):Prop where
 right:Gl N nr g
 nm:g.name=gname n
 low:g.parts=[]∨(1<n/\∃ x y,g.parts=[⟨1,x,y⟩])
theorem ul (n nr nf N:Nat) (s:Mk.S) (hn:n<11) (hN:2<=N) (hnr:nr<=3) (hnf:nf<=1000):GlN N nr n (Mk.glyph n nr nf s).1:=by
 have hok:=tA n nr nf s;obtain ⟨a,s1,h1⟩:∃ a b,Mk.next 19 s=(a,b):=⟨_,_,rfl⟩
 obtain ⟨k,s2,h2⟩:∃ a b,Mk.next 4 s1=(a,b):=⟨_,_,rfl⟩
 obtain ⟨o,s3,h3⟩:∃ a b,Mk.outline s2=(a,b):=⟨_,_,rfl⟩
 obtain ⟨p,s4,h4⟩:∃ a b,Mk.parts n s3=(a,b):=⟨_,_,rfl⟩
 obtain ⟨an,s5,h5⟩:∃ a b,Mk.anchors (decide (n≠0) && decide (k=0)) s4=(a,b):=⟨_,_,rfl⟩
 obtain ⟨de,s6,h6⟩:∃ a b,Mk.deltas nr o.pts.length s5=(a,b):=⟨_,_,rfl⟩
 obtain ⟨hi,s7,h7⟩:∃ a b,Mk.hint o.pts.length nf 6 ⟨s6.r,2⟩=(a,b):=⟨_,_,rfl⟩
 have e:Mk.glyph n nr nf s=(⟨gname n,100+a*50,decide (n≠0) && decide (k=0),o.pts,o.ends,p,an,de,hi⟩,s7):=by
  unfold Mk.glyph;rw [Mk.ai h1,Mk.ai h2,Mk.ai h3,Mk.ai h4];simp only;rw [Mk.ai h5,Mk.ai h6,Mk.ai h7];rfl
 rw [e] at hok ⊢;have a3:=AA n s3;rw [h4] at a3;obtain ⟨c,hc,a4,a5⟩:=uD (decide (n≠0) && decide (k=0)) s4;rw [h5] at a4 a5;have a6:=se nr o.pts.length s5;rw [h6] at a6;have hpl:=hok.ptl;have a7:=xl o.pts.length nf 6 zo (by simp only at hpl;omega) zo ⟨s6.r,2⟩;rw [h7] at a7;refine ⟨⟨uj n hn,vu hok,hok.parl,?_,so hc a4 a5 hok.ancl,ux (by have:=hok.dell;omega) hok.del a6,by have:=hok.hinl;omega,a7,hpl⟩,rfl,?_⟩
 ·intro q hq;simp only at a3 hq;rcases a3 with h | ⟨-,x,y,h,b1,b2,b3,b4⟩
  ·rw [h] at hq;cases hq
  ·rw [h] at hq;rw [mI.1 hq];unfold Ck.part;rw [jC zqg zqg,fp zqg zqg,fp zqg zqg];rfl
 ·simp only at a3;rcases a3 with h | ⟨hn1,x,y,h,-⟩
  ·exact .inl h
  ·exact .inr ⟨hn1,x,y,h⟩
end Mr
namespace Mr
structure fU (n:Int) (l:List Int):Prop where
 some:l≠[]
 rise:l.Pairwise (· < ·)
 mem:∀ x∈l,0<=x/\x<n
theorem fU.snoc {i n:Int} {l:List Int} (h:fU i l) (h0:0<=i) (hi:i<n):fU (i+1) (l++[i]) :=
 ⟨by simp,List.pairwise_append.2 ⟨h.rise,List.pairwise_singleton _ _,λa ha b hb=>by rw [mI.1 hb];exact (h.mem a ha).2⟩,bu (λx hx=>by have:=h.mem x hx;omega) zo⟩
theorem fU.more {i n:Int} {l:List Int} (h:fU i l) (hi:i<=n):fU n l:=⟨h.some,h.rise,λx hx=>by have:=h.mem x hx;omega⟩
theorem wZ {n:Int}:∀ (f:Nat) (i:Int) (l:List Int) (s:Mk.S),fU i l->0<=i->i<=n->fU n (Mk.nJ n f i l s).1
 | 0,i,l,s,h,h0,hi=>h.more hi
 | f+1,i,l,s,h,h0,hi=>by
  unfold Mk.nJ;refine cW (P:=λx:List Int×Mk.S=>fU n x.1) (λhc=>?_) λ_=>h.more hi
  obtain ⟨z,t1,hz⟩:∃ a b,Mk.next 3 s=(a,b):=⟨_,_,rfl⟩
  rw [Mk.ai hz];refine wZ f (i+1) _ t1 ?_ zo zo;exact cW (P:=λx:List Int=>fU (i+1) x) (λ_=>h.snoc h0 hc.1) λ_=>h.more zo
theorem uM {n:Int} (hn:0<n) (s:Mk.S):fU n (Mk.set n s).1:=by
 obtain ⟨a,s1,h1⟩:∃ a b,Mk.next n s=(a,b):=⟨_,_,rfl⟩
 have i1:=ay hn h1;unfold Mk.set;rw [Mk.ai h1];exact wZ _ _ _ _ ⟨by simp,List.pairwise_singleton _ _,by intro x hx;rw [mI.1 hx];omega⟩ zo zo
theorem qm:∀ {l:List Int},l.Pairwise (· < ·)->Ck.rising l=true
 | [],_=>rfl
 | [_],_=>rfl
 | a::b::l,h=>by
  unfold Ck.rising;rw [dT ((List.pairwise_cons.1 h).1 b zk),qm (List.pairwise_cons.1 h).2];rfl
theorem oH {n:Nat} {l:List Int} (h:fU n l):Ck.cQ n l=true:=by
 have hl:0<l.length:=List.length_pos_iff.2 h.some;unfold Ck.cQ;have g:∀ k,k<l.length->Ck.bo n (l.getD k 0)=true:=λk hk=>by
  rw [List.getD_eq_getElem?_getD,gE hk];exact jC (h.mem _ (List.getElem_mem hk)).1 (h.mem _ (List.getElem_mem hk)).2
 rw [dT hl,qm h.rise,g 0 hl,g (l.length - 1) zo];rfl
theorem row_in {n most:Int} (hn:0<n) (hm:0<=most) (s:Mk.S):∀ x∈(Mk.row n most s).1,fU n x:=by
 obtain ⟨k,s1,h1⟩:∃ a b,Mk.next (most+1) s=(a,b):=⟨_,_,rfl⟩
 rw [Mk.uO h1];exact ed (f:=xw n) (fU n) zk λi L s _ h=>by
  show ∀ x∈L++[(Mk.set n s).1],fU n x;exact bu h (uM hn s)
theorem sV {n:Int} (hn:0<n) (k:Nat) (s:Mk.S):∀ x∈(Mk.nexts n k s).1,0<=x/\x<n :=
 ed (f:=λ_ l s=>Mk.bind (Mk.next n s) λx s=>(l++[x],s)) (λx=>0<=x/\x<n) zk λi L s _ h=>by
  obtain ⟨z,t1,hz⟩:∃ a b,Mk.next n s=(a,b):=⟨_,_,rfl⟩
  have iz:=ay hn hz;rw [Mk.ai hz];exact bu h ⟨iz.1,iz.2.1⟩
theorem tw (c:Prop) [Decidable c] {n:Int} (hn:0<n) (s:Mk.S):(∀ x∈(if c then Mk.row n 2 s else ([],s)).1,fU n x)/\(if c then Mk.row n 2 s else ([],s)).1.length<=2:=by
 refine cW (P:=λx:List (List Int)×Mk.S=>(∀ y∈x.1,fU n y)/\x.1.length<=2) (λ_=>⟨row_in hn zd s,(nz n 2 zd s).2⟩) λ_=>⟨by simp,Nat.zero_le _⟩
def iI (lk:List ar) (C:List Int):Prop:=∀ q∈C,0<=q/\∃ l,lk[q.toNat]?=some l/\1<=l.kind/\l.kind<=4
theorem iI.more {lk t:List ar} {C:List Int} (h:iI lk C):iI (lk++t) C:=λq hq=>by
 obtain ⟨h0,l,h1,h2⟩:=h q hq;refine ⟨h0,l,?_,h2⟩;rw [List.getElem?_append_left (gI.1 h1).1,h1]
theorem jd {n:Nat} {lk:List ar} {kind:Int} {r:aN} (hb:r.back.length<=6) (hi:r.ins.length<=6) (ha:r.ahead.length<=6)
  (hk:(if kind=1∨kind=2∨kind=5 then r.ins.length != 1 else if kind=6 then r.ins.length != 2 || decide (0<r.back.length) || decide (0<r.ahead.length) else r.ins.length == 0)=false)
  (sb:∀ x∈r.back,fU n x) (si:∀ x∈r.ins,fU n x) (sa:∀ x∈r.ahead,fU n x) (ho:Ck.cP kind r=true) (hg:∀ x∈r.o,0<=x/\x<n) (hc:Ck.calls lk kind r=0)
  (hx:-16384<=r.x/\r.x<=16384) (hx6:kind=6∨r.x=0):Ck.rule n lk kind r=0:=by
 unfold Ck.rule;have e1:Ck.rows kind r=0:=by unfold Ck.rows;rw [if_neg zo,hk];rfl
 have e2:Ck.each (λ_ l=>Ck.when (!Ck.cQ n l) 41) (r.back++r.ins++r.ahead)=(0,0):=gD (f:=λl=>Ck.when (!Ck.cQ n l) 41) λx hx=>by
  rw [List.mem_append,List.mem_append] at hx;rcases hx with (hx | hx) | hx
  ·rw [oH (sb x hx)];rfl
  ·rw [oH (si x hx)];rfl
  ·rw [oH (sa x hx)];rfl
 have e3:Ck.each (λ_ g=>Ck.when (!Ck.bo n g) 32) r.o=(0,0):=gD (f:=λg=>Ck.when (!Ck.bo n g) 32) λx hx=>by rw [jC (hg x hx).1 (hg x hx).2];rfl
 have e4:(r.x != 0 && kind != 6)=false:=by rcases hx6 with h | h <;> simp [h]
 rw [e1,e2,ho,e3,hc,fp hx.1 hx.2,e4];rfl
theorem jG {lk:List ar} {kind:Int} {r:aN} (h:r.calls=[]):Ck.calls lk kind r=0:=by unfold Ck.calls;rw [h];rfl
theorem two {n:Int} {a b:List Int} (ha:fU n a) (hb:fU n b):∀ x∈[a,b],fU n x:=λx hx=>by
 simp only [List.mem_cons,List.not_mem_nil,or_false] at hx;rcases hx with rfl | rfl
 ·exact ha
 ·exact hb
theorem vx (n:Nat) (hn:0<n) (kind:Int) (hk:1<=kind/\kind<=6) (C:List Int) (s:Mk.S) (lk:List ar) (hC:iI lk C):Ck.rule n lk kind (Mk.rule n kind C s).1=0:=by
 have hn':(0:Int)<n:=zo;obtain ⟨a,s1,h1⟩:∃ a b,Mk.set n s=(a,b):=⟨_,_,rfl⟩
 have ha:fU n a:=by have:=uM hn' s;rw [h1] at this;exact this
 have ha4:a.length<=4:=by have:=lg n s;rw [h1] at this;exact this
 unfold Mk.rule;rw [Mk.ai h1];have one:∀ x∈[a],fU n x:=by intro x hx;obtain rfl:=mI.1 hx;exact ha
 have nil':∀ x∈([]:List (List Int)),fU n x:=by simp
 refine cW (P:=λx:aN×Mk.S=>Ck.rule n lk kind x.1=0) (λhk6=>?_) λhk6=>?_
 ·obtain ⟨b,s2,h2⟩:∃ a b,Mk.set n s1=(a,b):=⟨_,_,rfl⟩
  obtain ⟨x,s3,h3⟩:∃ a b,Mk.next 41 s2=(a,b):=⟨_,_,rfl⟩
  have hb:fU n b:=by have:=uM hn' s1;rw [h2] at this;exact this
  have i3:=ay zd h3;rw [Mk.ai h2,Mk.ai h3];refine jd zk zk zk ?_ nil' (two ha hb) nil' ?_ zk (jG rfl) zqg (.inl hk6)
  ·rw [hk6];rfl
  ·rw [hk6];rfl
 obtain ⟨z,s2,h2⟩:∃ a b,Mk.next 2 s1=(a,b):=⟨_,_,rfl⟩
 obtain ⟨bk,s3,h3⟩:∃ a b,(if z=0 then Mk.row n 2 s2 else ([],s2))=(a,b):=⟨_,_,rfl⟩
 obtain ⟨ah,s4,h4⟩:∃ a b,(if z=0 then Mk.row n 2 s3 else ([],s3))=(a,b):=⟨_,_,rfl⟩
 have b3:=tw (z=0) hn' s2;have b4:=tw (z=0) hn' s3;rw [h3] at b3;rw [h4] at b4;simp only at b3 b4;rw [Mk.ai h2,Mk.ai h3,Mk.ai h4];have hb6:bk.length<=6:=by have:=b3.2;omega
 have ha6:ah.length<=6:=by have:=b4.2;omega
 have more:∀ s,(∀ x∈a::(Mk.row n 2 s).1,fU n x)/\(a::(Mk.row n 2 s).1).length<=6:=λs=>by
  have h8:(Mk.row n 2 s).1.length<=2:=(nz n 2 zd s).2;refine ⟨λx hx=>?_,by rw [List.length_cons];omega⟩;rcases List.mem_cons.1 hx with rfl | hx
  ·exact ha
  ·exact row_in hn' zd s x hx
 refine cW (P:=λx:aN×Mk.S=>Ck.rule n lk kind x.1=0) (λhk1=>?_) λhk1=>?_
 ·obtain ⟨out,s5,h5⟩:∃ u v,Mk.nexts n a.length s4=(u,v):=⟨_,_,rfl⟩
  have o1:=sV hn' a.length s4;have o2:=j3 n a.length s4;rw [h5] at o1 o2;rw [Mk.ai h5];refine jd hb6 zk ha6 ?_ b3.1 one b4.1 ?_ o1 (jG rfl) zk (.inr rfl)
  ·rw [if_pos zo];rfl
  ·unfold Ck.cP;rw [if_pos hk1];simp [o2]
 refine cW (P:=λx:aN×Mk.S=>Ck.rule n lk kind x.1=0) (λhk2=>?_) λhk2=>?_
 ·obtain ⟨k,s5,h5⟩:∃ a b,Mk.next 4 s4=(a,b):=⟨_,_,rfl⟩
  have i5:=ay zd h5;obtain ⟨out,s6,h6⟩:∃ a b,Mk.nexts n k.toNat s5=(a,b):=⟨_,_,rfl⟩
  have o1:=sV hn' k.toNat s5;have o2:=j3 n k.toNat s5;rw [h6] at o1 o2;simp only at o2;rw [Mk.ai h5,Mk.ai h6];refine jd hb6 zk ha6 ?_ b3.1 one b4.1 ?_ o1 (jG rfl) zk (.inr rfl)
  ·rw [if_pos zo];rfl
  ·unfold Ck.cP;rw [if_neg zo,if_pos hk2];simp only;exact dT zo
 refine cW (P:=λx:aN×Mk.S=>Ck.rule n lk kind x.1=0) (λhk3=>?_) λhk3=>?_
 ·obtain ⟨mo,s5,h5⟩:∃ a b,Mk.row n 2 s4=(a,b):=⟨_,_,rfl⟩
  obtain ⟨x,s6,h6⟩:∃ a b,Mk.next n s5=(a,b):=⟨_,_,rfl⟩
  have i6:=ay hn' h6;have hm:=more s4;rw [h5] at hm;rw [Mk.ai h5,Mk.ai h6];refine jd hb6 hm.2 ha6 ?_ b3.1 hm.1 b4.1 ?_ (by intro y hy;rw [mI.1 hy];exact ⟨i6.1,i6.2.1⟩) (jG rfl) zk (.inr rfl)
  ·rw [if_neg zo,if_neg zo];rfl
  ·unfold Ck.cP;rw [if_neg zo,if_neg zo,if_pos hk3];rfl
 have hk4:kind=4:=zo;obtain ⟨mo,s5,h5⟩:∃ a b,Mk.row n 2 s4=(a,b):=⟨_,_,rfl⟩
 obtain ⟨k,s6,h6⟩:∃ a b,Mk.next 3 s5=(a,b):=⟨_,_,rfl⟩
 have i6:=ay zd h6;have hm:=more s4;rw [h5] at hm;obtain ⟨cs,s7,h7⟩:∃ u v,(if C.length=0 then (([]:List dY),s6) else Mk.rep k.toNat (λ_ l s=>Mk.bind (Mk.next ((a::mo).length:Int) s) λp s=>Mk.bind (Mk.next (C.length:Int) s) λq s=>(l++[(⟨p,C.getD q.toNat 0⟩:dY)],s)) [] s6)=(u,v):=⟨_,_,rfl⟩
 have hcs:cs.length<=6/\∀ c∈cs,Ck.call lk (a::mo).length c=0:=by
  have key:=cW (c:=C.length=0) (P:=λx:List dY×Mk.S=>x.1.length<=6/\∀ c∈x.1,Ck.call lk (a::mo).length c=0) (a:=(([]:List dY),s6)) (b:=Mk.rep k.toNat (λ_ l s=>Mk.bind (Mk.next ((a::mo).length:Int) s) λp s=>Mk.bind (Mk.next (C.length:Int) s) λq s=>(l++[(⟨p,C.getD q.toNat 0⟩:dY)],s)) [] s6) (λ_=>⟨Nat.zero_le _,by simp⟩) λhc0=>?_
  ·rw [h7] at key;exact key
  ·refine ⟨?_,?_⟩
   ·refine nT (Nat.le_of_eq (dG (f:=λ_ l s=>Mk.bind (Mk.next ((a::mo).length:Int) s) λp s=>Mk.bind (Mk.next (C.length:Int) s) λq s=>(l++[(⟨p,C.getD q.toNat 0⟩:dY)],s)) (λ_ _ _=>by simp [Mk.bind]) k.toNat s6)) zo
   ·refine ed (f:=λ_ l s=>Mk.bind (Mk.next ((a::mo).length:Int) s) λp s=>Mk.bind (Mk.next (C.length:Int) s) λq s=>(l++[(⟨p,C.getD q.toNat 0⟩:dY)],s)) (λc=>Ck.call lk (a::mo).length c=0) zk λi L s _ h=>?_
    obtain ⟨p,t1,hp⟩:∃ x y,Mk.next ((a::mo).length:Int) s=(x,y):=⟨_,_,rfl⟩
    obtain ⟨q,t2,hq⟩:∃ x y,Mk.next (C.length:Int) t1=(x,y):=⟨_,_,rfl⟩
    have ip:=ay (by rw [List.length_cons];omega) hp;have iq:=ay zo hq;rw [Mk.ai hp,Mk.ai hq];refine bu h ?_;have hql:q.toNat<C.length:=zo;have hqm:C.getD q.toNat 0∈C:=by rw [List.getD_eq_getElem?_getD,gE hql];exact List.getElem_mem hql
    obtain ⟨y0,l,y1,y2,y3⟩:=hC _ hqm;have y4:=(gI.1 y1).1;unfold Ck.call;rw [if_neg zqg,if_neg zqg];simp only;rw [y1];simp only;rw [dF zo,dF zo];rfl
 rw [Mk.ai h5,Mk.ai h6,Mk.ai h7];refine jd hb6 hm.2 ha6 ?_ b3.1 hm.1 b4.1 ?_ zk ?_ zk (.inr rfl)
 ·rw [if_neg zo,if_neg zo];rfl
 ·unfold Ck.cP;rw [if_neg zo,if_neg zo,if_neg zo];rfl
 ·unfold Ck.calls;rw [if_neg zqg,if_neg zo,gD (f:=Ck.call lk (a::mo).length) hcs.2]
structure LkR (n:Nat) (C:List Int) (d:ar):Prop where
 kind:1<=d.kind/\d.kind<=8
 few:d.rules.length<=60
 none:7<=d.kind->d.rules=[]
 rule:∀ r∈d.rules,∀ lk,iI lk C->Ck.rule n lk d.kind r=0
theorem LkR.zero {n:Nat} {C:List Int} {d:ar} (h:LkR n C d) {lk:List ar} (hC:iI lk C):Ck.lookup n lk d=0:=by
 have hk:=h.kind;have hf:=h.few;unfold Ck.lookup;rw [if_neg zo,dF zo,gD (f:=Ck.rule n lk d.kind) λr hr=>h.rule r hr lk hC];have:((d.kind == 7 || d.kind == 8) && decide (0<d.rules.length))=false:=by
  by_cases h7:7<=d.kind
  ·rw [h.none h7];simp
  ·rw [show (d.kind == 7)=false by simp;omega,show (d.kind == 8)=false by simp;omega];rfl
 rw [this];rfl
theorem yN (k:Nat) (s:Mk.S):∀ q∈(Mk.rep k lk1F ([],[]) s).1.2,∃ (j:Nat) (d:ar),q=(j:Int)/\(Mk.rep k lk1F ([],[]) s).1.1[j]?=some d/\d.kind<=4:=by
 refine (Mk.bH (f:=lk1F) (λi (p:List ar×List Int)=>p.1.length=i/\∀ q∈p.2,∃ (j:Nat) (d:ar),q=(j:Int)/\p.1[j]?=some d/\d.kind<=4) ⟨rfl,by simp⟩ λi p s hi h=>?_).2;unfold lk1F Mk.bind;refine ⟨by simp [h.1],λq hq=>?_⟩;simp only at hq ⊢;have old:∀ q∈p.2,∃ (j:Nat) (d:ar),q=(j:Int)/\(p.1++[(⟨Mk.kinds.getD (Mk.next 10 s).1.toNat 0,decide ((Mk.next 3 (Mk.next 10 s).2).1=0),[]⟩:ar)])[j]?=some d/\d.kind<=4:=λq hq=>by
  obtain ⟨j,d,h1,h2,h3⟩:=h.2 q hq;exact ⟨j,d,h1,by rw [List.getElem?_append_left (gI.1 h2).1,h2],h3⟩
 split at hq
 ·rename_i hk;rcases List.mem_append.1 hq with hq | hq
  ·exact old q hq
  ·exact ⟨i,_,mI.1 hq,by rw [<- h.1];exact List.getElem?_concat_length,hk⟩
 ·exact old q hq
theorem pV (n:Nat) (hn:0<n) (s:Mk.S):(Mk.lookups n s).1.length<=6/\∀ t,∀ d∈(Mk.lookups n s).1,Ck.lookup n ((Mk.lookups n s).1++t) d=0:=by
 obtain ⟨k,s1,h1⟩:∃ a b,Mk.next 7 s=(a,b):=⟨_,_,rfl⟩
 have i1:=ay zd h1;obtain ⟨⟨D,C⟩,s2,h2⟩:∃ a b,Mk.rep k.toNat lk1F ([],[]) s1=(a,b):=⟨_,_,rfl⟩
 rw [Mk.jA h1 h2];have h3:=nC k.toNat s1;have h4:=yN k.toNat s1;rw [h2] at h3 h4;simp only at h3 h4;have key:=Mk.bH (f:=lk2F n D C) (a:=[]) (s:=s2) (n:=D.length) (λi (L:List ar)=>L.map (·.kind)=(D.map (·.kind)).take i/\∀ d∈L,LkR n C d) ⟨rfl,by simp⟩ λi L s hi h=>by
  have hd:D[i]?=some D[i]:=gE hi;have hdk:=h3.2.2 D[i] (List.getElem_mem hi);have hsn:∀ d:ar,d.kind=D[i].kind->(L++[d]).map (·.kind)=(D.map (·.kind)).take (i+1):=λd hd=>by
   rw [List.map_append,h.1,List.take_succ_eq_append_getElem zql];simp [hd]
  unfold lk2F;rw [hd];simp only;refine cW (P:=λx:List ar×Mk.S=>x.1.map (·.kind)=(D.map (·.kind)).take (i+1)/\∀ d∈x.1,LkR n C d) (λh7=>?_) λh7=>?_
  ·exact ⟨hsn _ rfl,bu h.2 ⟨⟨hdk.1,hdk.2.1⟩,by rw [hdk.2.2];simp,λ_=>hdk.2.2,by rw [hdk.2.2];simp⟩⟩
  ·obtain ⟨x,t1,hx⟩:∃ a b,Mk.next 3 s=(a,b):=⟨_,_,rfl⟩
   have ix:=ay zd hx;rw [Mk.ai hx];refine ⟨hsn _ rfl,bu h.2 ⟨⟨hdk.1,hdk.2.1⟩,?_,λh9=>absurd h9 h7,?_⟩⟩
   ·show (Mk.rep (1+x).toNat (kS n D[i].kind C) [] t1).1.length<=60;rw [dG (f:=kS n D[i].kind C) (λ_ _ _=>by simp [kS,Mk.bind])];omega
   ·exact ed (f:=kS n D[i].kind C) (λr=>∀ lk,iI lk C->Ck.rule n lk D[i].kind r=0) zk λj L s _ h=>bu h λlk hC=>vx n hn D[i].kind ⟨hdk.1,by omega⟩ C s lk hC
 obtain ⟨LK,t,hLK⟩:∃ a b,Mk.rep D.length (lk2F n D C) [] s2=(a,b):=⟨_,_,rfl⟩
 rw [hLK] at key ⊢
 try simp only at key ⊢
 have hm:LK.map (·.kind)=D.map (·.kind):=key.1.trans (List.take_of_length_le (by rw [List.length_map];exact nR _));have hlen:LK.length=D.length:=by have:=congrArg List.length hm;simpa using this
 have hC:iI LK C:=λq hq=>by
  obtain ⟨j,d,h5,h6,h7⟩:=h4 q hq;have hj:=(gI.1 h6).1;have hd:=(gI.1 h6).2;have hj':j<LK.length:=zo;refine ⟨by omega,LK[j],by rw [h5];exact gE hj',?_⟩;have e:LK[j].kind=D[j].kind:=by
   have h8:(LK.map (·.kind))[j]?=(D.map (·.kind))[j]?:=by rw [hm]
   simpa [hj',hj] using h8
  have:=h3.2.2 D[j] (List.getElem_mem hj);rw [e];rw [<- hd] at h7;exact ⟨this.1,h7⟩
 exact ⟨by omega,λt d hd=>(key.2 d hd).zero hC.more⟩
end Mr
namespace Mr
theorem jV {α:Type} {nm:α->ByteArray} {l:List α} (h:(l.map nm).Nodup) {i:Nat} {x:α} (hx:l[i]?=some x):decide (Ck.aK nm l (nm x)<i)=false:=by
 refine dF λhlt=>?_
 unfold Ck.aK at hlt;have hi:=(gI.1 hx).1;have he:=(gI.1 hx).2;obtain ⟨k,hk⟩:∃ k,k=l.findIdx λy=>decide (nm y=nm x):=⟨_,rfl⟩
 rw [<- hk] at hlt;have hkl:k<l.length:=zo;have h1:nm l[k]=nm x:=by
  have:=List.findIdx_getElem (xs:=l) (p:=λy=>decide (nm y=nm x)) (w:=by rw [<- hk];exact hkl);simp only [<- hk] at this;exact of_decide_eq_true this
 have h2:=List.pairwise_iff_getElem.1 h k i (by simpa using hkl) zql hlt;rw [List.getElem_map,List.getElem_map,he] at h2;exact h2 h1
structure FR (F:aD):Prop where
 unit:16<=F.unit/\F.unit<=4096
 gll:1<=F.glyphs.length/\F.glyphs.length<=400
 gl:∀ g∈F.glyphs,Gl F.glyphs.length F.regions.length g
 gn:(F.glyphs.map av.name).Nodup
 low:∀ i g,F.glyphs[i]?=some g->g.parts=[]∨(1<i/\∃ x y,g.parts=[⟨1,x,y⟩])
 ch:Ck.some 1000 (λi x=>Ck.char F.glyphs.length x (Ck.late F.chars i x)) F.chars=(0,0)
 lkl:F.lookups.length<=40
 lk:∀ t,∀ d∈F.lookups,Ck.lookup F.glyphs.length (F.lookups++t) d=0
 ft:Ck.some 20 (λi x=>Ck.feature F.lookups.length x (Ck.name (Ck.br x.name) (decide (Ck.aK aA.name F.features x.name<i)))) F.features=(0,0)
 ax:Ck.some 3 (λi x=>Ck.axis x (Ck.name (Ck.bZ x.name) (decide (Ck.aK bB.name F.axes x.name<i)))) F.axes=(0,0)
 rg:Ck.some 16 (λ_ x=>Ck.region F.axes.length x) F.regions=(0,0)
 fn:Ck.some 20 (λ_ x=>Ck.program x) F.funcs=(0,0)
 cv:Ck.some 64 (λ_ x=>Ck.when (!Ck.may x) 1) F.cvt=(0,0)
def own (gl:List av) (g:Nat):Nat:=match gl[g]? with | some x=>x.pts.length | none=>0
def D (gl:List av) (g:Nat):Nat:=(Ln.partsOf gl g).length
def Q (gl:List av) (g:Nat):Nat:=if Ln.partsOf gl g=[] then own gl g else own gl g+own gl 1
theorem FR.parts {F:aD} (h:FR F) (g:Nat):Ln.partsOf F.glyphs g=[]∨(1<g/\g<F.glyphs.length/\Ln.partsOf F.glyphs g=[1]):=by
 cases hx:F.glyphs[g]? with
 | none=>left;unfold Ln.partsOf;rw [hx]
 | some x =>
  rw [Ln.jy hx];have hg:=(gI.1 hx).1;rcases h.low g x hx with h1 | ⟨h1,a,b,h2⟩
  ·left;rw [h1];rfl
  ·right;refine ⟨h1,hg,?_⟩;rw [h2];have:eU F.glyphs.length 1=true:=by unfold eU;rw [dT zd,dT zo];rfl
   unfold Ln.here;simp [this]
theorem FR.nU {F:aD} (h:FR F) (g:Nat):own F.glyphs g<=10:=by
 unfold own
 split
 ·rename_i x hx;exact (h.gl x (List.mem_of_getElem? hx)).ptl
 ·exact Nat.zero_le _
theorem FR.Ex {F:aD} (h:FR F) (g:Nat):D F.glyphs g<=1:=by
 unfold D;rcases h.parts g with e | ⟨-,-,e⟩ <;> rw [e] <;> decide
theorem FR.Et {F:aD} (h:FR F) (g:Nat):Q F.glyphs g<=20:=by
 have h1:=h.nU g;have h2:=h.nU 1;unfold Q
 split <;> omega
theorem FR.eqs {F:aD} (h:FR F):Cp.Eqs F.glyphs.length (Ln.partsOf F.glyphs) (own F.glyphs) (D F.glyphs) (Q F.glyphs):=by
 have one:Ln.partsOf F.glyphs 1=[]:=by
  rcases h.parts 1 with e | ⟨h1,-⟩
  ·exact e
  ·omega
 have d1:D F.glyphs 1=0:=by unfold D;rw [one];rfl
 have q1:Q F.glyphs 1=own F.glyphs 1:=by unfold Q;rw [if_pos one]
 refine ⟨λg hg=>?_,λg hg=>?_⟩
 ·rcases h.parts g with e | ⟨-,-,e⟩
  ·unfold D;rw [e];rfl
  ·have:D F.glyphs g=1:=by unfold D;rw [e];rfl
   rw [this,e];show 1=Cp.ko (D F.glyphs) 0 1;unfold Cp.ko;rw [d1];rfl
 ·rcases h.parts g with e | ⟨-,-,e⟩
  ·unfold Q;rw [e];rfl
  ·have:Q F.glyphs g=own F.glyphs g+own F.glyphs 1:=by unfold Q;rw [e];rfl
   rw [this,e];show _=Cp.km (Q F.glyphs) (own F.glyphs g) 1;unfold Cp.km;rw [q1];have h1:=h.nU g;have h2:=h.nU 1;omega
theorem FR.lower {F:aD} (h:FR F):∀ g,g<F.glyphs.length->∀ p∈Ln.partsOf F.glyphs g,p<g:=by
 intro g hg p hp;rcases h.parts g with e | ⟨h1,-,e⟩ <;> rw [e] at hp
 ·cases hp
 ·rw [mI.1 hp];exact h1
theorem FR.comp {F:aD} (h:FR F):Ck.first (Ck.gm ((List.range F.glyphs.length).map λi=>((D F.glyphs i:Nat):Int)) ((List.range F.glyphs.length).map λi=>((Q F.glyphs i:Nat):Int)))=(0,0):=by
 unfold Ck.gm;have c1:Ck.each (λ_ d=>Ck.jr d) ((List.range F.glyphs.length).map λi=>((D F.glyphs i:Nat):Int))=(0,0):=gD (f:=Ck.jr) λx hx=>by
  obtain ⟨i,-,rfl⟩:=List.mem_map.1 hx;have:=h.Ex i;unfold Ck.jr Ck.when;rw [dF zo];rfl
 have c2:Ck.each (λ_ d=>Ck.jq d) ((List.range F.glyphs.length).map λi=>((Q F.glyphs i:Nat):Int))=(0,0):=gD (f:=Ck.jq) λx hx=>by
  obtain ⟨i,-,rfl⟩:=List.mem_map.1 hx;have:=h.Et i;unfold Ck.jq Ck.when;rw [dF zo];rfl
 rw [c1,c2];rfl
def iZ (g:av) (a:Int):av:={ g with parts:=[],hint:=g.hint++[⟨24,a⟩] }
theorem FR.last {F:aD} (h:FR F) (hh:∀ g∈F.glyphs,g.hint.length<=100) {i:Nat} {g:av} (hg:F.glyphs[i]?=some g) {a:Int} (h0:0<=a) (h1:a<1000):FR { F with glyphs:=F.glyphs.set i (iZ g a) }:=by
 have hm:=List.mem_of_getElem? hg;obtain ⟨hi,he⟩:=gI.1 hg;have hx:=h.gl g hm;have hin:∀ y∈F.glyphs.set i (iZ g a),y∈F.glyphs∨y=iZ g a:=λy hy=>List.mem_or_eq_of_mem_set hy
 refine ⟨h.unit,by simp only [List.length_set];exact h.gll,λy hy=>?_,?_,λj y hy=>?_,by simp only [List.length_set];exact h.ch,h.lkl,by simp only [List.length_set];exact h.lk,h.ft,h.ax,h.rg,h.fn,h.cv⟩
 ·simp only [List.length_set];rcases hin y hy with hy | rfl
  ·exact h.gl y hy
  ·exact ⟨hx.name,hx.shape,Nat.zero_le _,(by intro p hp;cases hp),hx.anc,hx.del,by have:=hh g hm;simp [iZ];omega,bu hx.hint (show eC ⟨24,a⟩ from ⟨(by decide:(1:Int)<=24),(by decide:(24:Int)<=39),by simp only;omega,by simp only;omega⟩),hx.ptl⟩
 ·have e:(F.glyphs.set i (iZ g a)).map av.name=F.glyphs.map av.name:=by
   rw [List.map_set];have:av.name (iZ g a)=(F.glyphs.map av.name)[i]'zql:=by rw [List.getElem_map,he];rfl
   rw [this,List.set_getElem_self]
  simp only;rw [e];exact h.gn
 ·simp only at hy;rw [List.getElem?_set] at hy
  split at hy
  ·rw [<- Option.some.inj hy];exact .inl rfl
  ·exact h.low j y hy
end Mr
namespace Mr
theorem uk:((List.range 11).map gname).Nodup:=by decide
theorem AV:∀ {GL:List av} {n:Nat},GL.length=n->n<=11->(∀ i g,GL[i]?=some g->g.name=gname i)->(GL.map av.name).Nodup:=by
 intro GL n hl hn h;have e:GL.map av.name=((List.range 11).map gname).take n:=by
  apply List.ext_getElem?;intro i;rw [List.getElem?_take]
  by_cases hi:i<n
  ·rw [if_pos hi,List.getElem?_map,List.getElem?_map,List.getElem?_range zo,gE zo];simp only [Option.map_some];rw [h i _ (gE zo)]
  ·rw [if_neg hi,List.getElem?_eq_none (by rw [List.length_map];omega)]
 rw [e];exact uk.sublist (List.take_sublist _ _)
theorem qh {α:Type} [Inhabited α] {l:List α} {i:Nat} (hi:i<l.length) (d:α):l.take (i+1)=l.take i++[l.getD i d]:=by
 rw [List.take_succ_eq_append_getElem hi,List.getD_eq_getElem?_getD,gE hi];rfl
theorem Ah:Mk.runes.Pairwise (· < ·):=by decide
theorem Ai:∀ x∈Mk.runes,0<=x/\x<=1114111:=by decide
theorem uz (n:Nat) (hn:0<n) (s:Mk.S):Ck.some 1000 (λi x=>Ck.char n x (Ck.late (Mk.rep 16 (chF n) [] s).1 i x)) (Mk.rep 16 (chF n) [] s).1=(0,0):=by
 have key:=Mk.bH (f:=chF n) (a:=[]) (s:=s) (n:=16) (λi (L:List dc)=>L.length<=i/\(L.map dc.rune).Sublist (Mk.runes.take i)/\∀ c∈L,0<=c.glyph/\c.glyph<n) ⟨nR _,List.Sublist.refl _,by simp⟩ λi L s hi h=>by
  obtain ⟨z,t1,hz⟩:∃ a b,Mk.next 4 s=(a,b):=⟨_,_,rfl⟩
  unfold chF;rw [Mk.ai hz,qh (l:=Mk.runes) hi 0];refine cW (P:=λx:List dc×Mk.S=>x.1.length<=i+1/\(x.1.map dc.rune).Sublist (Mk.runes.take i++[Mk.runes.getD i 0])/\∀ c∈x.1,0<=c.glyph/\c.glyph<n) (λ_=>?_) λ_=>⟨Nat.le_succ_of_le h.1,h.2.1.trans (List.sublist_append_left _ _),h.2.2⟩
  obtain ⟨g,t2,hg⟩:∃ a b,Mk.next n t1=(a,b):=⟨_,_,rfl⟩
  have ig:=ay zo hg;rw [Mk.ai hg];refine ⟨by simp;exact h.1,?_,bu h.2.2 ⟨ig.1,ig.2.1⟩⟩;rw [List.map_append];exact h.2.1.append (List.Sublist.refl _)
 obtain ⟨L,t,hL⟩:∃ a b,Mk.rep 16 (chF n) [] s=(a,b):=⟨_,_,rfl⟩
 rw [hL] at key ⊢;simp only at key ⊢;have hs:(L.map dc.rune).Sublist Mk.runes:=key.2.1;refine fA (by have:=key.1;omega) λk x hx=>?_
 have hm:=List.mem_of_getElem? hx;have hr:=Ai x.rune (hs.subset (mM (f:=dc.rune) hm));have hg:=key.2.2 x hm;have hl:Ck.late L k x=false:=by
  unfold Ck.late;cases k with
  | zero=>rfl
  | succ k =>
   have hk:=(gI.1 hx).1;have he:=(gI.1 hx).2;have hp:=List.pairwise_iff_getElem.1 (Ah.sublist hs) k (k+1) zqa (by simpa using hk) zo;rw [List.getElem_map,List.getElem_map,he] at hp;rw [Nat.add_sub_cancel,gE zo];simp only;rw [dF (by omega:¬ (x.rune<=L[k].rune))];simp
 unfold Ck.char;rw [if_neg zo,jC hg.1 hg.2,hl];rfl
theorem AW:Mk.names.Nodup:=by decide
theorem pU:∀ x∈Mk.names,Ck.br x=true:=by decide
theorem Di (n:Nat) (s:Mk.S):(Mk.rep n ftR [] s).1.Pairwise (· < ·)/\∀ x∈(Mk.rep n ftR [] s).1,0<=x/\x<n:=by
 refine Mk.bH (f:=ftR) (λi (L:List Int)=>L.Pairwise (· < ·)/\∀ x∈L,0<=x/\x<i) ⟨List.Pairwise.nil,by simp⟩ λi L s hi h=>?_
 obtain ⟨z,t1,hz⟩:∃ a b,Mk.next 3 s=(a,b):=⟨_,_,rfl⟩
 unfold ftR;rw [Mk.ai hz];simp only;refine cW (P:=λy:List Int=>y.Pairwise (· < ·)/\∀ x∈y,0<=x/\x<((i+1:Nat):Int)) (λ_=>?_) λ_=>⟨h.1,λx hx=>by have:=h.2 x hx;omega⟩
 exact ⟨List.pairwise_append.2 ⟨h.1,List.pairwise_singleton _ _,λa ha b hb=>by rw [mI.1 hb];exact (h.2 a ha).2⟩,bu (λx hx=>by have:=h.2 x hx;omega) zo⟩
theorem rY {n:Nat} {x:aA} {nm:Int} (hn:nm=0) (hu:x.lookups.Pairwise (· < ·)) (hi:∀ l∈x.lookups,0<=l/\l<n):Ck.feature n x nm=0:=by
 unfold Ck.feature;rw [if_neg zo,j8 λk l hl=>?_];have h1:=hi l (List.mem_of_getElem? hl);rw [dF zo,dF zo];cases k with
 | zero=>rfl
 | succ k =>
  have hk:=(gI.1 hl).1;have he:=(gI.1 hl).2;have hp:=List.pairwise_iff_getElem.1 hu k (k+1) zo hk zo;rw [he] at hp;rw [Nat.add_sub_cancel,List.getD_eq_getElem?_getD,gE zo];have e:=dF (p:=l<=(some x.lookups[k]).getD 0) (show ¬ l<=x.lookups[k] by omega);rw [e];simp [Ck.when]
theorem pL (n:Nat) (s:Mk.S):Ck.some 20 (λi x=>Ck.feature n x (Ck.name (Ck.br x.name) (decide (Ck.aK aA.name (Mk.rep 8 (ftF n) [] s).1 x.name<i)))) (Mk.rep 8 (ftF n) [] s).1=(0,0):=by
 have key:=Mk.bH (f:=ftF n) (a:=[]) (s:=s) (n:=8) (λi (L:List aA)=>L.length<=i/\(L.map aA.name).Sublist (Mk.names.take i)/\∀ f∈L,f.lookups.Pairwise (· < ·)/\∀ l∈f.lookups,0<=l/\l<n) ⟨nR _,List.Sublist.refl _,by simp⟩ λi L s hi h=>by
  obtain ⟨T,t1,hT⟩:∃ a b,Mk.rep n ftR [] s=(a,b):=⟨_,_,rfl⟩
  obtain ⟨z,t2,hz⟩:∃ a b,Mk.next 2 t1=(a,b):=⟨_,_,rfl⟩
  have hTi:=Di n s;rw [hT] at hTi;unfold ftF;rw [Mk.ai hT,Mk.ai hz,qh (l:=Mk.names) hi ByteArray.empty];simp only;refine cW (P:=λx:List aA=>x.length<=i+1/\(x.map aA.name).Sublist (Mk.names.take i++[Mk.names.getD i ByteArray.empty])/\∀ f∈x,f.lookups.Pairwise (· < ·)/\∀ l∈f.lookups,0<=l/\l<n) (λ_=>?_) λ_=>⟨Nat.le_succ_of_le h.1,h.2.1.trans (List.sublist_append_left _ _),h.2.2⟩
  refine ⟨by simp;exact h.1,?_,bu h.2.2 hTi⟩;rw [List.map_append];exact h.2.1.append (List.Sublist.refl _)
 obtain ⟨L,t,hL⟩:∃ a b,Mk.rep 8 (ftF n) [] s=(a,b):=⟨_,_,rfl⟩
 rw [hL] at key ⊢;simp only at key ⊢;have hs:(L.map aA.name).Sublist Mk.names:=key.2.1;refine fA (by have:=key.1;omega) λk x hx=>?_
 have hm:=List.mem_of_getElem? hx;refine rY ?_ (key.2.2 x hm).1 (key.2.2 x hm).2;rw [pU _ (hs.subset (mM (f:=aA.name) hm)),jV (AW.sublist hs) hx];rfl
def aname (i:Nat):ByteArray:=(⟨#[97,120]⟩:ByteArray)++Mk.letter i
theorem wQ (k:Nat) (s:Mk.S):(Mk.axes k s).1.map bB.name=(List.range k).map aname:=by
 rw [Mk.ll];refine Mk.bH (f:=axF) (λi (L:List bB)=>L.map bB.name=(List.range i).map aname) rfl λi L s _ h=>?_
 obtain ⟨x,s1,h1⟩:∃ a b,Mk.next 3 s=(a,b):=⟨_,_,rfl⟩
 obtain ⟨y,s2,h2⟩:∃ a b,Mk.next 4 s1=(a,b):=⟨_,_,rfl⟩
 unfold axF;rw [Mk.ai h1,Mk.ai h2,List.range_succ,List.map_append,List.map_append,h];rfl
theorem wP (k:Nat) (hk:k<=2) (s:Mk.S):Ck.some 3 (λi x=>Ck.axis x (Ck.name (Ck.bZ x.name) (decide (Ck.aK bB.name (Mk.axes k s).1 x.name<i)))) (Mk.axes k s).1=(0,0):=by
 have h1:=rH k s;have h2:=wQ k s;obtain ⟨L,t,hL⟩:∃ a b,Mk.axes k s=(a,b):=⟨_,_,rfl⟩
 rw [hL] at h1 h2 ⊢;simp only at h1 h2 ⊢;have hnd:(L.map bB.name).Nodup:=by
  rw [h2]
  match k,hk with
  | 0,_=>decide
  | 1,_=>decide
  | 2,_=>decide
 refine fA zo λi x hx=>?_
 have hm:=List.mem_of_getElem? hx;have ha:=h1.1 x hm;have hn:Ck.bZ x.name=true:=by
  have:x.name∈(List.range k).map aname:=by rw [<- h2];exact mM hm
  match k,hk with
  | 0,_=>simp at this
  | 1,_=>simp [List.range_succ] at this;rw [this];decide
  | 2,_ =>
   simp [List.range_succ] at this;rcases this with h | h <;> rw [h] <;> decide
 unfold Cm at ha;unfold Ck.axis;rw [hn,jV hnd hx,if_neg zd,fp zo zo,fp zo zo,fp zo zo,dT zo,dT zo];rfl
theorem vg:∀ t∈Mk.tents,Ck.tent t=0:=by
 intro t ht;simp only [Mk.tents,List.mem_cons,List.not_mem_nil,or_false] at ht;rcases ht with rfl | rfl | rfl | rfl | rfl <;> decide
theorem pT {k:Nat} {L:List bv} (hl:L.length<=3) (h:∀ r∈L,zH k r):Ck.some 16 (λ_ x=>Ck.region k x) L=(0,0):=by
 refine jS (f:=Ck.region k) zo λr hr=>?_
 have h1:=h r hr;unfold Ck.region;rw [if_neg (by have:=h1.1;omega),gD (f:=Ck.tent) λt ht=>vg t (h1.2 t ht)]
theorem zU:∀ U,U<4->16<=Mk.units.getD U 0/\Mk.units.getD U 0<=4096
 | 0,_=>by decide
 | 1,_=>by decide
 | 2,_=>by decide
 | 3,_=>by decide
theorem pm (l:List Int):FR (Mk.made l)/\(Mk.made l).lookups.length<=39/\(∀ g∈(Mk.made l).glyphs,g.hint.length<=100):=by
 have hok:=De l;obtain ⟨u,s1,h1⟩:∃ a b,Mk.next 4 ⟨l,0⟩=(a,b):=⟨_,_,rfl⟩
 obtain ⟨ka,s2,h2⟩:∃ a b,Mk.next 3 s1=(a,b):=⟨_,_,rfl⟩
 have i1:=ay zd h1;have i2:=ay zd h2;obtain ⟨U,rfl⟩:∃ K:Nat,u=K:=⟨u.toNat,by omega⟩
 obtain ⟨KA,rfl⟩:∃ K:Nat,ka=K:=⟨ka.toNat,by omega⟩
 obtain ⟨AX,s3,h3⟩:∃ a b,Mk.rep KA axF [] s2=(a,b):=⟨_,_,rfl⟩
 obtain ⟨RG,s4,h4⟩:∃ a b,Mk.regions KA s3=(a,b):=⟨_,_,rfl⟩
 obtain ⟨kf,s5,h5⟩:∃ a b,Mk.next 3 s4=(a,b):=⟨_,_,rfl⟩
 have i5:=ay zd h5;obtain ⟨KF,rfl⟩:∃ K:Nat,kf=K:=⟨kf.toNat,by omega⟩
 obtain ⟨FN,s6,h6⟩:∃ a b,Mk.rep KF fnF [] s5=(a,b):=⟨_,_,rfl⟩
 obtain ⟨kc,s7,h7⟩:∃ a b,Mk.next 4 s6=(a,b):=⟨_,_,rfl⟩
 have i7:=ay zd h7;obtain ⟨KC,rfl⟩:∃ K:Nat,kc=K:=⟨kc.toNat,by omega⟩
 obtain ⟨CV,s8,h8⟩:∃ a b,Mk.rep KC cvF [] s7=(a,b):=⟨_,_,rfl⟩
 obtain ⟨kg,s9,h9⟩:∃ a b,Mk.next 9 s8=(a,b):=⟨_,_,rfl⟩
 have i9:=ay zd h9;obtain ⟨KG,hKG⟩:∃ K:Nat,2+kg=K:=⟨(2+kg).toNat,by omega⟩
 obtain ⟨GL,s10,h10⟩:∃ a b,Mk.rep KG (glF RG.length FN.length) [] s9=(a,b):=⟨_,_,rfl⟩
 obtain ⟨CH,s11,h11⟩:∃ a b,Mk.rep 16 (chF KG) [] s10=(a,b):=⟨_,_,rfl⟩
 obtain ⟨LK,s12,h12⟩:∃ a b,Mk.lookups KG s11=(a,b):=⟨_,_,rfl⟩
 obtain ⟨FT,s13,h13⟩:∃ a b,Mk.rep 8 (ftF LK.length) [] s12=(a,b):=⟨_,_,rfl⟩
 rw [ry h1 h2 h3 h4 h5 h6 h7 h8 h9 hKG h10 h11 h12 h13] at hok ⊢;have a3:=wP KA zo s2;have a3l:=(rH KA s2).2;rw [Mk.ll,h3] at a3 a3l;have a4:=oZ KA s3;rw [h4] at a4;simp only at a3l a4;have a6:=dG (f:=fnF) (λ_ _ _=>by simp [fnF,Mk.bind]) KF s5
 have a6':=ed (f:=fnF) (λc=>Ck.program c=0) (n:=KF) (s:=s5) (a:=[]) zk λi L s hi h=>bu h (jI (by
  have:=oJ 6 i 4 zd ⟨s.r,0⟩;have h9:(Mk.hint 6 i 4 ⟨s.r,0⟩).1.length<=36:=this;show (Mk.hint 6 i 4 ⟨s.r,0⟩).1.length<=200
  omega) (xl 6 i 4 zd zd zo ⟨s.r,0⟩))
 rw [h6] at a6 a6';simp only at a6;have a8:=dG (f:=cvF) (λ_ _ _=>by simp [cvF,Mk.bind]) KC s7;have a8':=ed (f:=cvF) (λx=>Ck.when (!Ck.may x) 1=0) (n:=KC) (s:=s7) (a:=[]) zk λi L s hi h=>by
  obtain ⟨x,t1,hx⟩:∃ a b,Mk.next 500 s=(a,b):=⟨_,_,rfl⟩
  have ix:=ay zd hx;unfold cvF;rw [Mk.ai hx];exact bu h (by rw [fp zo zo];rfl)
 rw [h8] at a8 a8';simp only at a8;have a10:=Mk.bH (f:=glF RG.length FN.length) (a:=[]) (s:=s9) (n:=KG) (λi (L:List av)=>L.length=i/\∀ j g,L[j]?=some g->GlN KG RG.length j g) ⟨rfl,by simp⟩ λi L s hi h=>by
  have hg:=ul i RG.length FN.length KG s zo zo a4.2.1 zo;obtain ⟨g,t1,hgl⟩:∃ a b,Mk.glyph i RG.length FN.length s=(a,b):=⟨_,_,rfl⟩
  rw [hgl] at hg;unfold glF;rw [Mk.ai hgl];refine ⟨by simp [h.1],λj y hy=>?_⟩;rcases Nat.lt_trichotomy j i with hj | hj | hj
  ·rw [List.getElem?_append_left zo] at hy;exact h.2 j y hy
  ·subst hj;have e:(L++[g])[j]?=some g:=by rw [<- h.1];exact List.getElem?_concat_length
   rw [e] at hy;rw [<- Option.some.inj hy];exact hg
  ·rw [List.getElem?_eq_none zqa] at hy;cases hy
 rw [h10] at a10;simp only at a10;have a11:=uz KG zo s10;rw [h11] at a11;have a12:=pV KG zo s11;rw [h12] at a12;simp only at a12;have a13:=pL LK.length s12;rw [h13] at a13;obtain ⟨hGl,hG⟩:=a10;have hat:∀ g∈GL,∃ j,GL[j]?=some g:=λg hg=>List.mem_iff_getElem?.1 hg
 refine ⟨⟨zU U zo,by simp only;omega,λg hg=>?_,AV hGl zo λi g h=>(hG i g h).nm,λi g h=>(hG i g h).low,?_,by have:=a12.1;simp only;omega,λt d hd=>?_,a13,a3,?_,jS (f:=Ck.program) zqg a6',jS (f:=λx=>Ck.when (!Ck.may x) 1) zqg a8'⟩,by have:=a12.1;simp only;omega,λg hg=>?_⟩
 ·obtain ⟨j,hj⟩:=hat g hg;have:=(hG j g hj).right;rw [<- hGl] at this;exact this
 ·simp only;rw [hGl];exact a11
 ·simp only;rw [hGl];exact a12.2 t d hd
 ·simp only;rw [a3l];exact pT a4.2.1 a4.1
 ·have:=(hok.gl g hg).hinl;omega
end Mr
end Go.Proofs.YthheaflbbficgaaGreat
