/- MkOk, MrA, MrB, MrC, MrD. -/
import Derived.Test.YthheaflbbficgaaGreatGBase
import Derived.Test.YthheaflbbficgaaGreatGMade
import Derived.Test.YthheaflbbficgaaGreatGRf
import Derived.Test.YthheaflbbficgaaGreatGCo
import Derived.Test.YthheaflbbficgaaGreatGCf
import Derived.Test.YthheaflbbficgaaGreatGCp
set_option linter.all false
namespace Go.Proofs.YthheaflbbficgaaGreat
open Go.RowKit
theorem rep_all {α:Type} {f:Nat->List α->Mk.M (List α)} (P:α->Prop) {n:Nat} {s:Mk.S} {a:List α} (h0:∀ x∈a,P x) (hf:∀ i L s,i<n->(∀ x∈L,P x)->∀ x∈(f i L s).1,P x):∀ x∈(Mk.rep n f a s).1,P x :=
 Mk.rep_inv (f:=f) (fun _ (L:List α)=>∀ x∈L,P x) h0 fun i L s hi h=>hf i L s hi h
theorem all_snoc {α:Type} {P:α->Prop} {L:List α} {x:α} (h:∀ y∈L,P y) (hx:P x):∀ y∈L++[x],P y:=fun y hy=>by
 rcases List.mem_append.1 hy with hy | hy
 ·exact h y hy
 ·obtain rfl:=mI.1 hy;exact hx
def PtIn (p:DPoint):Prop:=-100<=p.x/\p.x<=900/\-200<=p.y/\p.y<=800
theorem point_in (p:Nat) (s:Mk.S):PtIn (Mk.point p s).1:=by
 obtain ⟨x,s1,h1⟩:∃ a b,Mk.next 21 s=(a,b):=⟨_,_,rfl⟩
 obtain ⟨y,s2,h2⟩:∃ a b,Mk.next 21 s1=(a,b):=⟨_,_,rfl⟩
 have i1:=next_in (by decide) h1;have i2:=next_in (by decide) h2;unfold Mk.point;rw [Mk.bind_eq h1,Mk.bind_eq h2]
 split
 ·unfold PtIn;simp only;omega
 ·obtain ⟨z,s3,h3⟩:∃ a b,Mk.next 4 s2=(a,b):=⟨_,_,rfl⟩
  rw [Mk.bind_eq h3];unfold PtIn;simp only;omega
def ptsF:Nat->List DPoint->Mk.M (List DPoint):=fun p l s=>Mk.bind (Mk.point p s) fun d s=>(l++[d],s)
def EndsOk:Int->List Int->Int->Prop
 | last,[],n=>last=n - 1
 | last,e::r,n=>last+2<=e/\e<n/\EndsOk e r n
theorem EndsOk.snoc {n n':Int}:∀ {l:List Int} {a:Int},EndsOk a l n->n+2<=n'->EndsOk a (l++[n' - 1]) n'
 | [],a,h,h2=>by unfold EndsOk at h;subst h;exact ⟨by omega,by omega,rfl⟩
 | e::r,a,h,h2=>⟨h.1,by have:=h.2.1;omega,EndsOk.snoc h.2.2 h2⟩
theorem outline_ok (s:Mk.S):(∀ p∈(Mk.outline s).1.pts,PtIn p)/\(Mk.outline s).1.ends.length<=2/\EndsOk (-1) (Mk.outline s).1.ends (Mk.outline s).1.pts.length:=by
 obtain ⟨n,s1,h1⟩:∃ a b,Mk.next 3 s=(a,b):=⟨_,_,rfl⟩
 have i1:=next_in (by decide) h1;unfold Mk.outline;rw [Mk.bind_eq h1];have key:=Mk.rep_inv (f:=fun _ o s=>Mk.contour o s) (a:=(⟨[],[]⟩:DOutline)) (s:=s1) (n:=n.toNat) (fun i (o:DOutline)=>(∀ p∈o.pts,PtIn p)/\o.ends.length<=i/\EndsOk (-1) o.ends o.pts.length) ⟨by simp,nR _,by simp [EndsOk]⟩ fun i o s hi h=>by
  obtain ⟨k,t1,hk⟩:∃ a b,Mk.next 4 s=(a,b):=⟨_,_,rfl⟩
  have ik:=next_in (by decide) hk;obtain ⟨P,t2,hP⟩:∃ a b,Mk.rep (2+k).toNat ptsF o.pts t1=(a,b):=⟨_,_,rfl⟩
  have hc:Mk.contour o s=(⟨P,o.ends++[(P.length:Int) - 1]⟩,t2):=by
   unfold Mk.contour;rw [Mk.bind_eq hk];show Mk.bind (Mk.rep (2+k).toNat ptsF o.pts t1) _=_;rw [Mk.bind_eq hP]
  rw [hc];have a1:=rep_all (f:=ptsF) PtIn (n:=(2+k).toNat) (s:=t1) h.1 fun i L s _ hL=>all_snoc hL (point_in i s)
  have a2:=Mk.rep_inv (f:=ptsF) (a:=o.pts) (s:=t1) (n:=(2+k).toNat) (fun i (L:List DPoint)=>L.length=o.pts.length+i) rfl fun i L s _ hL=>by
   show (L++[_]).length=_;simp;omega
  rw [hP] at a1 a2;refine ⟨a1,by simp;exact h.2.1,?_⟩;have a3:P.length=o.pts.length+(2+k).toNat:=a2;exact EndsOk.snoc h.2.2 (by omega)
 refine ⟨key.1,nT key.2.1 (by omega),key.2.2⟩
def DeIn (nr np:Nat) (d:DDelta):Prop:=0<=d.region/\d.region<nr/\-1<=d.point/\d.point<np/\-20<=d.x/\d.x<=20/\-20<=d.y/\d.y<=20/\(d.point=-1->d.y=0)
theorem deltas_ok (nr np:Nat) (s:Mk.S):(∀ d∈(Mk.deltas nr np s).1,DeIn nr np d)/\(Mk.deltas nr np s).1.length<=nr*(np+1):=by
 show (∀ d∈(Mk.rep nr (deR np) [] s).1,DeIn nr np d)/\(Mk.rep nr (deR np) [] s).1.length<=nr*(np+1)
 refine Mk.rep_inv (f:=deR np) (fun i (L:List DDelta)=>(∀ d∈L,DeIn nr np d)/\L.length<=i*(np+1)) ⟨by simp,by simp⟩ fun r L s hr h=>?_
 have key:=Mk.rep_inv (f:=deP r) (a:=L) (s:=s) (n:=np+1) (fun i (M:List DDelta)=>(∀ d∈M,DeIn nr np d)/\M.length<=L.length+i) ⟨h.1,nR _⟩ fun p M s hp hM=>by
  obtain ⟨z,t1,hz⟩:∃ a b,Mk.next 3 s=(a,b):=⟨_,_,rfl⟩
  unfold deP;rw [Mk.bind_eq hz]
  split
  ·obtain ⟨x,t2,hx⟩:∃ a b,Mk.next 41 t1=(a,b):=⟨_,_,rfl⟩
   have ix:=next_in (by decide) hx;rw [Mk.bind_eq hx]
   split
   ·exact ⟨all_snoc hM.1 (by refine ⟨?_,?_,?_,?_,?_,?_,?_,?_,?_⟩ <;> (try simp only) <;> (try intro _) <;> omega),by simp;omega⟩
   ·obtain ⟨y,t3,hy⟩:∃ a b,Mk.next 41 t2=(a,b):=⟨_,_,rfl⟩
    have iy:=next_in (by decide) hy;rw [Mk.bind_eq hy];exact ⟨all_snoc hM.1 (by refine ⟨?_,?_,?_,?_,?_,?_,?_,?_,?_⟩ <;> (try simp only) <;> (try intro _) <;> omega),by simp;omega⟩
  ·exact ⟨hM.1,by have:=hM.2;simp only;omega⟩
 refine ⟨key.1,?_⟩;have h1:=key.2;have h2:=h.2;have h3:(r+1)*(np+1)=r*(np+1)+(np+1):=by rw [Nat.add_mul,Nat.one_mul]
 exact nT h1 (by omega)
theorem hint_len (n funcs most:Int) (hm:0<most) (s:Mk.S):(Mk.hint n funcs most s).1.length<=9*most.toNat:=by
 obtain ⟨k,s1,h1⟩:∃ a b,Mk.next most s=(a,b):=⟨_,_,rfl⟩
 have i1:=next_in hm h1;rw [Mk.hint_eq h1];have key:=Mk.rep_inv (f:=hintF n funcs) (a:=[]) (s:=s1) (n:=k.toNat) (fun i (L:List DIns)=>L.length<=9*i) (nR _) fun i L s _ h=>by
  show (L++(Mk.piece n funcs s).1).length<=9*(i+1)
  have:=(Mk.piece_len n funcs s).1;rw [List.length_append];omega
 omega
def anG (mark:Bool) (c:Int):Nat->List DAnchor->Mk.M (List DAnchor):=fun i l s=>Mk.bind (Mk.next 3 s) fun z s =>
  let k:Int×Int:=[(1,0),(1,1),(3,0),(4,0),(2,c)].getD i (0,0)
  if z=0/\(k.1≠2∨mark=true) then Mk.bind (Mk.next 21 s) fun x s=>Mk.bind (Mk.next 21 s) fun y s=>(l++[⟨k.1,k.2,x*50,y*50 - 200⟩],s) else (l,s)
theorem anchors_len (mark:Bool) (s:Mk.S):(Mk.anchors mark s).1.length<=5:=by
 obtain ⟨c,s1,h1⟩:∃ a b,Mk.next 2 s=(a,b):=⟨_,_,rfl⟩
 have e:Mk.anchors mark s=Mk.rep 5 (anG mark c) [] s1:=by unfold Mk.anchors;rw [Mk.bind_eq h1];rfl
 rw [e];refine Mk.rep_inv (f:=anG mark c) (fun i (L:List DAnchor)=>L.length<=i) (nR _) fun i L s _ h=>?_
 obtain ⟨z,t1,hz⟩:∃ a b,Mk.next 3 s=(a,b):=⟨_,_,rfl⟩
 unfold anG;rw [Mk.bind_eq hz];simp only
 split
 ·show (L++[_]).length<=i+1;simp;exact h
 ·exact Nat.le_succ_of_le h
theorem parts_len (n:Nat) (s:Mk.S):(Mk.parts n s).1.length<=1:=by
 unfold Mk.parts
 split
 ·obtain ⟨z,t1,hz⟩:∃ a b,Mk.next 4 s=(a,b):=⟨_,_,rfl⟩
  rw [Mk.bind_eq hz]
  split
  ·unfold Mk.partsY Mk.bind;simp
  ·exact Nat.zero_le _
 ·exact Nat.zero_le _
structure GlOk (nr:Nat) (g:DGlyph):Prop where
 adv:100<=g.adv/\g.adv<=1000
 ptl:g.pts.length<=10
 pts:∀ p∈g.pts,PtIn p
 endl:g.ends.length<=2
 ends:EndsOk (-1) g.ends g.pts.length
 del:∀ d∈g.deltas,DeIn nr g.pts.length d
 dell:g.deltas.length<=nr*11
 parl:g.parts.length<=1
 ancl:g.anchors.length<=5
 hinl:g.hint.length<=54
 name:g.name.size<=7
theorem glyph_ok (n nr nf:Nat) (s:Mk.S):GlOk nr (Mk.glyph n nr nf s).1:=by
 obtain ⟨a,s1,h1⟩:∃ a b,Mk.next 19 s=(a,b):=⟨_,_,rfl⟩
 obtain ⟨k,s2,h2⟩:∃ a b,Mk.next 4 s1=(a,b):=⟨_,_,rfl⟩
 obtain ⟨o,s3,h3⟩:∃ a b,Mk.outline s2=(a,b):=⟨_,_,rfl⟩
 obtain ⟨p,s4,h4⟩:∃ a b,Mk.parts n s3=(a,b):=⟨_,_,rfl⟩
 obtain ⟨an,s5,h5⟩:∃ a b,Mk.anchors (decide (n≠0) && decide (k=0)) s4=(a,b):=⟨_,_,rfl⟩
 obtain ⟨de,s6,h6⟩:∃ a b,Mk.deltas nr o.pts.length s5=(a,b):=⟨_,_,rfl⟩
 obtain ⟨hi,s7,h7⟩:∃ a b,Mk.hint o.pts.length nf 6 ⟨s6.r,2⟩=(a,b):=⟨_,_,rfl⟩
 have i1:=next_in (by decide) h1;have e:Mk.glyph n nr nf s=(⟨if n=0 then (⟨#[46,110,111,116,100,101,102]⟩:ByteArray) else Mk.gname n,100+a*50,decide (n≠0) && decide (k=0),o.pts,o.ends,p,an,de,hi⟩,s7):=by
  unfold Mk.glyph;rw [Mk.bind_eq h1,Mk.bind_eq h2,Mk.bind_eq h3,Mk.bind_eq h4];simp only;rw [Mk.bind_eq h5,Mk.bind_eq h6,Mk.bind_eq h7]
 rw [e];have a1:=outline_len s2;have a2:=outline_ok s2;have a3:=parts_len n s3;have a4:=anchors_len (decide (n≠0) && decide (k=0)) s4;have a5:=deltas_ok nr o.pts.length s5;have a6:=hint_len o.pts.length nf 6 (by decide) ⟨s6.r,2⟩;rw [h3] at a1 a2;rw [h4] at a3;rw [h5] at a4;rw [h6] at a5;rw [h7] at a6;refine ⟨⟨by simp only;omega,by simp only;omega⟩,a1,a2.1,a2.2.1,a2.2.2,a5.1,nT a5.2 (Nat.mul_le_mul_left _ (by have:o.pts.length<=10:=a1;omega)),a3,a4,a6,?_⟩;simp only
 split
 ·decide
 ·show (2:Nat)<=7;decide
def SetT (l:List Int):Prop:=l.length<=4
theorem row_all (n most:Int) (hm:0<=most) (s:Mk.S):(∀ x∈(Mk.row n most s).1,SetT x)/\(Mk.row n most s).1.length<=most.toNat:=by
 obtain ⟨k,s1,h1⟩:∃ a b,Mk.next (most+1) s=(a,b):=⟨_,_,rfl⟩
 have i1:=next_in (by omega) h1;rw [Mk.row_eq h1];have key:=Mk.rep_inv (f:=rowF n) (a:=[]) (s:=s1) (n:=k.toNat) (fun i (L:List (List Int))=>(∀ x∈L,SetT x)/\L.length<=i) ⟨by simp,nR _⟩ fun i L s _ h=>by
  show (∀ x∈L++[(Mk.set n s).1],SetT x)/\(L++[(Mk.set n s).1]).length<=i+1;exact ⟨all_snoc h.1 (set_len n s),by simp;exact h.2⟩
 exact ⟨key.1,by have:=key.2;omega⟩
structure RuT (r:DRule):Prop where
 bl:r.back.length<=4
 b:∀ x∈r.back,SetT x
 il:r.ins.length<=4
 i:∀ x∈r.ins,SetT x
 al:r.ahead.length<=4
 a:∀ x∈r.ahead,SetT x
 ol:r.out.length<=4
 cl:r.calls.length<=4
theorem nexts_len (n:Int) (k:Nat) (s:Mk.S):(Mk.nexts n k s).1.length=k:=rep_len (f:=fun _ l s=>Mk.bind (Mk.next n s) fun x s=>(l++[x],s)) (fun _ _ _=>by simp [Mk.bind]) k s
theorem ifrow (c:Prop) [Decidable c] (n:Int) (s:Mk.S):(∀ x∈(if c then Mk.row n 2 s else ([],s)).1,SetT x)/\(if c then Mk.row n 2 s else ([],s)).1.length<=2:=by
 split
 ·exact row_all n 2 (by decide) s
 ·exact ⟨by simp,Nat.zero_le _⟩
theorem rule_ok (n kind:Int) (C:List Int) (s:Mk.S):RuT (Mk.rule n kind C s).1:=by
 obtain ⟨a,s1,h1⟩:∃ a b,Mk.set n s=(a,b):=⟨_,_,rfl⟩
 have ha:SetT a:=by have:=set_len n s;rw [h1] at this;exact this
 unfold Mk.rule;rw [Mk.bind_eq h1];have one:∀ x∈[a],SetT x:=by intro x hx;obtain rfl:=mI.1 hx;exact ha
 have none':∀ x∈([]:List (List Int)),SetT x:=by simp
 split
 ·obtain ⟨b,s2,h2⟩:∃ a b,Mk.set n s1=(a,b):=⟨_,_,rfl⟩
  have hb:SetT b:=by have:=set_len n s1;rw [h2] at this;exact this
  rw [Mk.bind_eq h2]
  exact ⟨Nat.zero_le _,none',by simp [Mk.bind],by
   intro x hx;simp only [Mk.bind,List.mem_cons,List.not_mem_nil,or_false] at hx;rcases hx with rfl | rfl
   ·exact ha
   ·exact hb,Nat.zero_le _,none',Nat.zero_le _,Nat.zero_le _⟩
 obtain ⟨z,s2,h2⟩:∃ a b,Mk.next 2 s1=(a,b):=⟨_,_,rfl⟩
 obtain ⟨bk,s3,h3⟩:∃ a b,(if z=0 then Mk.row n 2 s2 else ([],s2))=(a,b):=⟨_,_,rfl⟩
 obtain ⟨ah,s4,h4⟩:∃ a b,(if z=0 then Mk.row n 2 s3 else ([],s3))=(a,b):=⟨_,_,rfl⟩
 have b3:=ifrow (z=0) n s2;have b4:=ifrow (z=0) n s3;rw [h3] at b3;rw [h4] at b4;simp only at b3 b4;rw [Mk.bind_eq h2,Mk.bind_eq h3,Mk.bind_eq h4];have more:∀ s,(∀ x∈a::(Mk.row n 2 s).1,SetT x)/\(a::(Mk.row n 2 s).1).length<=4:=fun s=>by
  have h9:=row_all n 2 (by decide) s;have h8:(Mk.row n 2 s).1.length<=2:=h9.2;refine ⟨fun x hx=>?_,by rw [List.length_cons];omega⟩;rcases List.mem_cons.1 hx with rfl | hx
  ·exact ha
  ·exact h9.1 x hx
 split
 ·refine ⟨by have:=b3.2;show bk.length<=4;omega,b3.1,by simp [Mk.bind],one,by have:=b4.2;show ah.length<=4;omega,b4.1,?_,Nat.zero_le _⟩;show (Mk.nexts n a.length s4).1.length<=4;rw [nexts_len];exact ha
 split
 ·obtain ⟨k,s5,h5⟩:∃ a b,Mk.next 4 s4=(a,b):=⟨_,_,rfl⟩
  have i5:=next_in (by decide) h5;rw [Mk.bind_eq h5];refine ⟨by have:=b3.2;show bk.length<=4;omega,b3.1,by simp [Mk.bind],one,by have:=b4.2;show ah.length<=4;omega,b4.1,?_,Nat.zero_le _⟩;show (Mk.nexts n k.toNat s5).1.length<=4;rw [nexts_len];omega
 split
 ·obtain ⟨mo,s5,h5⟩:∃ a b,Mk.row n 2 s4=(a,b):=⟨_,_,rfl⟩
  have hm:=more s4;rw [h5] at hm;rw [Mk.bind_eq h5];exact ⟨by have:=b3.2;show bk.length<=4;omega,b3.1,hm.2,hm.1,by have:=b4.2;show ah.length<=4;omega,b4.1,by simp [Mk.bind],Nat.zero_le _⟩
 obtain ⟨mo,s5,h5⟩:∃ a b,Mk.row n 2 s4=(a,b):=⟨_,_,rfl⟩
 obtain ⟨k,s6,h6⟩:∃ a b,Mk.next 3 s5=(a,b):=⟨_,_,rfl⟩
 have hm:=more s4;rw [h5] at hm;have i6:=next_in (by decide) h6;rw [Mk.bind_eq h5,Mk.bind_eq h6];refine ⟨by have:=b3.2;show bk.length<=4;omega,b3.1,hm.2,hm.1,by have:=b4.2;show ah.length<=4;omega,b4.1,Nat.zero_le _,?_⟩;show (if C.length=0 then (([]:List DCall),s6) else Mk.rep k.toNat (fun _ l s=>Mk.bind (Mk.next ((a::mo).length:Int) s) fun p s=>Mk.bind (Mk.next (C.length:Int) s) fun q s=>(l++[(⟨p,C.getD q.toNat 0⟩:DCall)],s)) [] s6).1.length<=4
 split
 ·exact Nat.zero_le _
 ·refine nT (Nat.le_of_eq (rep_len (f:=fun _ l s=>Mk.bind (Mk.next ((a::mo).length:Int) s) fun p s=>Mk.bind (Mk.next (C.length:Int) s) fun q s=>(l++[(⟨p,C.getD q.toNat 0⟩:DCall)],s)) (fun _ _ _=>by simp [Mk.bind]) k.toNat s6)) ?_;omega
def LkT (d:DLookup):Prop:=d.rules.length<=4/\∀ r∈d.rules,RuT r
theorem lookups_ok (n:Int) (s:Mk.S):∀ d∈(Mk.lookups n s).1,LkT d:=by
 obtain ⟨k,s1,h1⟩:∃ a b,Mk.next 7 s=(a,b):=⟨_,_,rfl⟩
 obtain ⟨⟨D,C⟩,s2,h2⟩:∃ a b,Mk.rep k.toNat lk1F ([],[]) s1=(a,b):=⟨_,_,rfl⟩
 rw [Mk.lookups_eq h1 h2];refine rep_all (f:=lk2F n D C) LkT (by simp) fun i L s hi h=>?_
 unfold lk2F
 split
 ·exact h
 ·rename_i d hd
  split
  ·refine all_snoc h ?_;have h3:=lk1_inv k.toNat s1;rw [h2] at h3;have h4:d.rules=[]:=(h3.2.2 d (List.mem_of_getElem? hd)).2.2;unfold LkT;rw [h4];exact ⟨Nat.zero_le _,by simp⟩
  ·obtain ⟨x,t1,hx⟩:∃ a b,Mk.next 3 s=(a,b):=⟨_,_,rfl⟩
   have ix:=next_in (by decide) hx;rw [Mk.bind_eq hx];refine all_snoc h ⟨?_,?_⟩
   ·show (Mk.rep (1+x).toNat (lkRF n d.kind C) [] t1).1.length<=4;rw [rep_len (f:=lkRF n d.kind C) (fun _ _ _=>by simp [lkRF,Mk.bind])];omega
   ·exact rep_all (f:=lkRF n d.kind C) RuT (by simp) fun i L s _ h=>all_snoc h (rule_ok n d.kind C s)
def AxIn (a:DAxis):Prop:=-200<=a.min/\a.min<=0/\a.dflt=0/\0<=a.max/\a.max<=300/\a.name.size=3
theorem axes_ok (k:Nat) (s:Mk.S):(∀ a∈(Mk.axes k s).1,AxIn a)/\(Mk.axes k s).1.length=k:=by
 rw [Mk.axes_eq];refine ⟨rep_all (f:=axF) AxIn (by simp) fun i L s _ h=>?_,rep_len (f:=axF) (fun _ _ _=>by simp [axF,Mk.bind]) k s⟩;obtain ⟨x,s1,h1⟩:∃ a b,Mk.next 3 s=(a,b):=⟨_,_,rfl⟩
 obtain ⟨y,s2,h2⟩:∃ a b,Mk.next 4 s1=(a,b):=⟨_,_,rfl⟩
 have i1:=next_in (by decide) h1;have i2:=next_in (by decide) h2;unfold axF;rw [Mk.bind_eq h1,Mk.bind_eq h2];refine all_snoc h ⟨?_,?_,rfl,?_,?_,rfl⟩ <;> simp only <;> omega
def RgIn (k:Nat) (r:DRegion):Prop:=r.tents.length=k/\∀ t∈r.tents,t∈Mk.tents
theorem tents_mem (x:Nat) (h:x<5):Mk.tents.getD x ⟨0,0,0⟩∈Mk.tents:=by
 match x,h with
 | 0,_=>simp [Mk.tents]
 | 1,_=>simp [Mk.tents]
 | 2,_=>simp [Mk.tents]
 | 3,_=>simp [Mk.tents]
 | 4,_=>simp [Mk.tents]
theorem region_in (k:Nat) (s:Mk.S):RgIn k (Mk.region k s).1:=by
 obtain ⟨T,t1,hT⟩:∃ a b,Mk.rep k tnF [] s=(a,b):=⟨_,_,rfl⟩
 have e:Mk.region k s=(⟨T⟩,t1):=by unfold Mk.region;exact (Mk.bind_eq hT _).trans rfl
 rw [e];have a1:=rep_len (f:=tnF) (fun _ _ _=>by simp [tnF,Mk.bind]) k s;have a2:=rep_all (f:=tnF) (fun t=>t∈Mk.tents) (n:=k) (s:=s) (a:=[]) (by simp) fun i L s _ h=>by
  obtain ⟨x,s1,h1⟩:∃ a b,Mk.next 5 s=(a,b):=⟨_,_,rfl⟩
  have i1:=next_in (by decide) h1;unfold tnF;rw [Mk.bind_eq h1];exact all_snoc h (tents_mem _ (by omega))
 rw [hT] at a1 a2;exact ⟨a1,a2⟩
theorem regions_ok (k:Nat) (s:Mk.S):(∀ r∈(Mk.regions k s).1,RgIn k r)/\(Mk.regions k s).1.length<=3/\(k=0->(Mk.regions k s).1=[]):=by
 unfold Mk.regions
 split
 ·obtain ⟨x,s1,h1⟩:∃ a b,Mk.next 4 s=(a,b):=⟨_,_,rfl⟩
  have i1:=next_in (by decide) h1;rw [Mk.bind_eq h1];refine ⟨rep_all (f:=rgF k) (RgIn k) (by simp) fun i L s _ h=>all_snoc h (region_in k s),?_,fun h0=>by omega⟩;show (Mk.rep x.toNat (rgF k) [] s1).1.length<=3;rw [rep_len (f:=rgF k) (fun _ _ _=>by simp [rgF,Mk.bind])];omega
 ·exact ⟨by simp,Nat.zero_le _,fun _=>rfl⟩
structure MkOk (F:DFont):Prop where
 unit:I64 F.unit
 gll:2<=F.glyphs.length/\F.glyphs.length<=10
 gl:∀ g∈F.glyphs,GlOk F.regions.length g
 chl:F.chars.length<=16
 lkl:F.lookups.length<=100
 lk:∀ d∈F.lookups,LkT d
 ftl:F.features.length<=8
 ft:∀ f∈F.features,f.name.size<=4/\f.lookups.length<=100
 axl:F.axes.length<=2
 ax:∀ a∈F.axes,AxIn a
 rgl:F.regions.length<=3
 rg:∀ r∈F.regions,RgIn F.axes.length r
 rg0:F.axes.length=0->F.regions=[]
 fnl:F.funcs.length<=2
 fn:∀ c∈F.funcs,c.length<=36
 cvl:F.cvt.length<=3
theorem made_ok (l:List Int):MkOk (Mk.made l):=by
 obtain ⟨u,s1,h1⟩:∃ a b,Mk.next 4 ⟨l,0⟩=(a,b):=⟨_,_,rfl⟩
 obtain ⟨ka,s2,h2⟩:∃ a b,Mk.next 3 s1=(a,b):=⟨_,_,rfl⟩
 have i1:=next_in (by decide) h1;have i2:=next_in (by decide) h2;obtain ⟨U,rfl⟩:∃ K:Nat,u=K:=⟨u.toNat,by omega⟩
 obtain ⟨KA,rfl⟩:∃ K:Nat,ka=K:=⟨ka.toNat,by omega⟩
 obtain ⟨AX,s3,h3⟩:∃ a b,Mk.rep KA axF [] s2=(a,b):=⟨_,_,rfl⟩
 obtain ⟨RG,s4,h4⟩:∃ a b,Mk.regions KA s3=(a,b):=⟨_,_,rfl⟩
 obtain ⟨kf,s5,h5⟩:∃ a b,Mk.next 3 s4=(a,b):=⟨_,_,rfl⟩
 have i5:=next_in (by decide) h5;obtain ⟨KF,rfl⟩:∃ K:Nat,kf=K:=⟨kf.toNat,by omega⟩
 obtain ⟨FN,s6,h6⟩:∃ a b,Mk.rep KF fnF [] s5=(a,b):=⟨_,_,rfl⟩
 obtain ⟨kc,s7,h7⟩:∃ a b,Mk.next 4 s6=(a,b):=⟨_,_,rfl⟩
 have i7:=next_in (by decide) h7;obtain ⟨KC,rfl⟩:∃ K:Nat,kc=K:=⟨kc.toNat,by omega⟩
 obtain ⟨CV,s8,h8⟩:∃ a b,Mk.rep KC cvF [] s7=(a,b):=⟨_,_,rfl⟩
 obtain ⟨kg,s9,h9⟩:∃ a b,Mk.next 9 s8=(a,b):=⟨_,_,rfl⟩
 have i9:=next_in (by decide) h9;obtain ⟨KG,hKG⟩:∃ K:Nat,2+kg=K:=⟨(2+kg).toNat,by omega⟩
 obtain ⟨GL,s10,h10⟩:∃ a b,Mk.rep KG (glF RG.length FN.length) [] s9=(a,b):=⟨_,_,rfl⟩
 obtain ⟨CH,s11,h11⟩:∃ a b,Mk.rep 16 (chF KG) [] s10=(a,b):=⟨_,_,rfl⟩
 obtain ⟨LK,s12,h12⟩:∃ a b,Mk.lookups KG s11=(a,b):=⟨_,_,rfl⟩
 obtain ⟨FT,s13,h13⟩:∃ a b,Mk.rep 8 (ftF LK.length) [] s12=(a,b):=⟨_,_,rfl⟩
 rw [made_eq h1 h2 h3 h4 h5 h6 h7 h8 h9 hKG h10 h11 h12 h13];have a3:=axes_ok KA s2;rw [Mk.axes_eq,h3] at a3;have a4:=regions_ok KA s3;rw [h4] at a4;have a6:=rep_len (f:=fnF) (fun _ _ _=>by simp [fnF,Mk.bind]) KF s5
 have a6':=rep_all (f:=fnF) (fun c=>c.length<=36) (n:=KF) (s:=s5) (a:=[]) (by simp) fun i L s _ h=>all_snoc h (by
  have:=hint_len 6 i 4 (by decide) ⟨s.r,0⟩
  exact this)
 rw [h6] at a6 a6';have a8:=rep_len (f:=cvF) (fun _ _ _=>by simp [cvF,Mk.bind]) KC s7;rw [h8] at a8;have a10:=rep_len (f:=glF RG.length FN.length) (fun _ _ _=>by simp [glF,Mk.bind]) KG s9;have a10':=rep_all (f:=glF RG.length FN.length) (GlOk RG.length) (n:=KG) (s:=s9) (a:=[]) (by simp) fun i L s _ h=>all_snoc h (glyph_ok i RG.length FN.length s)
 rw [h10] at a10 a10';have a11:=Mk.rep_inv (f:=chF KG) (a:=[]) (s:=s10) (n:=16) (fun i (L:List DChar)=>L.length<=i) (nR _) fun i L s _ h=>by
  obtain ⟨z,t1,hz⟩:∃ a b,Mk.next 4 s=(a,b):=⟨_,_,rfl⟩
  unfold chF;rw [Mk.bind_eq hz]
  split
  ·show (L++[_]).length<=i+1;simp;exact h
  ·exact Nat.le_succ_of_le h
 rw [h11] at a11;have a12:=lookups_len KG s11;have a12':=lookups_ok KG s11;rw [h12] at a12 a12';have a13:=Mk.rep_inv (f:=ftF LK.length) (a:=[]) (s:=s12) (n:=8) (fun i (L:List DFeature)=>L.length<=i/\∀ f∈L,f.name.size<=4/\f.lookups.length<=100) ⟨nR _,by simp⟩ fun i L s hi h=>by
  obtain ⟨T,t1,hT⟩:∃ a b,Mk.rep LK.length ftR [] s=(a,b):=⟨_,_,rfl⟩
  obtain ⟨z,t2,hz⟩:∃ a b,Mk.next 2 t1=(a,b):=⟨_,_,rfl⟩
  unfold ftF;rw [Mk.bind_eq hT,Mk.bind_eq hz];have hTl:=Mk.rep_inv (f:=ftR) (a:=[]) (s:=s) (n:=LK.length) (fun i (r:List Int)=>r.length<=i) (nR _) fun i r s _ h=>by
   show (if _ then _ else _:List Int).length<=i+1
   split
   ·simp;exact h
   ·exact Nat.le_succ_of_le h
  rw [hT] at hTl;simp only
  split
  ·refine ⟨by simp;exact h.1,all_snoc h.2 ⟨?_,nT hTl a12⟩⟩;simp only
   match i,hi with
   | 0,_=>decide
   | 1,_=>decide
   | 2,_=>decide
   | 3,_=>decide
   | 4,_=>decide
   | 5,_=>decide
   | 6,_=>decide
   | 7,_=>decide
  ·exact ⟨Nat.le_succ_of_le h.1,h.2⟩
 rw [h13] at a13;have e3:AX.length=KA:=a3.2;exact ⟨units_I64 U,by have:GL.length=KG:=a10;simp only;omega,a10',a11,a12,a12',a13.1,a13.2,by simp only;omega,a3.1,a4.2.1,fun r hr=>by have:=a4.1 r hr;rw [<- e3] at this;exact this,fun h0=>a4.2.2 (by rw [<- e3];exact h0),by have:FN.length=KF:=a6;simp only;omega,a6',by have:CV.length=KC:=a8;simp only;omega⟩
namespace Mr
theorem eachFrom_zero {α:Type} {f:Nat->α->Int}:∀ {l:List α} {i:Nat},(∀ k x,l[k]?=some x->f (i+k) x=0)->Ck.eachFrom f i l=(0,0)
 | [],_,_=>rfl
 | x::l,i,h=>by
  unfold Ck.eachFrom;rw [if_pos (show f i x=0 from h 0 x rfl)];exact eachFrom_zero fun k y hy=>by
   have:=h (k+1) y (by simpa using hy);rwa [show i+1+k=i+(k+1) by omega]
theorem each_zero {α:Type} {f:Nat->α->Int} {l:List α} (h:∀ k x,l[k]?=some x->f k x=0):Ck.each f l=(0,0):=eachFrom_zero fun k x hx=>by rw [Nat.zero_add];exact h k x hx
theorem each_all {α:Type} {f:α->Int} {l:List α} (h:∀ x∈l,f x=0):Ck.each (fun _ x=>f x) l=(0,0):=each_zero fun _ x hx=>h x (List.mem_of_getElem? hx)
theorem some_zero {α:Type} {m:Nat} {f:Nat->α->Int} {l:List α} (hl:l.length<=m) (h:∀ k x,l[k]?=some x->f k x=0):Ck.some m f l=(0,0):=by
 unfold Ck.some;rw [if_neg (by omega)];exact each_zero h
theorem some_all {α:Type} {m:Nat} {f:α->Int} {l:List α} (hl:l.length<=m) (h:∀ x∈l,f x=0):Ck.some m (fun _ x=>f x) l=(0,0):=some_zero hl fun _ x hx=>h x (List.mem_of_getElem? hx)
theorem may_in {x:Int} (h1:-16384<=x) (h2:x<=16384):Ck.may x=true:=by unfold Ck.may;rw [dT h1,dT h2];rfl
theorem isGlyph_in {n:Nat} {x:Int} (h1:0<=x) (h2:x<n):Ck.isGlyph n x=true:=by unfold Ck.isGlyph;rw [dT h1,dT h2];rfl
theorem of_ite {α:Type} {P:α->Prop} {c:Prop} [Decidable c] {a b:α} (h1:c->P a) (h2:¬ c->P b):P (if c then a else b):=by
 by_cases h:c
 ·rw [if_pos h];exact h1 h
 ·rw [if_neg h];exact h2 h
def InOk (i:DIns):Prop:=1<=i.op/\i.op<=39/\-1000000<=i.a/\i.a<=1000000
theorem ins_zero {i:DIns} (h:InOk i):Ck.ins i=0:=by
 unfold InOk at h;unfold Ck.ins;rw [if_neg (by omega),if_neg (by omega)]
theorem program_zero {l:List DIns} (hl:l.length<=200) (h:∀ i∈l,InOk i):Ck.program l=0:=by
 unfold Ck.program;rw [some_all (f:=Ck.ins) hl fun i hi=>ins_zero (h i hi)]
theorem rest_ok {q:Int} (h1:-100000<=q) (h2:q<=100000):∀ i∈Mk.rest q,InOk i:=by
 intro i hi;simp only [Mk.rest,List.mem_cons,List.not_mem_nil,or_false] at hi;rcases hi with rfl | rfl | rfl | rfl | rfl | rfl <;> (unfold InOk;simp only;omega)
theorem piece_ok (n funcs:Int) (hn:0<=n) (hn1:n<=1000) (hf:funcs<=1000) (s:Mk.S):∀ i∈(Mk.piece n funcs s).1,InOk i:=by
 obtain ⟨p,s1,h1⟩:∃ a b,Mk.next (n+1) s=(a,b):=⟨_,_,rfl⟩
 obtain ⟨q,s2,h2⟩:∃ a b,Mk.next (n+1) s1=(a,b):=⟨_,_,rfl⟩
 obtain ⟨a,s3,h3⟩:∃ a b,Mk.next 2 s2=(a,b):=⟨_,_,rfl⟩
 obtain ⟨c,s4,h4⟩:∃ a b,Mk.next 12 s3=(a,b):=⟨_,_,rfl⟩
 have i1:=next_in (by omega) h1;have i2:=next_in (by omega) h2;have i3:=next_in (by decide) h3;unfold Mk.piece;rw [Mk.bind_eq h1,Mk.bind_eq h2,Mk.bind_eq h3,Mk.bind_eq h4];unfold Mk.pieceC;have hq:=rest_ok (q:=q) (by omega) (by omega);clear h1 h2 h3 h4;refine of_ite (P:=fun x:List DIns×Mk.S=>∀ i∈x.1,InOk i) (fun hf0=>?_) fun _=>?_
 ·intro i hi;simp only [List.mem_cons,List.not_mem_nil,or_false] at hi;rcases hi with rfl | rfl <;> (unfold InOk;simp only;omega)
 refine of_ite (P:=fun x:List DIns×Mk.S=>∀ i∈x.1,InOk i) (fun hf0=>?_) fun _=>?_
 ·obtain ⟨v,t1,hv⟩:∃ a b,Mk.next 6 s4=(a,b):=⟨_,_,rfl⟩
  have iv:=next_in (by decide) hv;rw [Mk.bind_eq hv];intro i hi;simp only [List.mem_cons,List.not_mem_nil,or_false] at hi;subst hi;unfold InOk;simp only;omega
 refine of_ite (P:=fun x:List DIns×Mk.S=>∀ i∈x.1,InOk i) (fun hf0=>?_) fun _=>?_
 ·intro i hi;simp only [List.mem_cons,List.not_mem_nil,or_false] at hi;rcases hi with rfl | rfl | rfl | rfl | rfl <;> (unfold InOk;simp only;omega)
 refine of_ite (P:=fun x:List DIns×Mk.S=>∀ i∈x.1,InOk i) (fun hf0=>?_) fun _=>?_
 ·intro i hi;simp only [List.mem_cons,List.not_mem_nil,or_false] at hi;rcases hi with rfl | rfl | rfl | rfl | rfl <;> (unfold InOk;simp only;omega)
 refine of_ite (P:=fun x:List DIns×Mk.S=>∀ i∈x.1,InOk i) (fun hf0=>?_) fun _=>?_
 ·obtain ⟨v,t1,hv⟩:∃ a b,Mk.next 200 s4=(a,b):=⟨_,_,rfl⟩
  have iv:=next_in (by decide) hv;rw [Mk.bind_eq hv];intro i hi;simp only [List.mem_cons,List.not_mem_nil,or_false] at hi;rcases hi with rfl | rfl | rfl <;> (unfold InOk;simp only;omega)
 refine of_ite (P:=fun x:List DIns×Mk.S=>∀ i∈x.1,InOk i) (fun hf0=>?_) fun _=>?_
 ·intro i hi;simp only [List.mem_cons,List.not_mem_nil,or_false] at hi;rcases hi with rfl | rfl | rfl <;> (unfold InOk;simp only;omega)
 refine of_ite (P:=fun x:List DIns×Mk.S=>∀ i∈x.1,InOk i) (fun hf0=>?_) fun _=>?_
 ·intro i hi;simp only [List.mem_cons,List.not_mem_nil,or_false] at hi;subst hi;unfold InOk;simp only;omega
 refine of_ite (P:=fun x:List DIns×Mk.S=>∀ i∈x.1,InOk i) (fun hf0=>?_) fun _=>?_
 ·intro i hi;simp only [List.mem_cons,List.not_mem_nil,or_false] at hi;rcases hi with rfl | rfl | rfl | rfl | rfl | rfl <;> (unfold InOk;simp only;omega)
 refine of_ite (P:=fun x:List DIns×Mk.S=>∀ i∈x.1,InOk i) (fun hf0=>?_) fun _=>?_
 ·refine of_ite (P:=fun x:List DIns×Mk.S=>∀ i∈x.1,InOk i) (fun hf0=>?_) fun _=>?_
  ·obtain ⟨v,t1,hv⟩:∃ a b,Mk.next funcs s4=(a,b):=⟨_,_,rfl⟩
   have iv:=next_in hf0 hv;rw [Mk.bind_eq hv];intro i hi;simp only [List.mem_cons,List.not_mem_nil,or_false] at hi;subst hi;unfold InOk;simp only;omega
  ·exact hq
 refine of_ite (P:=fun x:List DIns×Mk.S=>∀ i∈x.1,InOk i) (fun hf0=>?_) fun _=>?_
 ·refine of_ite (P:=fun x:List DIns×Mk.S=>∀ i∈x.1,InOk i) (fun hf0=>?_) fun _=>?_
  ·obtain ⟨v,t1,hv⟩:∃ a b,Mk.next 5 ⟨s4.r,s4.lp - 1⟩=(a,b):=⟨_,_,rfl⟩
   obtain ⟨u,t2,hu⟩:∃ a b,Mk.next funcs t1=(a,b):=⟨_,_,rfl⟩
   have iv:=next_in (by decide) hv;have iu:=next_in hf0.1 hu;rw [Mk.bind_eq hv,Mk.bind_eq hu];intro i hi;simp only [List.mem_cons,List.not_mem_nil,or_false] at hi;rcases hi with rfl | rfl <;> (unfold InOk;simp only;omega)
  ·exact hq
 refine of_ite (P:=fun x:List DIns×Mk.S=>∀ i∈x.1,InOk i) (fun hf0=>?_) fun _=>?_
 ·intro i hi;simp only [List.mem_cons,List.not_mem_nil,or_false] at hi;rcases hi with rfl | rfl | rfl | rfl | rfl | rfl | rfl | rfl | rfl <;> (unfold InOk;simp only;omega)
 ·exact hq
theorem hint_ok (n funcs most:Int) (hn:0<=n) (hn1:n<=1000) (hf:funcs<=1000) (s:Mk.S):∀ i∈(Mk.hint n funcs most s).1,InOk i:=by
 obtain ⟨k,s1,h1⟩:∃ a b,Mk.next most s=(a,b):=⟨_,_,rfl⟩
 rw [Mk.hint_eq h1];refine rep_all (f:=hintF n funcs) InOk (by simp) fun i L s _ h=>?_
 show ∀ x∈L++(Mk.piece n funcs s).1,InOk x;intro x hx;rcases List.mem_append.1 hx with hx | hx
 ·exact h x hx
 ·exact piece_ok n funcs hn hn1 hf s x hx
theorem ends_right {n:Nat}:∀ {l:List Int} {a:Int},EndsOk a l n->Ck.endsFrom n a l=true
 | [],a,h=>by unfold EndsOk at h;unfold Ck.endsFrom;rw [h];simp
 | e::r,a,h=>by
  unfold Ck.endsFrom;have h1:=h.1;have h2:=h.2.1;rw [dF (by omega:¬ (n:Int)<=e),dF (by omega:¬ e<a+2),ends_right h.2.2];rfl
theorem point_zero {p:DPoint} (h:PtIn p):Ck.point p=0:=by
 unfold PtIn at h;unfold Ck.point;rw [may_in (by omega) (by omega),may_in (by omega) (by omega)];rfl
theorem contours_right {pts:List DPoint} {ends:List Int} (h1:pts.length<=200) (h2:ends.length<=40) (h3:∀ p∈pts,PtIn p) (h4:EndsOk (-1) ends pts.length):Ck.contours pts ends=true:=by
 unfold Ck.contours;rw [dF (by omega),dF (by omega),ends_right h4];have:(pts.all fun p=>Ck.may p.x && Ck.may p.y)=true:=List.all_eq_true.2 fun p hp=>by
  have:=h3 p hp;unfold PtIn at this;rw [may_in (by omega) (by omega),may_in (by omega) (by omega)];rfl
 rw [this];rfl
theorem shape_zero {nr:Nat} {g:DGlyph} (h:GlOk nr g):Ck.shape g=0:=by
 have ha:=h.adv;have hl:=h.ptl;have he:=h.endl;unfold Ck.shape;rw [if_neg (by omega),if_neg (by omega),each_all (f:=Ck.point) fun p hp=>point_zero (h.pts p hp),if_neg (by simp),contours_right (by omega) (by omega) h.pts h.ends];rfl
def KS (c:Int):List (Int×Int):=[(1,0),(1,1),(3,0),(4,0),(2,c)]
def AnOk (mark:Bool) (c:Int) (a:DAnchor):Prop:=0<=a.x/\a.x<=1000/\-200<=a.y/\a.y<=800/\(a.kind=2->mark=true)
theorem ks_at (c:Int):∀ i,i<5->(KS c).take (i+1)=(KS c).take i++[(KS c).getD i (0,0)]
 | 0,_=>rfl
 | 1,_=>rfl
 | 2,_=>rfl
 | 3,_=>rfl
 | 4,_=>rfl
theorem anchors_inv (mark:Bool) (s:Mk.S):∃ c,(c=0∨c=1)/\((Mk.anchors mark s).1.map fun a=>(a.kind,a.cls)).Sublist (KS c)/\∀ a∈(Mk.anchors mark s).1,AnOk mark c a:=by
 obtain ⟨c,s1,h1⟩:∃ a b,Mk.next 2 s=(a,b):=⟨_,_,rfl⟩
 have i1:=next_in (by decide) h1;have e:Mk.anchors mark s=Mk.rep 5 (anG mark c) [] s1:=by unfold Mk.anchors;rw [Mk.bind_eq h1];rfl
 rw [e];refine ⟨c,by omega,?_⟩;have key:=Mk.rep_inv (f:=anG mark c) (a:=[]) (s:=s1) (n:=5) (fun i (L:List DAnchor)=>(L.map fun a=>(a.kind,a.cls)).Sublist ((KS c).take i)/\∀ a∈L,AnOk mark c a) ⟨List.Sublist.refl _,by simp⟩ fun i L s hi h=>by
  obtain ⟨z,t1,hz⟩:∃ a b,Mk.next 3 s=(a,b):=⟨_,_,rfl⟩
  unfold anG;rw [Mk.bind_eq hz,ks_at c i hi];simp only
  split
  ·rename_i hc;obtain ⟨x,t2,hx⟩:∃ a b,Mk.next 21 t1=(a,b):=⟨_,_,rfl⟩
   obtain ⟨y,t3,hy⟩:∃ a b,Mk.next 21 t2=(a,b):=⟨_,_,rfl⟩
   have ix:=next_in (by decide) hx;have iy:=next_in (by decide) hy;rw [Mk.bind_eq hx,Mk.bind_eq hy];refine ⟨?_,all_snoc h.2 ⟨by simp only;omega,by simp only;omega,by simp only;omega,by simp only;omega,fun h2=>?_⟩⟩
   ·rw [List.map_append];exact h.1.append (List.Sublist.refl _)
   ·rcases hc.2 with h3 | h3
    ·exact absurd h2 h3
    ·exact h3
  ·exact ⟨h.1.trans (List.sublist_append_left _ _),h.2⟩
 exact ⟨key.1,key.2⟩
theorem ks_nodup (c:Int) (h:c=0∨c=1):(KS c).Nodup:=by rcases h with rfl | rfl <;> decide
theorem ks_in {c:Int} (h:c=0∨c=1) {p:Int×Int} (hp:p∈KS c):1<=p.1/\p.1<=4/\0<=p.2/\p.2<=1/\((p.1=3∨p.1=4)->p.2=0):=by
 simp only [KS,List.mem_cons,List.not_mem_nil,or_false] at hp;rcases hp with rfl | rfl | rfl | rfl | rfl <;> refine ⟨?_,?_,?_,?_,?_⟩ <;> first | decide | (simp only;omega)
theorem anchors_zero {mark:Bool} {l:List DAnchor} {c:Int} (hc:c=0∨c=1) (hs:(l.map fun a=>(a.kind,a.cls)).Sublist (KS c)) (h:∀ a∈l,AnOk mark c a) (hl:l.length<=5):Ck.anchors mark l=(0,0):=by
 unfold Ck.anchors;refine some_zero (by omega) fun k a hk=>?_
 have hm:=List.mem_of_getElem? hk;have ha:=h a hm;have hin:=ks_in hc (hs.subset (mM (f:=fun a:DAnchor=>(a.kind,a.cls)) hm));have hmet:((l.take k).any fun b=>b.kind == a.kind && b.cls == a.cls)=false:=by
  rw [List.any_eq_false];intro b hb hbe;simp only [Bool.and_eq_true,beq_iff_eq] at hbe;have hnd:=(ks_nodup c hc).sublist hs;rw [<- List.take_append_drop k l,List.map_append,List.nodup_append] at hnd;have ha2:a∈l.drop k:=by
   have hkl:=(gI.1 hk).1;have e:l[k]=a:=(gI.1 hk).2;rw [<- List.getElem_cons_drop hkl,e];exact List.mem_cons_self
  exact hnd.2.2 _ (mM (f:=fun a:DAnchor=>(a.kind,a.cls)) hb) _ (mM (f:=fun a:DAnchor=>(a.kind,a.cls)) ha2) (by simp only [hbe.1,hbe.2])
 unfold Ck.anchor Ck.anchorB;rw [hmet];unfold AnOk at ha;have h34:(a.kind == 3 || a.kind == 4)=false∨(a.cls != 0)=false:=by
  by_cases h3:a.kind=3∨a.kind=4
  ·exact .inr (by have:=hin.2.2.2.2 h3;simp only at this;simp [this])
  ·exact .inl (by simp;omega)
 have h2:(a.kind == 2 && !mark)=false:=by
  by_cases h3:a.kind=2
  ·rw [ha.2.2.2.2 h3];simp
  ·simp [h3]
 rw [dF (by have:=hin.1;simp only at this;omega),dF (by have:=hin.2.1;simp only at this;omega),dF (by have:=hin.2.2.1;simp only at this;omega),dF (by have:=hin.2.2.2.1;simp only at this;omega),h2,may_in (by omega) (by omega),may_in (by omega) (by omega)];rcases h34 with h34 | h34
 ·rw [h34];rfl
 ·rw [h34,Bool.and_false];rfl
def Lx (a b:DDelta):Prop:=a.region<b.region∨(a.region=b.region/\a.point<b.point)
theorem deltas_order (nr np:Nat) (s:Mk.S):(Mk.deltas nr np s).1.Pairwise Lx:=by
 show (Mk.rep nr (deR np) [] s).1.Pairwise Lx;refine (Mk.rep_inv (f:=deR np) (fun i (L:List DDelta)=>L.Pairwise Lx/\∀ d∈L,d.region<i) ⟨List.Pairwise.nil,by simp⟩ fun r L s hr h=>?_).1;have key:=Mk.rep_inv (f:=deP r) (a:=L) (s:=s) (n:=np+1) (fun i (M:List DDelta)=>M.Pairwise Lx/\∀ d∈M,d.region<r∨(d.region=r/\d.point<(i:Int) - 1)) ⟨h.1,fun d hd=>.inl (h.2 d hd)⟩ fun p M s hp hM=>by
  have snoc:∀ d:DDelta,d.region=r->d.point=(p:Int) - 1->(M++[d]).Pairwise Lx/\∀ e∈M++[d],e.region<r∨(e.region=r/\e.point<((p+1:Nat):Int) - 1):=fun d h1 h2=>by
   refine ⟨List.pairwise_append.2 ⟨hM.1,List.pairwise_singleton _ _,fun a ha b hb=>?_⟩,all_snoc (fun e he=>?_) (.inr ⟨h1,by omega⟩)⟩
   ·rw [mI.1 hb];unfold Lx;have:=hM.2 a ha;omega
   ·have:=hM.2 e he;omega
  obtain ⟨z,t1,hz⟩:∃ a b,Mk.next 3 s=(a,b):=⟨_,_,rfl⟩
  unfold deP;rw [Mk.bind_eq hz]
  split
  ·obtain ⟨x,t2,hx⟩:∃ a b,Mk.next 41 t1=(a,b):=⟨_,_,rfl⟩
   rw [Mk.bind_eq hx]
   split
   ·exact snoc _ rfl (by simp only;omega)
   ·obtain ⟨y,t3,hy⟩:∃ a b,Mk.next 41 t2=(a,b):=⟨_,_,rfl⟩
    rw [Mk.bind_eq hy];exact snoc _ rfl rfl
  ·exact ⟨hM.1,fun e he=>by have:=hM.2 e he;omega⟩
 exact ⟨key.1,fun d hd=>by have:=key.2 d hd;omega⟩
theorem deltas_zero {nr np:Nat} {l:List DDelta} (hl:l.length<=400) (h:∀ d∈l,DeIn nr np d) (ho:l.Pairwise Lx):Ck.deltas nr np l=(0,0):=by
 unfold Ck.deltas;refine some_zero hl fun k d hk=>?_
 have hd:=h d (List.mem_of_getElem? hk);unfold DeIn at hd;unfold Ck.delta
 rw [if_neg (by omega),may_in (by omega) (by omega),may_in (by omega) (by omega),if_neg (by
  rintro (h1 | h1 | h1 | h1)
  ·omega
  ·omega
  ·simp at h1
  ·exact h1.2 (hd.2.2.2.2.2.2.2.2 h1.1))]
 cases k with
 | zero=>rw [if_neg (by omega)]
 | succ k =>
  have hkl:=(gI.1 hk).1;have e:l[k+1]=d:=(gI.1 hk).2;have hp:=List.pairwise_iff_getElem.1 ho k (k+1) (by omega) hkl (by omega);rw [e] at hp;have hs:Ck.spotAt l (k+1)=(l[k].region,l[k].point):=by show (match l[k]? with | Option.some d=>((d.region,d.point):Int×Int) | Option.none=>(0,0))=_;rw [gE (by omega)]
  rw [hs];unfold Lx at hp;rw [if_neg (by omega)]
structure Gl (n nr:Nat) (g:DGlyph):Prop where
 name:Ck.isName g.name=true
 shape:Ck.shape g=0
 parl:g.parts.length<=1
 par:∀ p∈g.parts,Ck.part n p=0
 anc:Ck.anchors g.mark g.anchors=(0,0)
 del:Ck.deltas nr g.pts.length g.deltas=(0,0)
 hinl:g.hint.length<=199
 hint:∀ i∈g.hint,InOk i
 ptl:g.pts.length<=10
theorem Gl.zero {n nr:Nat} {g:DGlyph} {nm:Int} (h:Gl n nr g) (hn:nm=0):Ck.glyph n nr g nm=0:=by
 unfold Ck.glyph;rw [hn,h.shape,some_all (f:=Ck.part n) (by have:=h.parl;omega) h.par,h.anc,h.del,program_zero (by have:=h.hinl;omega) h.hint];rfl
def gname (i:Nat):ByteArray:=if i=0 then (⟨#[46,110,111,116,100,101,102]⟩:ByteArray) else Mk.gname i
theorem gname_right:∀ i,i<11->Ck.isName (gname i)=true
 | 0,_=>by decide
 | 1,_=>by decide
 | 2,_=>by decide
 | 3,_=>by decide
 | 4,_=>by decide
 | 5,_=>by decide
 | 6,_=>by decide
 | 7,_=>by decide
 | 8,_=>by decide
 | 9,_=>by decide
 | 10,_=>by decide
theorem parts_in (n:Nat) (s:Mk.S):(Mk.parts n s).1=[]∨(1<n/\∃ x y,(Mk.parts n s).1=[⟨1,x,y⟩]/\-200<=x/\x<=200/\0<=y/\y<=200):=by
 unfold Mk.parts
 split
 ·rename_i hn;obtain ⟨z,t1,hz⟩:∃ a b,Mk.next 4 s=(a,b):=⟨_,_,rfl⟩
  rw [Mk.bind_eq hz]
  split
  ·obtain ⟨x,t2,hx⟩:∃ a b,Mk.next 9 t1=(a,b):=⟨_,_,rfl⟩
   obtain ⟨y,t3,hy⟩:∃ a b,Mk.next 5 t2=(a,b):=⟨_,_,rfl⟩
   have ix:=next_in (by decide) hx;have iy:=next_in (by decide) hy;unfold Mk.partsY;rw [Mk.bind_eq hx,Mk.bind_eq hy];exact .inr ⟨hn,_,_,rfl,by omega,by omega,by omega,by omega⟩
  ·exact .inl rfl
 ·exact .inl rfl
structure GlN (N nr n:Nat) (g:DGlyph):Prop where
 right:Gl N nr g
 nm:g.name=gname n
 low:g.parts=[]∨(1<n/\∃ x y,g.parts=[⟨1,x,y⟩])
theorem glyph_right (n nr nf N:Nat) (s:Mk.S) (hn:n<11) (hN:2<=N) (hnr:nr<=3) (hnf:nf<=1000):GlN N nr n (Mk.glyph n nr nf s).1:=by
 have hok:=glyph_ok n nr nf s;obtain ⟨a,s1,h1⟩:∃ a b,Mk.next 19 s=(a,b):=⟨_,_,rfl⟩
 obtain ⟨k,s2,h2⟩:∃ a b,Mk.next 4 s1=(a,b):=⟨_,_,rfl⟩
 obtain ⟨o,s3,h3⟩:∃ a b,Mk.outline s2=(a,b):=⟨_,_,rfl⟩
 obtain ⟨p,s4,h4⟩:∃ a b,Mk.parts n s3=(a,b):=⟨_,_,rfl⟩
 obtain ⟨an,s5,h5⟩:∃ a b,Mk.anchors (decide (n≠0) && decide (k=0)) s4=(a,b):=⟨_,_,rfl⟩
 obtain ⟨de,s6,h6⟩:∃ a b,Mk.deltas nr o.pts.length s5=(a,b):=⟨_,_,rfl⟩
 obtain ⟨hi,s7,h7⟩:∃ a b,Mk.hint o.pts.length nf 6 ⟨s6.r,2⟩=(a,b):=⟨_,_,rfl⟩
 have e:Mk.glyph n nr nf s=(⟨gname n,100+a*50,decide (n≠0) && decide (k=0),o.pts,o.ends,p,an,de,hi⟩,s7):=by
  unfold Mk.glyph;rw [Mk.bind_eq h1,Mk.bind_eq h2,Mk.bind_eq h3,Mk.bind_eq h4];simp only;rw [Mk.bind_eq h5,Mk.bind_eq h6,Mk.bind_eq h7];rfl
 rw [e] at hok ⊢;have a3:=parts_in n s3;rw [h4] at a3;obtain ⟨c,hc,a4,a5⟩:=anchors_inv (decide (n≠0) && decide (k=0)) s4;rw [h5] at a4 a5;have a6:=deltas_order nr o.pts.length s5;rw [h6] at a6;have hpl:=hok.ptl;have a7:=hint_ok o.pts.length nf 6 (by omega) (by simp only at hpl;omega) (by omega) ⟨s6.r,2⟩;rw [h7] at a7;refine ⟨⟨gname_right n hn,shape_zero hok,hok.parl,?_,anchors_zero hc a4 a5 hok.ancl,deltas_zero (by have:=hok.dell;omega) hok.del a6,by have:=hok.hinl;omega,a7,hpl⟩,rfl,?_⟩
 ·intro q hq;simp only at a3 hq;rcases a3 with h | ⟨-,x,y,h,b1,b2,b3,b4⟩
  ·rw [h] at hq;cases hq
  ·rw [h] at hq;rw [mI.1 hq];unfold Ck.part;rw [isGlyph_in (by simp only;omega) (by simp only;omega),may_in (by simp only;omega) (by simp only;omega),may_in (by simp only;omega) (by simp only;omega)];rfl
 ·simp only at a3;rcases a3 with h | ⟨hn1,x,y,h,-⟩
  ·exact .inl h
  ·exact .inr ⟨hn1,x,y,h⟩
end Mr
namespace Mr
structure SetN (n:Int) (l:List Int):Prop where
 some:l≠[]
 rise:l.Pairwise (· < ·)
 mem:∀ x∈l,0<=x/\x<n
theorem SetN.snoc {i n:Int} {l:List Int} (h:SetN i l) (h0:0<=i) (hi:i<n):SetN (i+1) (l++[i]) :=
 ⟨by simp,List.pairwise_append.2 ⟨h.rise,List.pairwise_singleton _ _,fun a ha b hb=>by rw [mI.1 hb];exact (h.mem a ha).2⟩,all_snoc (fun x hx=>by have:=h.mem x hx;omega) (by omega)⟩
theorem SetN.more {i n:Int} {l:List Int} (h:SetN i l) (hi:i<=n):SetN n l:=⟨h.some,h.rise,fun x hx=>by have:=h.mem x hx;omega⟩
theorem setL_in {n:Int}:∀ (f:Nat) (i:Int) (l:List Int) (s:Mk.S),SetN i l->0<=i->i<=n->SetN n (Mk.setL n f i l s).1
 | 0,i,l,s,h,h0,hi=>h.more hi
 | f+1,i,l,s,h,h0,hi=>by
  unfold Mk.setL;refine of_ite (P:=fun x:List Int×Mk.S=>SetN n x.1) (fun hc=>?_) fun _=>h.more hi
  obtain ⟨z,t1,hz⟩:∃ a b,Mk.next 3 s=(a,b):=⟨_,_,rfl⟩
  rw [Mk.bind_eq hz];refine setL_in f (i+1) _ t1 ?_ (by omega) (by omega);exact of_ite (P:=fun x:List Int=>SetN (i+1) x) (fun _=>h.snoc h0 hc.1) fun _=>h.more (by omega)
theorem set_in {n:Int} (hn:0<n) (s:Mk.S):SetN n (Mk.set n s).1:=by
 obtain ⟨a,s1,h1⟩:∃ a b,Mk.next n s=(a,b):=⟨_,_,rfl⟩
 have i1:=next_in hn h1;unfold Mk.set;rw [Mk.bind_eq h1];exact setL_in _ _ _ _ ⟨by simp,List.pairwise_singleton _ _,by intro x hx;rw [mI.1 hx];omega⟩ (by omega) (by omega)
theorem rising_of:∀ {l:List Int},l.Pairwise (· < ·)->Ck.rising l=true
 | [],_=>rfl
 | [_],_=>rfl
 | a::b::l,h=>by
  unfold Ck.rising;rw [dT ((List.pairwise_cons.1 h).1 b (by simp)),rising_of (List.pairwise_cons.1 h).2];rfl
theorem isSet_of {n:Nat} {l:List Int} (h:SetN n l):Ck.isSet n l=true:=by
 have hl:0<l.length:=List.length_pos_iff.2 h.some;unfold Ck.isSet;have g:∀ k,k<l.length->Ck.isGlyph n (l.getD k 0)=true:=fun k hk=>by
  rw [List.getD_eq_getElem?_getD,gE hk];exact isGlyph_in (h.mem _ (List.getElem_mem hk)).1 (h.mem _ (List.getElem_mem hk)).2
 rw [dT hl,rising_of h.rise,g 0 hl,g (l.length - 1) (by omega)];rfl
theorem row_in {n most:Int} (hn:0<n) (hm:0<=most) (s:Mk.S):∀ x∈(Mk.row n most s).1,SetN n x:=by
 obtain ⟨k,s1,h1⟩:∃ a b,Mk.next (most+1) s=(a,b):=⟨_,_,rfl⟩
 rw [Mk.row_eq h1];exact rep_all (f:=rowF n) (SetN n) (by simp) fun i L s _ h=>by
  show ∀ x∈L++[(Mk.set n s).1],SetN n x;exact all_snoc h (set_in hn s)
theorem nexts_in {n:Int} (hn:0<n) (k:Nat) (s:Mk.S):∀ x∈(Mk.nexts n k s).1,0<=x/\x<n :=
 rep_all (f:=fun _ l s=>Mk.bind (Mk.next n s) fun x s=>(l++[x],s)) (fun x=>0<=x/\x<n) (by simp) fun i L s _ h=>by
  obtain ⟨z,t1,hz⟩:∃ a b,Mk.next n s=(a,b):=⟨_,_,rfl⟩
  have iz:=next_in hn hz;rw [Mk.bind_eq hz];exact all_snoc h ⟨iz.1,iz.2.1⟩
theorem ifrow_in (c:Prop) [Decidable c] {n:Int} (hn:0<n) (s:Mk.S):(∀ x∈(if c then Mk.row n 2 s else ([],s)).1,SetN n x)/\(if c then Mk.row n 2 s else ([],s)).1.length<=2:=by
 refine of_ite (P:=fun x:List (List Int)×Mk.S=>(∀ y∈x.1,SetN n y)/\x.1.length<=2) (fun _=>⟨row_in hn (by decide) s,(row_all n 2 (by decide) s).2⟩) fun _=>⟨by simp,Nat.zero_le _⟩
def CallsOk (lk:List DLookup) (C:List Int):Prop:=∀ q∈C,0<=q/\∃ l,lk[q.toNat]?=some l/\1<=l.kind/\l.kind<=4
theorem CallsOk.more {lk t:List DLookup} {C:List Int} (h:CallsOk lk C):CallsOk (lk++t) C:=fun q hq=>by
 obtain ⟨h0,l,h1,h2⟩:=h q hq;refine ⟨h0,l,?_,h2⟩;rw [List.getElem?_append_left (gI.1 h1).1,h1]
theorem rule_zero {n:Nat} {lk:List DLookup} {kind:Int} {r:DRule} (hb:r.back.length<=6) (hi:r.ins.length<=6) (ha:r.ahead.length<=6)
  (hk:(if kind=1∨kind=2∨kind=5 then r.ins.length != 1 else if kind=6 then r.ins.length != 2 || decide (0<r.back.length) || decide (0<r.ahead.length) else r.ins.length == 0)=false)
  (sb:∀ x∈r.back,SetN n x) (si:∀ x∈r.ins,SetN n x) (sa:∀ x∈r.ahead,SetN n x) (ho:Ck.rightOut kind r=true) (hg:∀ x∈r.out,0<=x/\x<n) (hc:Ck.calls lk kind r=0)
  (hx:-16384<=r.x/\r.x<=16384) (hx6:kind=6∨r.x=0):Ck.rule n lk kind r=0:=by
 unfold Ck.rule;have e1:Ck.rows kind r=0:=by unfold Ck.rows;rw [if_neg (by omega),hk];rfl
 have e2:Ck.each (fun _ l=>Ck.when (!Ck.isSet n l) 41) (r.back++r.ins++r.ahead)=(0,0):=each_all (f:=fun l=>Ck.when (!Ck.isSet n l) 41) fun x hx=>by
  rw [List.mem_append,List.mem_append] at hx;rcases hx with (hx | hx) | hx
  ·rw [isSet_of (sb x hx)];rfl
  ·rw [isSet_of (si x hx)];rfl
  ·rw [isSet_of (sa x hx)];rfl
 have e3:Ck.each (fun _ g=>Ck.when (!Ck.isGlyph n g) 32) r.out=(0,0):=each_all (f:=fun g=>Ck.when (!Ck.isGlyph n g) 32) fun x hx=>by rw [isGlyph_in (hg x hx).1 (hg x hx).2];rfl
 have e4:(r.x != 0 && kind != 6)=false:=by rcases hx6 with h | h <;> simp [h]
 rw [e1,e2,ho,e3,hc,may_in hx.1 hx.2,e4];rfl
theorem calls_none {lk:List DLookup} {kind:Int} {r:DRule} (h:r.calls=[]):Ck.calls lk kind r=0:=by unfold Ck.calls;rw [h];rfl
theorem two {n:Int} {a b:List Int} (ha:SetN n a) (hb:SetN n b):∀ x∈[a,b],SetN n x:=fun x hx=>by
 simp only [List.mem_cons,List.not_mem_nil,or_false] at hx;rcases hx with rfl | rfl
 ·exact ha
 ·exact hb
theorem rule_right (n:Nat) (hn:0<n) (kind:Int) (hk:1<=kind/\kind<=6) (C:List Int) (s:Mk.S) (lk:List DLookup) (hC:CallsOk lk C):Ck.rule n lk kind (Mk.rule n kind C s).1=0:=by
 have hn':(0:Int)<n:=by omega
 obtain ⟨a,s1,h1⟩:∃ a b,Mk.set n s=(a,b):=⟨_,_,rfl⟩
 have ha:SetN n a:=by have:=set_in hn' s;rw [h1] at this;exact this
 have ha4:a.length<=4:=by have:=set_len n s;rw [h1] at this;exact this
 unfold Mk.rule;rw [Mk.bind_eq h1];have one:∀ x∈[a],SetN n x:=by intro x hx;obtain rfl:=mI.1 hx;exact ha
 have nil':∀ x∈([]:List (List Int)),SetN n x:=by simp
 refine of_ite (P:=fun x:DRule×Mk.S=>Ck.rule n lk kind x.1=0) (fun hk6=>?_) fun hk6=>?_
 ·obtain ⟨b,s2,h2⟩:∃ a b,Mk.set n s1=(a,b):=⟨_,_,rfl⟩
  obtain ⟨x,s3,h3⟩:∃ a b,Mk.next 41 s2=(a,b):=⟨_,_,rfl⟩
  have hb:SetN n b:=by have:=set_in hn' s1;rw [h2] at this;exact this
  have i3:=next_in (by decide) h3;rw [Mk.bind_eq h2,Mk.bind_eq h3];refine rule_zero (by simp) (by simp) (by simp) ?_ nil' (two ha hb) nil' ?_ (by simp) (calls_none rfl) (by simp only;omega) (.inl hk6)
  ·rw [hk6];rfl
  ·rw [hk6];rfl
 obtain ⟨z,s2,h2⟩:∃ a b,Mk.next 2 s1=(a,b):=⟨_,_,rfl⟩
 obtain ⟨bk,s3,h3⟩:∃ a b,(if z=0 then Mk.row n 2 s2 else ([],s2))=(a,b):=⟨_,_,rfl⟩
 obtain ⟨ah,s4,h4⟩:∃ a b,(if z=0 then Mk.row n 2 s3 else ([],s3))=(a,b):=⟨_,_,rfl⟩
 have b3:=ifrow_in (z=0) hn' s2;have b4:=ifrow_in (z=0) hn' s3;rw [h3] at b3;rw [h4] at b4;simp only at b3 b4;rw [Mk.bind_eq h2,Mk.bind_eq h3,Mk.bind_eq h4];have hb6:bk.length<=6:=by have:=b3.2;omega
 have ha6:ah.length<=6:=by have:=b4.2;omega
 have more:∀ s,(∀ x∈a::(Mk.row n 2 s).1,SetN n x)/\(a::(Mk.row n 2 s).1).length<=6:=fun s=>by
  have h8:(Mk.row n 2 s).1.length<=2:=(row_all n 2 (by decide) s).2;refine ⟨fun x hx=>?_,by rw [List.length_cons];omega⟩;rcases List.mem_cons.1 hx with rfl | hx
  ·exact ha
  ·exact row_in hn' (by decide) s x hx
 refine of_ite (P:=fun x:DRule×Mk.S=>Ck.rule n lk kind x.1=0) (fun hk1=>?_) fun hk1=>?_
 ·obtain ⟨out,s5,h5⟩:∃ u v,Mk.nexts n a.length s4=(u,v):=⟨_,_,rfl⟩
  have o1:=nexts_in hn' a.length s4;have o2:=nexts_len n a.length s4;rw [h5] at o1 o2;rw [Mk.bind_eq h5];refine rule_zero hb6 (by simp) ha6 ?_ b3.1 one b4.1 ?_ o1 (calls_none rfl) (by simp) (.inr rfl)
  ·rw [if_pos (by omega)];rfl
  ·unfold Ck.rightOut;rw [if_pos hk1];simp [o2]
 refine of_ite (P:=fun x:DRule×Mk.S=>Ck.rule n lk kind x.1=0) (fun hk2=>?_) fun hk2=>?_
 ·obtain ⟨k,s5,h5⟩:∃ a b,Mk.next 4 s4=(a,b):=⟨_,_,rfl⟩
  have i5:=next_in (by decide) h5;obtain ⟨out,s6,h6⟩:∃ a b,Mk.nexts n k.toNat s5=(a,b):=⟨_,_,rfl⟩
  have o1:=nexts_in hn' k.toNat s5;have o2:=nexts_len n k.toNat s5;rw [h6] at o1 o2;simp only at o2;rw [Mk.bind_eq h5,Mk.bind_eq h6];refine rule_zero hb6 (by simp) ha6 ?_ b3.1 one b4.1 ?_ o1 (calls_none rfl) (by simp) (.inr rfl)
  ·rw [if_pos (by omega)];rfl
  ·unfold Ck.rightOut;rw [if_neg (by omega),if_pos hk2];simp only;exact dT (by omega)
 refine of_ite (P:=fun x:DRule×Mk.S=>Ck.rule n lk kind x.1=0) (fun hk3=>?_) fun hk3=>?_
 ·obtain ⟨mo,s5,h5⟩:∃ a b,Mk.row n 2 s4=(a,b):=⟨_,_,rfl⟩
  obtain ⟨x,s6,h6⟩:∃ a b,Mk.next n s5=(a,b):=⟨_,_,rfl⟩
  have i6:=next_in hn' h6;have hm:=more s4;rw [h5] at hm;rw [Mk.bind_eq h5,Mk.bind_eq h6];refine rule_zero hb6 hm.2 ha6 ?_ b3.1 hm.1 b4.1 ?_ (by intro y hy;rw [mI.1 hy];exact ⟨i6.1,i6.2.1⟩) (calls_none rfl) (by simp) (.inr rfl)
  ·rw [if_neg (by omega),if_neg (by omega)];rfl
  ·unfold Ck.rightOut;rw [if_neg (by omega),if_neg (by omega),if_pos hk3];rfl
 have hk4:kind=4:=by omega
 obtain ⟨mo,s5,h5⟩:∃ a b,Mk.row n 2 s4=(a,b):=⟨_,_,rfl⟩
 obtain ⟨k,s6,h6⟩:∃ a b,Mk.next 3 s5=(a,b):=⟨_,_,rfl⟩
 have i6:=next_in (by decide) h6;have hm:=more s4;rw [h5] at hm;obtain ⟨cs,s7,h7⟩:∃ u v,(if C.length=0 then (([]:List DCall),s6) else Mk.rep k.toNat (fun _ l s=>Mk.bind (Mk.next ((a::mo).length:Int) s) fun p s=>Mk.bind (Mk.next (C.length:Int) s) fun q s=>(l++[(⟨p,C.getD q.toNat 0⟩:DCall)],s)) [] s6)=(u,v):=⟨_,_,rfl⟩
 have hcs:cs.length<=6/\∀ c∈cs,Ck.call lk (a::mo).length c=0:=by
  have key:=of_ite (c:=C.length=0) (P:=fun x:List DCall×Mk.S=>x.1.length<=6/\∀ c∈x.1,Ck.call lk (a::mo).length c=0) (a:=(([]:List DCall),s6)) (b:=Mk.rep k.toNat (fun _ l s=>Mk.bind (Mk.next ((a::mo).length:Int) s) fun p s=>Mk.bind (Mk.next (C.length:Int) s) fun q s=>(l++[(⟨p,C.getD q.toNat 0⟩:DCall)],s)) [] s6) (fun _=>⟨Nat.zero_le _,by simp⟩) fun hc0=>?_
  ·rw [h7] at key;exact key
  ·refine ⟨?_,?_⟩
   ·refine nT (Nat.le_of_eq (rep_len (f:=fun _ l s=>Mk.bind (Mk.next ((a::mo).length:Int) s) fun p s=>Mk.bind (Mk.next (C.length:Int) s) fun q s=>(l++[(⟨p,C.getD q.toNat 0⟩:DCall)],s)) (fun _ _ _=>by simp [Mk.bind]) k.toNat s6)) (by omega)
   ·refine rep_all (f:=fun _ l s=>Mk.bind (Mk.next ((a::mo).length:Int) s) fun p s=>Mk.bind (Mk.next (C.length:Int) s) fun q s=>(l++[(⟨p,C.getD q.toNat 0⟩:DCall)],s)) (fun c=>Ck.call lk (a::mo).length c=0) (by simp) fun i L s _ h=>?_
    obtain ⟨p,t1,hp⟩:∃ x y,Mk.next ((a::mo).length:Int) s=(x,y):=⟨_,_,rfl⟩
    obtain ⟨q,t2,hq⟩:∃ x y,Mk.next (C.length:Int) t1=(x,y):=⟨_,_,rfl⟩
    have ip:=next_in (by rw [List.length_cons];omega) hp;have iq:=next_in (by omega) hq;rw [Mk.bind_eq hp,Mk.bind_eq hq];refine all_snoc h ?_;have hql:q.toNat<C.length:=by omega
    have hqm:C.getD q.toNat 0∈C:=by rw [List.getD_eq_getElem?_getD,gE hql];exact List.getElem_mem hql
    obtain ⟨y0,l,y1,y2,y3⟩:=hC _ hqm;have y4:=(gI.1 y1).1;unfold Ck.call;rw [if_neg (by simp only;omega),if_neg (by simp only;omega)];simp only;rw [y1];simp only;rw [dF (by omega),dF (by omega)];rfl
 rw [Mk.bind_eq h5,Mk.bind_eq h6,Mk.bind_eq h7];refine rule_zero hb6 hm.2 ha6 ?_ b3.1 hm.1 b4.1 ?_ (by simp) ?_ (by simp) (.inr rfl)
 ·rw [if_neg (by omega),if_neg (by omega)];rfl
 ·unfold Ck.rightOut;rw [if_neg (by omega),if_neg (by omega),if_neg (by omega)];rfl
 ·unfold Ck.calls;rw [if_neg (by simp only;omega),if_neg (by omega),each_all (f:=Ck.call lk (a::mo).length) hcs.2]
structure LkR (n:Nat) (C:List Int) (d:DLookup):Prop where
 kind:1<=d.kind/\d.kind<=8
 few:d.rules.length<=60
 none:7<=d.kind->d.rules=[]
 rule:∀ r∈d.rules,∀ lk,CallsOk lk C->Ck.rule n lk d.kind r=0
theorem LkR.zero {n:Nat} {C:List Int} {d:DLookup} (h:LkR n C d) {lk:List DLookup} (hC:CallsOk lk C):Ck.lookup n lk d=0:=by
 have hk:=h.kind;have hf:=h.few;unfold Ck.lookup;rw [if_neg (by omega),dF (by omega),each_all (f:=Ck.rule n lk d.kind) fun r hr=>h.rule r hr lk hC];have:((d.kind == 7 || d.kind == 8) && decide (0<d.rules.length))=false:=by
  by_cases h7:7<=d.kind
  ·rw [h.none h7];simp
  ·rw [show (d.kind == 7)=false by simp;omega,show (d.kind == 8)=false by simp;omega];rfl
 rw [this];rfl
theorem lk1_calls (k:Nat) (s:Mk.S):∀ q∈(Mk.rep k lk1F ([],[]) s).1.2,∃ (j:Nat) (d:DLookup),q=(j:Int)/\(Mk.rep k lk1F ([],[]) s).1.1[j]?=some d/\d.kind<=4:=by
 refine (Mk.rep_inv (f:=lk1F) (fun i (p:List DLookup×List Int)=>p.1.length=i/\∀ q∈p.2,∃ (j:Nat) (d:DLookup),q=(j:Int)/\p.1[j]?=some d/\d.kind<=4) ⟨rfl,by simp⟩ fun i p s hi h=>?_).2;unfold lk1F Mk.bind;refine ⟨by simp [h.1],fun q hq=>?_⟩;simp only at hq ⊢;have old:∀ q∈p.2,∃ (j:Nat) (d:DLookup),q=(j:Int)/\(p.1++[(⟨Mk.kinds.getD (Mk.next 10 s).1.toNat 0,decide ((Mk.next 3 (Mk.next 10 s).2).1=0),[]⟩:DLookup)])[j]?=some d/\d.kind<=4:=fun q hq=>by
  obtain ⟨j,d,h1,h2,h3⟩:=h.2 q hq;exact ⟨j,d,h1,by rw [List.getElem?_append_left (gI.1 h2).1,h2],h3⟩
 split at hq
 ·rename_i hk;rcases List.mem_append.1 hq with hq | hq
  ·exact old q hq
  ·exact ⟨i,_,mI.1 hq,by rw [<- h.1];exact List.getElem?_concat_length,hk⟩
 ·exact old q hq
theorem lookups_right (n:Nat) (hn:0<n) (s:Mk.S):(Mk.lookups n s).1.length<=6/\∀ t,∀ d∈(Mk.lookups n s).1,Ck.lookup n ((Mk.lookups n s).1++t) d=0:=by
 obtain ⟨k,s1,h1⟩:∃ a b,Mk.next 7 s=(a,b):=⟨_,_,rfl⟩
 have i1:=next_in (by decide) h1;obtain ⟨⟨D,C⟩,s2,h2⟩:∃ a b,Mk.rep k.toNat lk1F ([],[]) s1=(a,b):=⟨_,_,rfl⟩
 rw [Mk.lookups_eq h1 h2];have h3:=lk1_inv k.toNat s1;have h4:=lk1_calls k.toNat s1;rw [h2] at h3 h4;simp only at h3 h4;have key:=Mk.rep_inv (f:=lk2F n D C) (a:=[]) (s:=s2) (n:=D.length) (fun i (L:List DLookup)=>L.map (·.kind)=(D.map (·.kind)).take i/\∀ d∈L,LkR n C d) ⟨rfl,by simp⟩ fun i L s hi h=>by
  have hd:D[i]?=some D[i]:=gE hi;have hdk:=h3.2.2 D[i] (List.getElem_mem hi);have hsn:∀ d:DLookup,d.kind=D[i].kind->(L++[d]).map (·.kind)=(D.map (·.kind)).take (i+1):=fun d hd=>by
   rw [List.map_append,h.1,List.take_succ_eq_append_getElem (by simpa using hi)];simp [hd]
  unfold lk2F;rw [hd];simp only;refine of_ite (P:=fun x:List DLookup×Mk.S=>x.1.map (·.kind)=(D.map (·.kind)).take (i+1)/\∀ d∈x.1,LkR n C d) (fun h7=>?_) fun h7=>?_
  ·exact ⟨hsn _ rfl,all_snoc h.2 ⟨⟨hdk.1,hdk.2.1⟩,by rw [hdk.2.2];simp,fun _=>hdk.2.2,by rw [hdk.2.2];simp⟩⟩
  ·obtain ⟨x,t1,hx⟩:∃ a b,Mk.next 3 s=(a,b):=⟨_,_,rfl⟩
   have ix:=next_in (by decide) hx;rw [Mk.bind_eq hx];refine ⟨hsn _ rfl,all_snoc h.2 ⟨⟨hdk.1,hdk.2.1⟩,?_,fun h9=>absurd h9 h7,?_⟩⟩
   ·show (Mk.rep (1+x).toNat (lkRF n D[i].kind C) [] t1).1.length<=60;rw [rep_len (f:=lkRF n D[i].kind C) (fun _ _ _=>by simp [lkRF,Mk.bind])];omega
   ·exact rep_all (f:=lkRF n D[i].kind C) (fun r=>∀ lk,CallsOk lk C->Ck.rule n lk D[i].kind r=0) (by simp) fun j L s _ h=>all_snoc h fun lk hC=>rule_right n hn D[i].kind ⟨hdk.1,by omega⟩ C s lk hC
 obtain ⟨LK,t,hLK⟩:∃ a b,Mk.rep D.length (lk2F n D C) [] s2=(a,b):=⟨_,_,rfl⟩
 rw [hLK] at key ⊢
 try simp only at key ⊢
 have hm:LK.map (·.kind)=D.map (·.kind):=key.1.trans (List.take_of_length_le (by rw [List.length_map];exact nR _));have hlen:LK.length=D.length:=by have:=congrArg List.length hm;simpa using this
 have hC:CallsOk LK C:=fun q hq=>by
  obtain ⟨j,d,h5,h6,h7⟩:=h4 q hq;have hj:=(gI.1 h6).1;have hd:=(gI.1 h6).2;have hj':j<LK.length:=by omega
  refine ⟨by omega,LK[j],by rw [h5];exact gE hj',?_⟩;have e:LK[j].kind=D[j].kind:=by
   have h8:(LK.map (·.kind))[j]?=(D.map (·.kind))[j]?:=by rw [hm]
   simpa [hj',hj] using h8
  have:=h3.2.2 D[j] (List.getElem_mem hj);rw [e];rw [<- hd] at h7;exact ⟨this.1,h7⟩
 exact ⟨by omega,fun t d hd=>(key.2 d hd).zero hC.more⟩
end Mr
namespace Mr
theorem firstOf_not {α:Type} {nm:α->ByteArray} {l:List α} (h:(l.map nm).Nodup) {i:Nat} {x:α} (hx:l[i]?=some x):decide (Ck.firstOf nm l (nm x)<i)=false:=by
 refine dF fun hlt=>?_
 unfold Ck.firstOf at hlt;have hi:=(gI.1 hx).1;have he:=(gI.1 hx).2;obtain ⟨k,hk⟩:∃ k,k=l.findIdx fun y=>decide (nm y=nm x):=⟨_,rfl⟩
 rw [<- hk] at hlt;have hkl:k<l.length:=by omega
 have h1:nm l[k]=nm x:=by
  have:=List.findIdx_getElem (xs:=l) (p:=fun y=>decide (nm y=nm x)) (w:=by rw [<- hk];exact hkl);simp only [<- hk] at this;exact of_decide_eq_true this
 have h2:=List.pairwise_iff_getElem.1 h k i (by simpa using hkl) (by simpa using hi) hlt;rw [List.getElem_map,List.getElem_map,he] at h2;exact h2 h1
structure FR (F:DFont):Prop where
 unit:16<=F.unit/\F.unit<=4096
 gll:1<=F.glyphs.length/\F.glyphs.length<=400
 gl:∀ g∈F.glyphs,Gl F.glyphs.length F.regions.length g
 gn:(F.glyphs.map DGlyph.name).Nodup
 low:∀ i g,F.glyphs[i]?=some g->g.parts=[]∨(1<i/\∃ x y,g.parts=[⟨1,x,y⟩])
 ch:Ck.some 1000 (fun i x=>Ck.char F.glyphs.length x (Ck.late F.chars i x)) F.chars=(0,0)
 lkl:F.lookups.length<=40
 lk:∀ t,∀ d∈F.lookups,Ck.lookup F.glyphs.length (F.lookups++t) d=0
 ft:Ck.some 20 (fun i x=>Ck.feature F.lookups.length x (Ck.name (Ck.isLetters x.name) (decide (Ck.firstOf DFeature.name F.features x.name<i)))) F.features=(0,0)
 ax:Ck.some 3 (fun i x=>Ck.axis x (Ck.name (Ck.isName x.name) (decide (Ck.firstOf DAxis.name F.axes x.name<i)))) F.axes=(0,0)
 rg:Ck.some 16 (fun _ x=>Ck.region F.axes.length x) F.regions=(0,0)
 fn:Ck.some 20 (fun _ x=>Ck.program x) F.funcs=(0,0)
 cv:Ck.some 64 (fun _ x=>Ck.when (!Ck.may x) 1) F.cvt=(0,0)
theorem FR.looks {F:DFont} (h:FR F) {fg fl fx fr:Hd} (e1:fg.n=F.glyphs.length) (e2:fl.n=F.lookups.length) (e3:fx.n=F.axes.length) (e4:fr.n=F.regions.length) :
  Ck.first (Ck.fontLooks F.unit fg fl fx fr (0,0) F.glyphs F.chars F.lookups F.features F.axes F.regions F.funcs F.cvt)=(0,0):=by
 have hu:=h.unit;have hg:=h.gll;have c1:Ck.headN F.unit F.glyphs.length=0:=by unfold Ck.headN;rw [if_neg (by omega),if_neg (by omega)]
 have c2:Ck.some 400 (fun i x=>Ck.glyph F.glyphs.length F.regions.length x (Ck.name (Ck.isName x.name) (decide (Ck.firstOf DGlyph.name F.glyphs x.name<i)))) F.glyphs=(0,0):=some_zero hg.2 fun k x hx=>by
  have hx2:=h.gl x (List.mem_of_getElem? hx);refine hx2.zero ?_;rw [hx2.name,firstOf_not h.gn hx];rfl
 have c3:Ck.some 40 (fun _ x=>Ck.lookup F.glyphs.length F.lookups x) F.lookups=(0,0):=some_all (f:=Ck.lookup F.glyphs.length F.lookups) h.lkl fun d hd=>by have:=h.lk [] d hd;rwa [List.append_nil] at this
 unfold Ck.fontLooks;rw [e1,e2,e3,e4,c1,c2,h.ch,c3,h.ft,h.ax,h.rg,h.fn,h.cv];rfl
def own (gl:List DGlyph) (g:Nat):Nat:=match gl[g]? with | some x=>x.pts.length | none=>0
def D (gl:List DGlyph) (g:Nat):Nat:=(Ln.partsOf gl g).length
def Q (gl:List DGlyph) (g:Nat):Nat:=if Ln.partsOf gl g=[] then own gl g else own gl g+own gl 1
theorem FR.parts {F:DFont} (h:FR F) (g:Nat):Ln.partsOf F.glyphs g=[]∨(1<g/\g<F.glyphs.length/\Ln.partsOf F.glyphs g=[1]):=by
 cases hx:F.glyphs[g]? with
 | none=>left;unfold Ln.partsOf;rw [hx]
 | some x =>
  rw [Ln.partsOf_at hx];have hg:=(gI.1 hx).1;rcases h.low g x hx with h1 | ⟨h1,a,b,h2⟩
  ·left;rw [h1];rfl
  ·right;refine ⟨h1,hg,?_⟩;rw [h2];have:isIn F.glyphs.length 1=true:=by unfold isIn;rw [dT (by decide),dT (by omega)];rfl
   unfold Ln.here;simp [this]
theorem FR.own_le {F:DFont} (h:FR F) (g:Nat):own F.glyphs g<=10:=by
 unfold own
 split
 ·rename_i x hx;exact (h.gl x (List.mem_of_getElem? hx)).ptl
 ·exact Nat.zero_le _
theorem FR.D_le {F:DFont} (h:FR F) (g:Nat):D F.glyphs g<=1:=by
 unfold D;rcases h.parts g with e | ⟨-,-,e⟩ <;> rw [e] <;> decide
theorem FR.Q_le {F:DFont} (h:FR F) (g:Nat):Q F.glyphs g<=20:=by
 have h1:=h.own_le g;have h2:=h.own_le 1;unfold Q
 split <;> omega
theorem FR.eqs {F:DFont} (h:FR F):Cp.Eqs F.glyphs.length (Ln.partsOf F.glyphs) (own F.glyphs) (D F.glyphs) (Q F.glyphs):=by
 have one:Ln.partsOf F.glyphs 1=[]:=by
  rcases h.parts 1 with e | ⟨h1,-⟩
  ·exact e
  ·omega
 have d1:D F.glyphs 1=0:=by unfold D;rw [one];rfl
 have q1:Q F.glyphs 1=own F.glyphs 1:=by unfold Q;rw [if_pos one]
 refine ⟨fun g hg=>?_,fun g hg=>?_⟩
 ·rcases h.parts g with e | ⟨-,-,e⟩
  ·unfold D;rw [e];rfl
  ·have:D F.glyphs g=1:=by unfold D;rw [e];rfl
   rw [this,e];show 1=Cp.stepD (D F.glyphs) 0 1;unfold Cp.stepD;rw [d1];rfl
 ·rcases h.parts g with e | ⟨-,-,e⟩
  ·unfold Q;rw [e];rfl
  ·have:Q F.glyphs g=own F.glyphs g+own F.glyphs 1:=by unfold Q;rw [e];rfl
   rw [this,e];show _=Cp.stepQ (Q F.glyphs) (own F.glyphs g) 1;unfold Cp.stepQ;rw [q1];have h1:=h.own_le g;have h2:=h.own_le 1;omega
theorem FR.lower {F:DFont} (h:FR F):∀ g,g<F.glyphs.length->∀ p∈Ln.partsOf F.glyphs g,p<g:=by
 intro g hg p hp;rcases h.parts g with e | ⟨h1,-,e⟩ <;> rw [e] at hp
 ·cases hp
 ·rw [mI.1 hp];exact h1
theorem FR.comp {F:DFont} (h:FR F):Ck.first (Ck.compRes ((List.range F.glyphs.length).map fun i=>((D F.glyphs i:Nat):Int)) ((List.range F.glyphs.length).map fun i=>((Q F.glyphs i:Nat):Int)))=(0,0):=by
 unfold Ck.compRes;have c1:Ck.each (fun _ d=>Ck.deepOk d) ((List.range F.glyphs.length).map fun i=>((D F.glyphs i:Nat):Int))=(0,0):=each_all (f:=Ck.deepOk) fun x hx=>by
  obtain ⟨i,-,rfl⟩:=List.mem_map.1 hx;have:=h.D_le i;unfold Ck.deepOk Ck.when;rw [dF (by omega)];rfl
 have c2:Ck.each (fun _ d=>Ck.manyOk d) ((List.range F.glyphs.length).map fun i=>((Q F.glyphs i:Nat):Int))=(0,0):=each_all (f:=Ck.manyOk) fun x hx=>by
  obtain ⟨i,-,rfl⟩:=List.mem_map.1 hx;have:=h.Q_le i;unfold Ck.manyOk Ck.when;rw [dF (by omega)];rfl
 rw [c1,c2];rfl
theorem FR.bare {F:DFont} (h:FR F):FR { F with features:=[] }:=⟨h.unit,h.gll,h.gl,h.gn,h.low,h.ch,h.lkl,h.lk,rfl,h.ax,h.rg,h.fn,h.cv⟩
def newChars (n:Nat) (r:Int):List DChar:=(List.range n).map fun i:Nat=>(⟨(i:Int)*100+r,(i:Int)⟩:DChar)
theorem FR.charred {F:DFont} (h:FR F) {r:Int} (h0:0<=r) (h1:r<100):FR { F with chars:=newChars F.glyphs.length r }:=by
 refine ⟨h.unit,h.gll,h.gl,h.gn,h.low,?_,h.lkl,h.lk,h.ft,h.ax,h.rg,h.fn,h.cv⟩;have hg:=h.gll;refine some_zero (by simp [newChars];omega) fun k x hx=>?_
 simp only [newChars,List.getElem?_map] at hx;obtain ⟨j,hj,rfl⟩:=Option.map_eq_some_iff.1 hx;obtain ⟨hk,e⟩:=gI.1 hj;rw [List.getElem_range] at e;subst e;rw [List.length_range] at hk;simp only at hk ⊢;unfold Ck.char;simp only;rw [if_neg (by omega),isGlyph_in (by omega) (by omega)];have hl:Ck.late (newChars F.glyphs.length r) k ⟨(k:Int)*100+r,k⟩=false:=by
  unfold Ck.late;cases k with
  | zero=>rfl
  | succ k =>
   have:(newChars F.glyphs.length r)[k+1 - 1]?=some ⟨(k:Int)*100+r,k⟩:=by
    simp only [newChars,List.getElem?_map,Nat.add_sub_cancel];rw [List.getElem?_range (by omega)];rfl
   rw [this];simp only;rw [dF (by omega:¬ (((k+1:Nat):Int)*100+r<=(k:Int)*100+r))];simp
 rw [hl];rfl
def newGlyph (g:DGlyph) (a:Int):DGlyph:={ g with parts:=[],hint:=g.hint++[⟨24,a⟩] }
theorem FR.last {F:DFont} (h:FR F) (hh:∀ g∈F.glyphs,g.hint.length<=100) {i:Nat} {g:DGlyph} (hg:F.glyphs[i]?=some g) {a:Int} (h0:0<=a) (h1:a<1000):FR { F with glyphs:=F.glyphs.set i (newGlyph g a) }:=by
 have hm:=List.mem_of_getElem? hg;obtain ⟨hi,he⟩:=gI.1 hg;have hx:=h.gl g hm;have hin:∀ y∈F.glyphs.set i (newGlyph g a),y∈F.glyphs∨y=newGlyph g a:=fun y hy=>List.mem_or_eq_of_mem_set hy
 refine ⟨h.unit,by simp only [List.length_set];exact h.gll,fun y hy=>?_,?_,fun j y hy=>?_,by simp only [List.length_set];exact h.ch,h.lkl,by simp only [List.length_set];exact h.lk,h.ft,h.ax,h.rg,h.fn,h.cv⟩
 ·simp only [List.length_set];rcases hin y hy with hy | rfl
  ·exact h.gl y hy
  ·exact ⟨hx.name,hx.shape,Nat.zero_le _,(by intro p hp;cases hp),hx.anc,hx.del,by have:=hh g hm;simp [newGlyph];omega,all_snoc hx.hint (show InOk ⟨24,a⟩ from ⟨(by decide:(1:Int)<=24),(by decide:(24:Int)<=39),by simp only;omega,by simp only;omega⟩),hx.ptl⟩
 ·have e:(F.glyphs.set i (newGlyph g a)).map DGlyph.name=F.glyphs.map DGlyph.name:=by
   rw [List.map_set];have:DGlyph.name (newGlyph g a)=(F.glyphs.map DGlyph.name)[i]'(by simpa using hi):=by rw [List.getElem_map,he];rfl
   rw [this,List.set_getElem_self]
  simp only;rw [e];exact h.gn
 ·simp only at hy;rw [List.getElem?_set] at hy
  split at hy
  ·rw [<- Option.some.inj hy];exact .inl rfl
  ·exact h.low j y hy
def newLookup (n:Nat):DLookup:=⟨4,false,[⟨[],[[0]],[],[],[⟨0,n⟩],0⟩]⟩
theorem FR.more {F:DFont} (h:FR F) (hl:F.lookups.length<=39):FR { F with lookups:=F.lookups++[newLookup F.lookups.length],features:=[] }:=by
 have hg:=h.gll;refine ⟨h.unit,h.gll,h.gl,h.gn,h.low,h.ch,by simp;omega,fun t d hd=>?_,rfl,h.ax,h.rg,h.fn,h.cv⟩;simp only at hd ⊢;rcases List.mem_append.1 hd with hd | hd
 ·rw [List.append_assoc];exact h.lk _ d hd
 ·rw [mI.1 hd];have s0:∀ x∈[[(0:Int)]],SetN F.glyphs.length x:=by
   intro x hx;rw [mI.1 hx];exact ⟨by simp,List.pairwise_singleton _ _,by intro y hy;rw [mI.1 hy];omega⟩
  have hr:Ck.rule F.glyphs.length (F.lookups++[newLookup F.lookups.length]++t) 4 ⟨[],[[0]],[],[],[⟨0,(F.lookups.length:Nat)⟩],0⟩=0:=by
   refine rule_zero (by simp) (by simp) (by simp) rfl (by simp) s0 (by simp) rfl (by simp) ?_ (by simp) (.inr rfl);unfold Ck.calls;rw [if_neg (by simp),if_neg (by simp)];show (Ck.each (fun _ c=>Ck.call (F.lookups++[newLookup F.lookups.length]++t) 1 c) [⟨0,(F.lookups.length:Nat)⟩]).1=0;rw [each_all (f:=Ck.call (F.lookups++[newLookup F.lookups.length]++t) 1) fun c hc=>?_];rw [mI.1 hc];unfold Ck.call;rw [if_neg (by simp),if_neg (by simp;omega)];have:(F.lookups++[newLookup F.lookups.length]++t)[((F.lookups.length:Nat):Int).toNat]?=some (newLookup F.lookups.length):=by
    rw [Int.toNat_natCast,List.getElem?_append_left (by simp)];exact List.getElem?_concat_length
   simp only;rw [this];rfl
  unfold Ck.lookup;rw [if_neg (by simp [newLookup])];have:Ck.each (fun _ r=>Ck.rule F.glyphs.length (F.lookups++[newLookup F.lookups.length]++t) (newLookup F.lookups.length).kind r) (newLookup F.lookups.length).rules=(0,0):=each_all (f:=Ck.rule F.glyphs.length (F.lookups++[newLookup F.lookups.length]++t) 4) fun r hr'=>by
   rw [mI.1 hr'];exact hr
  rw [this];rfl
end Mr
namespace Mr
theorem gname_nodup:((List.range 11).map gname).Nodup:=by decide
theorem names_of:∀ {GL:List DGlyph} {n:Nat},GL.length=n->n<=11->(∀ i g,GL[i]?=some g->g.name=gname i)->(GL.map DGlyph.name).Nodup:=by
 intro GL n hl hn h;have e:GL.map DGlyph.name=((List.range 11).map gname).take n:=by
  apply List.ext_getElem?;intro i;rw [List.getElem?_take]
  by_cases hi:i<n
  ·rw [if_pos hi,List.getElem?_map,List.getElem?_map,List.getElem?_range (by omega),gE (by omega)];simp only [Option.map_some];rw [h i _ (gE (by omega))]
  ·rw [if_neg hi,List.getElem?_eq_none (by rw [List.length_map];omega)]
 rw [e];exact gname_nodup.sublist (List.take_sublist _ _)
theorem take_snoc {α:Type} [Inhabited α] {l:List α} {i:Nat} (hi:i<l.length) (d:α):l.take (i+1)=l.take i++[l.getD i d]:=by
 rw [List.take_succ_eq_append_getElem hi,List.getD_eq_getElem?_getD,gE hi];rfl
theorem runes_up:Mk.runes.Pairwise (· < ·):=by decide
theorem runes_in:∀ x∈Mk.runes,0<=x/\x<=1114111:=by decide
theorem chars_right (n:Nat) (hn:0<n) (s:Mk.S):Ck.some 1000 (fun i x=>Ck.char n x (Ck.late (Mk.rep 16 (chF n) [] s).1 i x)) (Mk.rep 16 (chF n) [] s).1=(0,0):=by
 have key:=Mk.rep_inv (f:=chF n) (a:=[]) (s:=s) (n:=16) (fun i (L:List DChar)=>L.length<=i/\(L.map DChar.rune).Sublist (Mk.runes.take i)/\∀ c∈L,0<=c.glyph/\c.glyph<n) ⟨nR _,List.Sublist.refl _,by simp⟩ fun i L s hi h=>by
  obtain ⟨z,t1,hz⟩:∃ a b,Mk.next 4 s=(a,b):=⟨_,_,rfl⟩
  unfold chF;rw [Mk.bind_eq hz,take_snoc (l:=Mk.runes) hi 0];refine of_ite (P:=fun x:List DChar×Mk.S=>x.1.length<=i+1/\(x.1.map DChar.rune).Sublist (Mk.runes.take i++[Mk.runes.getD i 0])/\∀ c∈x.1,0<=c.glyph/\c.glyph<n) (fun _=>?_) fun _=>⟨Nat.le_succ_of_le h.1,h.2.1.trans (List.sublist_append_left _ _),h.2.2⟩
  obtain ⟨g,t2,hg⟩:∃ a b,Mk.next n t1=(a,b):=⟨_,_,rfl⟩
  have ig:=next_in (by omega) hg;rw [Mk.bind_eq hg];refine ⟨by simp;exact h.1,?_,all_snoc h.2.2 ⟨ig.1,ig.2.1⟩⟩;rw [List.map_append];exact h.2.1.append (List.Sublist.refl _)
 obtain ⟨L,t,hL⟩:∃ a b,Mk.rep 16 (chF n) [] s=(a,b):=⟨_,_,rfl⟩
 rw [hL] at key ⊢;simp only at key ⊢;have hs:(L.map DChar.rune).Sublist Mk.runes:=key.2.1;refine some_zero (by have:=key.1;omega) fun k x hx=>?_
 have hm:=List.mem_of_getElem? hx;have hr:=runes_in x.rune (hs.subset (mM (f:=DChar.rune) hm));have hg:=key.2.2 x hm;have hl:Ck.late L k x=false:=by
  unfold Ck.late;cases k with
  | zero=>rfl
  | succ k =>
   have hk:=(gI.1 hx).1;have he:=(gI.1 hx).2;have hp:=List.pairwise_iff_getElem.1 (runes_up.sublist hs) k (k+1) (by simp;omega) (by simpa using hk) (by omega);rw [List.getElem_map,List.getElem_map,he] at hp;rw [Nat.add_sub_cancel,gE (by omega)];simp only;rw [dF (by omega:¬ (x.rune<=L[k].rune))];simp
 unfold Ck.char;rw [if_neg (by omega),isGlyph_in hg.1 hg.2,hl];rfl
theorem names_nd:Mk.names.Nodup:=by decide
theorem names_letters:∀ x∈Mk.names,Ck.isLetters x=true:=by decide
theorem ftR_inv (n:Nat) (s:Mk.S):(Mk.rep n ftR [] s).1.Pairwise (· < ·)/\∀ x∈(Mk.rep n ftR [] s).1,0<=x/\x<n:=by
 refine Mk.rep_inv (f:=ftR) (fun i (L:List Int)=>L.Pairwise (· < ·)/\∀ x∈L,0<=x/\x<i) ⟨List.Pairwise.nil,by simp⟩ fun i L s hi h=>?_
 obtain ⟨z,t1,hz⟩:∃ a b,Mk.next 3 s=(a,b):=⟨_,_,rfl⟩
 unfold ftR;rw [Mk.bind_eq hz];simp only;refine of_ite (P:=fun y:List Int=>y.Pairwise (· < ·)/\∀ x∈y,0<=x/\x<((i+1:Nat):Int)) (fun _=>?_) fun _=>⟨h.1,fun x hx=>by have:=h.2 x hx;omega⟩
 exact ⟨List.pairwise_append.2 ⟨h.1,List.pairwise_singleton _ _,fun a ha b hb=>by rw [mI.1 hb];exact (h.2 a ha).2⟩,all_snoc (fun x hx=>by have:=h.2 x hx;omega) (by omega)⟩
theorem feature_zero {n:Nat} {x:DFeature} {nm:Int} (hn:nm=0) (hu:x.lookups.Pairwise (· < ·)) (hi:∀ l∈x.lookups,0<=l/\l<n):Ck.feature n x nm=0:=by
 unfold Ck.feature;rw [if_neg (by omega),each_zero fun k l hl=>?_];have h1:=hi l (List.mem_of_getElem? hl);rw [dF (by omega),dF (by omega)];cases k with
 | zero=>rfl
 | succ k =>
  have hk:=(gI.1 hl).1;have he:=(gI.1 hl).2;have hp:=List.pairwise_iff_getElem.1 hu k (k+1) (by omega) hk (by omega);rw [he] at hp;rw [Nat.add_sub_cancel,List.getD_eq_getElem?_getD,gE (by omega)];have e:decide (l<=(some x.lookups[k]).getD 0)=false:=dF (show ¬ l<=x.lookups[k] by omega);rw [e];simp [Ck.when]
theorem features_right (n:Nat) (s:Mk.S):Ck.some 20 (fun i x=>Ck.feature n x (Ck.name (Ck.isLetters x.name) (decide (Ck.firstOf DFeature.name (Mk.rep 8 (ftF n) [] s).1 x.name<i)))) (Mk.rep 8 (ftF n) [] s).1=(0,0):=by
 have key:=Mk.rep_inv (f:=ftF n) (a:=[]) (s:=s) (n:=8) (fun i (L:List DFeature)=>L.length<=i/\(L.map DFeature.name).Sublist (Mk.names.take i)/\∀ f∈L,f.lookups.Pairwise (· < ·)/\∀ l∈f.lookups,0<=l/\l<n) ⟨nR _,List.Sublist.refl _,by simp⟩ fun i L s hi h=>by
  obtain ⟨T,t1,hT⟩:∃ a b,Mk.rep n ftR [] s=(a,b):=⟨_,_,rfl⟩
  obtain ⟨z,t2,hz⟩:∃ a b,Mk.next 2 t1=(a,b):=⟨_,_,rfl⟩
  have hTi:=ftR_inv n s;rw [hT] at hTi;unfold ftF;rw [Mk.bind_eq hT,Mk.bind_eq hz,take_snoc (l:=Mk.names) hi ByteArray.empty];simp only;refine of_ite (P:=fun x:List DFeature=>x.length<=i+1/\(x.map DFeature.name).Sublist (Mk.names.take i++[Mk.names.getD i ByteArray.empty])/\∀ f∈x,f.lookups.Pairwise (· < ·)/\∀ l∈f.lookups,0<=l/\l<n) (fun _=>?_) fun _=>⟨Nat.le_succ_of_le h.1,h.2.1.trans (List.sublist_append_left _ _),h.2.2⟩
  refine ⟨by simp;exact h.1,?_,all_snoc h.2.2 hTi⟩;rw [List.map_append];exact h.2.1.append (List.Sublist.refl _)
 obtain ⟨L,t,hL⟩:∃ a b,Mk.rep 8 (ftF n) [] s=(a,b):=⟨_,_,rfl⟩
 rw [hL] at key ⊢;simp only at key ⊢;have hs:(L.map DFeature.name).Sublist Mk.names:=key.2.1;refine some_zero (by have:=key.1;omega) fun k x hx=>?_
 have hm:=List.mem_of_getElem? hx;refine feature_zero ?_ (key.2.2 x hm).1 (key.2.2 x hm).2;rw [names_letters _ (hs.subset (mM (f:=DFeature.name) hm)),firstOf_not (names_nd.sublist hs) hx];rfl
def aname (i:Nat):ByteArray:=(⟨#[97,120]⟩:ByteArray)++Mk.letter i
theorem axes_names (k:Nat) (s:Mk.S):(Mk.axes k s).1.map DAxis.name=(List.range k).map aname:=by
 rw [Mk.axes_eq];refine Mk.rep_inv (f:=axF) (fun i (L:List DAxis)=>L.map DAxis.name=(List.range i).map aname) rfl fun i L s _ h=>?_
 obtain ⟨x,s1,h1⟩:∃ a b,Mk.next 3 s=(a,b):=⟨_,_,rfl⟩
 obtain ⟨y,s2,h2⟩:∃ a b,Mk.next 4 s1=(a,b):=⟨_,_,rfl⟩
 unfold axF;rw [Mk.bind_eq h1,Mk.bind_eq h2,List.range_succ,List.map_append,List.map_append,h];rfl
theorem axes_right (k:Nat) (hk:k<=2) (s:Mk.S):Ck.some 3 (fun i x=>Ck.axis x (Ck.name (Ck.isName x.name) (decide (Ck.firstOf DAxis.name (Mk.axes k s).1 x.name<i)))) (Mk.axes k s).1=(0,0):=by
 have h1:=axes_ok k s;have h2:=axes_names k s;obtain ⟨L,t,hL⟩:∃ a b,Mk.axes k s=(a,b):=⟨_,_,rfl⟩
 rw [hL] at h1 h2 ⊢;simp only at h1 h2 ⊢;have hnd:(L.map DAxis.name).Nodup:=by
  rw [h2]
  match k,hk with
  | 0,_=>decide
  | 1,_=>decide
  | 2,_=>decide
 refine some_zero (by omega) fun i x hx=>?_
 have hm:=List.mem_of_getElem? hx;have ha:=h1.1 x hm;have hn:Ck.isName x.name=true:=by
  have:x.name∈(List.range k).map aname:=by rw [<- h2];exact mM hm
  match k,hk with
  | 0,_=>simp at this
  | 1,_=>simp [List.range_succ] at this;rw [this];decide
  | 2,_ =>
   simp [List.range_succ] at this;rcases this with h | h <;> rw [h] <;> decide
 unfold AxIn at ha;unfold Ck.axis;rw [hn,firstOf_not hnd hx,if_neg (by decide),may_in (by omega) (by omega),may_in (by omega) (by omega),may_in (by omega) (by omega),dT (by omega),dT (by omega)];rfl
theorem tents_zero:∀ t∈Mk.tents,Ck.tent t=0:=by
 intro t ht;simp only [Mk.tents,List.mem_cons,List.not_mem_nil,or_false] at ht;rcases ht with rfl | rfl | rfl | rfl | rfl <;> decide
theorem regions_right {k:Nat} {L:List DRegion} (hl:L.length<=3) (h:∀ r∈L,RgIn k r):Ck.some 16 (fun _ x=>Ck.region k x) L=(0,0):=by
 refine some_all (f:=Ck.region k) (by omega) fun r hr=>?_
 have h1:=h r hr;unfold Ck.region;rw [if_neg (by have:=h1.1;omega),each_all (f:=Ck.tent) fun t ht=>tents_zero t (h1.2 t ht)]
theorem units_in:∀ U,U<4->16<=Mk.units.getD U 0/\Mk.units.getD U 0<=4096
 | 0,_=>by decide
 | 1,_=>by decide
 | 2,_=>by decide
 | 3,_=>by decide
theorem made_right (l:List Int):FR (Mk.made l)/\(Mk.made l).lookups.length<=39/\(∀ g∈(Mk.made l).glyphs,g.hint.length<=100):=by
 have hok:=made_ok l;obtain ⟨u,s1,h1⟩:∃ a b,Mk.next 4 ⟨l,0⟩=(a,b):=⟨_,_,rfl⟩
 obtain ⟨ka,s2,h2⟩:∃ a b,Mk.next 3 s1=(a,b):=⟨_,_,rfl⟩
 have i1:=next_in (by decide) h1;have i2:=next_in (by decide) h2;obtain ⟨U,rfl⟩:∃ K:Nat,u=K:=⟨u.toNat,by omega⟩
 obtain ⟨KA,rfl⟩:∃ K:Nat,ka=K:=⟨ka.toNat,by omega⟩
 obtain ⟨AX,s3,h3⟩:∃ a b,Mk.rep KA axF [] s2=(a,b):=⟨_,_,rfl⟩
 obtain ⟨RG,s4,h4⟩:∃ a b,Mk.regions KA s3=(a,b):=⟨_,_,rfl⟩
 obtain ⟨kf,s5,h5⟩:∃ a b,Mk.next 3 s4=(a,b):=⟨_,_,rfl⟩
 have i5:=next_in (by decide) h5;obtain ⟨KF,rfl⟩:∃ K:Nat,kf=K:=⟨kf.toNat,by omega⟩
 obtain ⟨FN,s6,h6⟩:∃ a b,Mk.rep KF fnF [] s5=(a,b):=⟨_,_,rfl⟩
 obtain ⟨kc,s7,h7⟩:∃ a b,Mk.next 4 s6=(a,b):=⟨_,_,rfl⟩
 have i7:=next_in (by decide) h7;obtain ⟨KC,rfl⟩:∃ K:Nat,kc=K:=⟨kc.toNat,by omega⟩
 obtain ⟨CV,s8,h8⟩:∃ a b,Mk.rep KC cvF [] s7=(a,b):=⟨_,_,rfl⟩
 obtain ⟨kg,s9,h9⟩:∃ a b,Mk.next 9 s8=(a,b):=⟨_,_,rfl⟩
 have i9:=next_in (by decide) h9;obtain ⟨KG,hKG⟩:∃ K:Nat,2+kg=K:=⟨(2+kg).toNat,by omega⟩
 obtain ⟨GL,s10,h10⟩:∃ a b,Mk.rep KG (glF RG.length FN.length) [] s9=(a,b):=⟨_,_,rfl⟩
 obtain ⟨CH,s11,h11⟩:∃ a b,Mk.rep 16 (chF KG) [] s10=(a,b):=⟨_,_,rfl⟩
 obtain ⟨LK,s12,h12⟩:∃ a b,Mk.lookups KG s11=(a,b):=⟨_,_,rfl⟩
 obtain ⟨FT,s13,h13⟩:∃ a b,Mk.rep 8 (ftF LK.length) [] s12=(a,b):=⟨_,_,rfl⟩
 rw [made_eq h1 h2 h3 h4 h5 h6 h7 h8 h9 hKG h10 h11 h12 h13] at hok ⊢;have a3:=axes_right KA (by omega) s2;have a3l:=(axes_ok KA s2).2;rw [Mk.axes_eq,h3] at a3 a3l;have a4:=regions_ok KA s3;rw [h4] at a4;simp only at a3l a4;have a6:=rep_len (f:=fnF) (fun _ _ _=>by simp [fnF,Mk.bind]) KF s5
 have a6':=rep_all (f:=fnF) (fun c=>Ck.program c=0) (n:=KF) (s:=s5) (a:=[]) (by simp) fun i L s hi h=>all_snoc h (program_zero (by
  have:=hint_len 6 i 4 (by decide) ⟨s.r,0⟩;have h9:(Mk.hint 6 i 4 ⟨s.r,0⟩).1.length<=36:=this;show (Mk.hint 6 i 4 ⟨s.r,0⟩).1.length<=200
  omega) (hint_ok 6 i 4 (by decide) (by decide) (by omega) ⟨s.r,0⟩))
 rw [h6] at a6 a6';simp only at a6;have a8:=rep_len (f:=cvF) (fun _ _ _=>by simp [cvF,Mk.bind]) KC s7;have a8':=rep_all (f:=cvF) (fun x=>Ck.when (!Ck.may x) 1=0) (n:=KC) (s:=s7) (a:=[]) (by simp) fun i L s hi h=>by
  obtain ⟨x,t1,hx⟩:∃ a b,Mk.next 500 s=(a,b):=⟨_,_,rfl⟩
  have ix:=next_in (by decide) hx;unfold cvF;rw [Mk.bind_eq hx];exact all_snoc h (by rw [may_in (by omega) (by omega)];rfl)
 rw [h8] at a8 a8';simp only at a8;have a10:=Mk.rep_inv (f:=glF RG.length FN.length) (a:=[]) (s:=s9) (n:=KG) (fun i (L:List DGlyph)=>L.length=i/\∀ j g,L[j]?=some g->GlN KG RG.length j g) ⟨rfl,by simp⟩ fun i L s hi h=>by
  have hg:=glyph_right i RG.length FN.length KG s (by omega) (by omega) a4.2.1 (by omega);obtain ⟨g,t1,hgl⟩:∃ a b,Mk.glyph i RG.length FN.length s=(a,b):=⟨_,_,rfl⟩
  rw [hgl] at hg;unfold glF;rw [Mk.bind_eq hgl];refine ⟨by simp [h.1],fun j y hy=>?_⟩;rcases Nat.lt_trichotomy j i with hj | hj | hj
  ·rw [List.getElem?_append_left (by omega)] at hy;exact h.2 j y hy
  ·subst hj;have e:(L++[g])[j]?=some g:=by rw [<- h.1];exact List.getElem?_concat_length
   rw [e] at hy;rw [<- Option.some.inj hy];exact hg
  ·rw [List.getElem?_eq_none (by simp;omega)] at hy;cases hy
 rw [h10] at a10;simp only at a10;have a11:=chars_right KG (by omega) s10;rw [h11] at a11;have a12:=lookups_right KG (by omega) s11;rw [h12] at a12;simp only at a12;have a13:=features_right LK.length s12;rw [h13] at a13;obtain ⟨hGl,hG⟩:=a10;have hat:∀ g∈GL,∃ j,GL[j]?=some g:=fun g hg=>List.mem_iff_getElem?.1 hg
 refine ⟨⟨units_in U (by omega),by simp only;omega,fun g hg=>?_,names_of hGl (by omega) fun i g h=>(hG i g h).nm,fun i g h=>(hG i g h).low,?_,by have:=a12.1;simp only;omega,fun t d hd=>?_,a13,a3,?_,some_all (f:=Ck.program) (by simp only;omega) a6',some_all (f:=fun x=>Ck.when (!Ck.may x) 1) (by simp only;omega) a8'⟩,by have:=a12.1;simp only;omega,fun g hg=>?_⟩
 ·obtain ⟨j,hj⟩:=hat g hg;have:=(hG j g hj).right;rw [<- hGl] at this;exact this
 ·simp only;rw [hGl];exact a11
 ·simp only;rw [hGl];exact a12.2 t d hd
 ·simp only;rw [a3l];exact regions_right a4.2.1 a4.1
 ·have:=(hok.gl g hg).hinl;omega
end Mr
end Go.Proofs.YthheaflbbficgaaGreat
