/- MkOk, MkTiny. -/
import Derived.Test.YtlkkhkbafahchaaGMade
import Derived.Test.YtlkkhkbafahchaaGPri
set_option linter.all false
namespace Go.Proofs.Ytlkkhkbafahchaa
open Go.RowKit
theorem rep_all {α:Type} {f:Nat->List α->Mk.M (List α)} (P:α->Prop) {n:Nat} {s:Mk.S} {a:List α} (h0:∀ x∈a,P x) (hf:∀ i L s,i<n->(∀ x∈L,P x)->∀ x∈(f i L s).1,P x):∀ x∈(Mk.rep n f a s).1,P x :=
 Mk.rep_inv (f:=f) (fun _ (L:List α)=>∀ x∈L,P x) h0 fun i L s hi h=>hf i L s hi h
theorem all_snoc {α:Type} {P:α->Prop} {L:List α} {x:α} (h:∀ y∈L,P y) (hx:P x):∀ y∈L++[x],P y:=fun y hy=>by
 rcases List.mem_append.1 hy with hy | hy
 ·exact h y hy
 ·obtain rfl:=List.mem_singleton.1 hy;exact hx
def PtIn (p:DPoint):Prop:=-100<=p.x/\p.x<=900/\-200<=p.y/\p.y<=800
theorem point_in (p:Nat) (s:Mk.S):PtIn (Mk.point p s).1:=by
 obtain ⟨x,s1,h1⟩:∃ a b,Mk.next 21 s=(a,b):=⟨_,_,rfl⟩
 obtain ⟨y,s2,h2⟩:∃ a b,Mk.next 21 s1=(a,b):=⟨_,_,rfl⟩
 have i1:=next_in (by decide) h1;have i2:=next_in (by decide) h2;unfold Mk.point;rw [Mk.bind_eq h1,Mk.bind_eq h2]
 split
 ·unfold PtIn;simp only;omega
 ·obtain ⟨z,s3,h3⟩:∃ a b,Mk.next 4 s2=(a,b):=⟨_,_,rfl⟩
  rw [Mk.bind_eq h3];unfold PtIn;simp only;omega
def ptsF:Nat->List DPoint->Mk.M (List DPoint):=fun p l s=>Mk.bind (Mk.point p s) fun d s=>(l++[d],s)
def EndsOk:Int->List Int->Int->Prop
 | last,[],n=>last=n - 1
 | last,e::r,n=>last+2<=e/\e<n/\EndsOk e r n
theorem EndsOk.snoc {n n':Int}:∀ {l:List Int} {a:Int},EndsOk a l n->n+2<=n'->EndsOk a (l++[n' - 1]) n'
 | [],a,h,h2=>by unfold EndsOk at h;subst h;exact ⟨by omega,by omega,rfl⟩
 | e::r,a,h,h2=>⟨h.1,by have:=h.2.1;omega,EndsOk.snoc h.2.2 h2⟩
theorem outline_ok (s:Mk.S):(∀ p∈(Mk.outline s).1.pts,PtIn p)/\(Mk.outline s).1.ends.length<=2/\EndsOk (-1) (Mk.outline s).1.ends (Mk.outline s).1.pts.length:=by
 obtain ⟨n,s1,h1⟩:∃ a b,Mk.next 3 s=(a,b):=⟨_,_,rfl⟩
 have i1:=next_in (by decide) h1;unfold Mk.outline;rw [Mk.bind_eq h1];have key:=Mk.rep_inv (f:=fun _ o s=>Mk.contour o s) (a:=(⟨[],[]⟩:DOutline)) (s:=s1) (n:=n.toNat) (fun i (o:DOutline)=>(∀ p∈o.pts,PtIn p)/\o.ends.length<=i/\EndsOk (-1) o.ends o.pts.length) ⟨by simp,Nat.le_refl _,by simp [EndsOk]⟩ fun i o s hi h=>by
  obtain ⟨k,t1,hk⟩:∃ a b,Mk.next 4 s=(a,b):=⟨_,_,rfl⟩
  have ik:=next_in (by decide) hk;obtain ⟨P,t2,hP⟩:∃ a b,Mk.rep (2+k).toNat ptsF o.pts t1=(a,b):=⟨_,_,rfl⟩
  have hc:Mk.contour o s=(⟨P,o.ends++[(P.length:Int) - 1]⟩,t2):=by
   unfold Mk.contour;rw [Mk.bind_eq hk];show Mk.bind (Mk.rep (2+k).toNat ptsF o.pts t1) _=_;rw [Mk.bind_eq hP]
  rw [hc];have a1:=rep_all (f:=ptsF) PtIn (n:=(2+k).toNat) (s:=t1) h.1 fun i L s _ hL=>all_snoc hL (point_in i s)
  have a2:=Mk.rep_inv (f:=ptsF) (a:=o.pts) (s:=t1) (n:=(2+k).toNat) (fun i (L:List DPoint)=>L.length=o.pts.length+i) rfl fun i L s _ hL=>by
   show (L++[_]).length=_;simp;omega
  rw [hP] at a1 a2;refine ⟨a1,by simp;exact h.2.1,?_⟩;have a3:P.length=o.pts.length+(2+k).toNat:=a2;exact EndsOk.snoc h.2.2 (by omega)
 refine ⟨key.1,Nat.le_trans key.2.1 (by omega),key.2.2⟩
def DeIn (nr np:Nat) (d:DDelta):Prop:=0<=d.region/\d.region<nr/\-1<=d.point/\d.point<np/\-20<=d.x/\d.x<=20/\-20<=d.y/\d.y<=20/\(d.point=-1->d.y=0)
theorem deltas_ok (nr np:Nat) (s:Mk.S):(∀ d∈(Mk.deltas nr np s).1,DeIn nr np d)/\(Mk.deltas nr np s).1.length<=nr*(np+1):=by
 show (∀ d∈(Mk.rep nr (deR np) [] s).1,DeIn nr np d)/\(Mk.rep nr (deR np) [] s).1.length<=nr*(np+1)
 refine Mk.rep_inv (f:=deR np) (fun i (L:List DDelta)=>(∀ d∈L,DeIn nr np d)/\L.length<=i*(np+1)) ⟨by simp,by simp⟩ fun r L s hr h=>?_
 have key:=Mk.rep_inv (f:=deP r) (a:=L) (s:=s) (n:=np+1) (fun i (M:List DDelta)=>(∀ d∈M,DeIn nr np d)/\M.length<=L.length+i) ⟨h.1,Nat.le_refl _⟩ fun p M s hp hM=>by
  obtain ⟨z,t1,hz⟩:∃ a b,Mk.next 3 s=(a,b):=⟨_,_,rfl⟩
  unfold deP;rw [Mk.bind_eq hz]
  split
  ·obtain ⟨x,t2,hx⟩:∃ a b,Mk.next 41 t1=(a,b):=⟨_,_,rfl⟩
   have ix:=next_in (by decide) hx;rw [Mk.bind_eq hx]
   split
   ·exact ⟨all_snoc hM.1 (by refine ⟨?_,?_,?_,?_,?_,?_,?_,?_,?_⟩ <;> (try simp only) <;> (try intro _) <;> omega),by simp;omega⟩
   ·obtain ⟨y,t3,hy⟩:∃ a b,Mk.next 41 t2=(a,b):=⟨_,_,rfl⟩
    have iy:=next_in (by decide) hy;rw [Mk.bind_eq hy];exact ⟨all_snoc hM.1 (by refine ⟨?_,?_,?_,?_,?_,?_,?_,?_,?_⟩ <;> (try simp only) <;> (try intro _) <;> omega),by simp;omega⟩
  ·exact ⟨hM.1,by have:=hM.2;simp only;omega⟩
 refine ⟨key.1,?_⟩;have h1:=key.2;have h2:=h.2;have h3:(r+1)*(np+1)=r*(np+1)+(np+1):=by rw [Nat.add_mul,Nat.one_mul]
 exact Nat.le_trans h1 (by omega)
theorem hint_len (n funcs most:Int) (hm:0<most) (s:Mk.S):(Mk.hint n funcs most s).1.length<=9*most.toNat:=by
 obtain ⟨k,s1,h1⟩:∃ a b,Mk.next most s=(a,b):=⟨_,_,rfl⟩
 have i1:=next_in hm h1;rw [Mk.hint_eq h1];have key:=Mk.rep_inv (f:=hintF n funcs) (a:=[]) (s:=s1) (n:=k.toNat) (fun i (L:List DIns)=>L.length<=9*i) (Nat.le_refl _) fun i L s _ h=>by
  show (L++(Mk.piece n funcs s).1).length<=9*(i+1)
  have:=(Mk.piece_len n funcs s).1;rw [List.length_append];omega
 omega
def anG (mark:Bool) (c:Int):Nat->List DAnchor->Mk.M (List DAnchor):=fun i l s=>Mk.bind (Mk.next 3 s) fun z s =>
  let k:Int×Int:=[(1,0),(1,1),(3,0),(4,0),(2,c)].getD i (0,0)
  if z=0/\(k.1≠2∨mark=true) then Mk.bind (Mk.next 21 s) fun x s=>Mk.bind (Mk.next 21 s) fun y s=>(l++[⟨k.1,k.2,x*50,y*50 - 200⟩],s) else (l,s)
theorem anchors_len (mark:Bool) (s:Mk.S):(Mk.anchors mark s).1.length<=5:=by
 obtain ⟨c,s1,h1⟩:∃ a b,Mk.next 2 s=(a,b):=⟨_,_,rfl⟩
 have e:Mk.anchors mark s=Mk.rep 5 (anG mark c) [] s1:=by unfold Mk.anchors;rw [Mk.bind_eq h1];rfl
 rw [e];refine Mk.rep_inv (f:=anG mark c) (fun i (L:List DAnchor)=>L.length<=i) (Nat.le_refl _) fun i L s _ h=>?_
 obtain ⟨z,t1,hz⟩:∃ a b,Mk.next 3 s=(a,b):=⟨_,_,rfl⟩
 unfold anG;rw [Mk.bind_eq hz];simp only
 split
 ·show (L++[_]).length<=i+1;simp;exact h
 ·exact Nat.le_succ_of_le h
theorem parts_len (n:Nat) (s:Mk.S):(Mk.parts n s).1.length<=1:=by
 unfold Mk.parts
 split
 ·obtain ⟨z,t1,hz⟩:∃ a b,Mk.next 4 s=(a,b):=⟨_,_,rfl⟩
  rw [Mk.bind_eq hz]
  split
  ·unfold Mk.partsY Mk.bind;simp
  ·exact Nat.zero_le _
 ·exact Nat.zero_le _
structure GlOk (nr:Nat) (g:DGlyph):Prop where
 adv:100<=g.adv/\g.adv<=1000
 ptl:g.pts.length<=10
 pts:∀ p∈g.pts,PtIn p
 endl:g.ends.length<=2
 ends:EndsOk (-1) g.ends g.pts.length
 del:∀ d∈g.deltas,DeIn nr g.pts.length d
 dell:g.deltas.length<=nr*11
 parl:g.parts.length<=1
 ancl:g.anchors.length<=5
 hinl:g.hint.length<=54
 name:g.name.size<=7
theorem glyph_ok (n nr nf:Nat) (s:Mk.S):GlOk nr (Mk.glyph n nr nf s).1:=by
 obtain ⟨a,s1,h1⟩:∃ a b,Mk.next 19 s=(a,b):=⟨_,_,rfl⟩
 obtain ⟨k,s2,h2⟩:∃ a b,Mk.next 4 s1=(a,b):=⟨_,_,rfl⟩
 obtain ⟨o,s3,h3⟩:∃ a b,Mk.outline s2=(a,b):=⟨_,_,rfl⟩
 obtain ⟨p,s4,h4⟩:∃ a b,Mk.parts n s3=(a,b):=⟨_,_,rfl⟩
 obtain ⟨an,s5,h5⟩:∃ a b,Mk.anchors (decide (n≠0) && decide (k=0)) s4=(a,b):=⟨_,_,rfl⟩
 obtain ⟨de,s6,h6⟩:∃ a b,Mk.deltas nr o.pts.length s5=(a,b):=⟨_,_,rfl⟩
 obtain ⟨hi,s7,h7⟩:∃ a b,Mk.hint o.pts.length nf 6 ⟨s6.r,2⟩=(a,b):=⟨_,_,rfl⟩
 have i1:=next_in (by decide) h1;have e:Mk.glyph n nr nf s=(⟨if n=0 then (⟨#[46,110,111,116,100,101,102]⟩:ByteArray) else Mk.gname n,100+a*50,decide (n≠0) && decide (k=0),o.pts,o.ends,p,an,de,hi⟩,s7):=by
  unfold Mk.glyph;rw [Mk.bind_eq h1,Mk.bind_eq h2,Mk.bind_eq h3,Mk.bind_eq h4];simp only;rw [Mk.bind_eq h5,Mk.bind_eq h6,Mk.bind_eq h7]
 rw [e];have a1:=outline_len s2;have a2:=outline_ok s2;have a3:=parts_len n s3;have a4:=anchors_len (decide (n≠0) && decide (k=0)) s4;have a5:=deltas_ok nr o.pts.length s5;have a6:=hint_len o.pts.length nf 6 (by decide) ⟨s6.r,2⟩;rw [h3] at a1 a2;rw [h4] at a3;rw [h5] at a4;rw [h6] at a5;rw [h7] at a6;refine ⟨⟨by simp only;omega,by simp only;omega⟩,a1,a2.1,a2.2.1,a2.2.2,a5.1,Nat.le_trans a5.2 (Nat.mul_le_mul_left _ (by have:o.pts.length<=10:=a1;omega)),a3,a4,a6,?_⟩;simp only
 split
 ·decide
 ·show (2:Nat)<=7;decide
def SetT (l:List Int):Prop:=l.length<=4
theorem row_all (n most:Int) (hm:0<=most) (s:Mk.S):(∀ x∈(Mk.row n most s).1,SetT x)/\(Mk.row n most s).1.length<=most.toNat:=by
 obtain ⟨k,s1,h1⟩:∃ a b,Mk.next (most+1) s=(a,b):=⟨_,_,rfl⟩
 have i1:=next_in (by omega) h1;rw [Mk.row_eq h1];have key:=Mk.rep_inv (f:=rowF n) (a:=[]) (s:=s1) (n:=k.toNat) (fun i (L:List (List Int))=>(∀ x∈L,SetT x)/\L.length<=i) ⟨by simp,Nat.le_refl _⟩ fun i L s _ h=>by
  show (∀ x∈L++[(Mk.set n s).1],SetT x)/\(L++[(Mk.set n s).1]).length<=i+1;exact ⟨all_snoc h.1 (set_len n s),by simp;exact h.2⟩
 exact ⟨key.1,by have:=key.2;omega⟩
structure RuT (r:DRule):Prop where
 bl:r.back.length<=4
 b:∀ x∈r.back,SetT x
 il:r.ins.length<=4
 i:∀ x∈r.ins,SetT x
 al:r.ahead.length<=4
 a:∀ x∈r.ahead,SetT x
 ol:r.out.length<=4
 cl:r.calls.length<=4
theorem nexts_len (n:Int) (k:Nat) (s:Mk.S):(Mk.nexts n k s).1.length=k:=rep_len (f:=fun _ l s=>Mk.bind (Mk.next n s) fun x s=>(l++[x],s)) (fun _ _ _=>by simp [Mk.bind]) k s
theorem ifrow (c:Prop) [Decidable c] (n:Int) (s:Mk.S):(∀ x∈(if c then Mk.row n 2 s else ([],s)).1,SetT x)/\(if c then Mk.row n 2 s else ([],s)).1.length<=2:=by
 split
 ·exact row_all n 2 (by decide) s
 ·exact ⟨by simp,Nat.zero_le _⟩
theorem rule_ok (n kind:Int) (C:List Int) (s:Mk.S):RuT (Mk.rule n kind C s).1:=by
 obtain ⟨a,s1,h1⟩:∃ a b,Mk.set n s=(a,b):=⟨_,_,rfl⟩
 have ha:SetT a:=by have:=set_len n s;rw [h1] at this;exact this
 unfold Mk.rule;rw [Mk.bind_eq h1];have one:∀ x∈[a],SetT x:=by intro x hx;obtain rfl:=List.mem_singleton.1 hx;exact ha
 have none':∀ x∈([]:List (List Int)),SetT x:=by simp
 split
 ·obtain ⟨b,s2,h2⟩:∃ a b,Mk.set n s1=(a,b):=⟨_,_,rfl⟩
  have hb:SetT b:=by have:=set_len n s1;rw [h2] at this;exact this
  rw [Mk.bind_eq h2]
  exact ⟨Nat.zero_le _,none',by simp [Mk.bind],by
   intro x hx;simp only [Mk.bind,List.mem_cons,List.not_mem_nil,or_false] at hx;rcases hx with rfl | rfl
   ·exact ha
   ·exact hb,Nat.zero_le _,none',Nat.zero_le _,Nat.zero_le _⟩
 obtain ⟨z,s2,h2⟩:∃ a b,Mk.next 2 s1=(a,b):=⟨_,_,rfl⟩
 obtain ⟨bk,s3,h3⟩:∃ a b,(if z=0 then Mk.row n 2 s2 else ([],s2))=(a,b):=⟨_,_,rfl⟩
 obtain ⟨ah,s4,h4⟩:∃ a b,(if z=0 then Mk.row n 2 s3 else ([],s3))=(a,b):=⟨_,_,rfl⟩
 have b3:=ifrow (z=0) n s2;have b4:=ifrow (z=0) n s3;rw [h3] at b3;rw [h4] at b4;simp only at b3 b4;rw [Mk.bind_eq h2,Mk.bind_eq h3,Mk.bind_eq h4];have more:∀ s,(∀ x∈a::(Mk.row n 2 s).1,SetT x)/\(a::(Mk.row n 2 s).1).length<=4:=fun s=>by
  have h9:=row_all n 2 (by decide) s;have h8:(Mk.row n 2 s).1.length<=2:=h9.2;refine ⟨fun x hx=>?_,by rw [List.length_cons];omega⟩;rcases List.mem_cons.1 hx with rfl | hx
  ·exact ha
  ·exact h9.1 x hx
 split
 ·refine ⟨by have:=b3.2;show bk.length<=4;omega,b3.1,by simp [Mk.bind],one,by have:=b4.2;show ah.length<=4;omega,b4.1,?_,Nat.zero_le _⟩;show (Mk.nexts n a.length s4).1.length<=4;rw [nexts_len];exact ha
 split
 ·obtain ⟨k,s5,h5⟩:∃ a b,Mk.next 4 s4=(a,b):=⟨_,_,rfl⟩
  have i5:=next_in (by decide) h5;rw [Mk.bind_eq h5];refine ⟨by have:=b3.2;show bk.length<=4;omega,b3.1,by simp [Mk.bind],one,by have:=b4.2;show ah.length<=4;omega,b4.1,?_,Nat.zero_le _⟩;show (Mk.nexts n k.toNat s5).1.length<=4;rw [nexts_len];omega
 split
 ·obtain ⟨mo,s5,h5⟩:∃ a b,Mk.row n 2 s4=(a,b):=⟨_,_,rfl⟩
  have hm:=more s4;rw [h5] at hm;rw [Mk.bind_eq h5];exact ⟨by have:=b3.2;show bk.length<=4;omega,b3.1,hm.2,hm.1,by have:=b4.2;show ah.length<=4;omega,b4.1,by simp [Mk.bind],Nat.zero_le _⟩
 obtain ⟨mo,s5,h5⟩:∃ a b,Mk.row n 2 s4=(a,b):=⟨_,_,rfl⟩
 obtain ⟨k,s6,h6⟩:∃ a b,Mk.next 3 s5=(a,b):=⟨_,_,rfl⟩
 have hm:=more s4;rw [h5] at hm;have i6:=next_in (by decide) h6;rw [Mk.bind_eq h5,Mk.bind_eq h6];refine ⟨by have:=b3.2;show bk.length<=4;omega,b3.1,hm.2,hm.1,by have:=b4.2;show ah.length<=4;omega,b4.1,Nat.zero_le _,?_⟩;show (if C.length=0 then (([]:List DCall),s6) else Mk.rep k.toNat (fun _ l s=>Mk.bind (Mk.next ((a::mo).length:Int) s) fun p s=>Mk.bind (Mk.next (C.length:Int) s) fun q s=>(l++[(⟨p,C.getD q.toNat 0⟩:DCall)],s)) [] s6).1.length<=4
 split
 ·exact Nat.zero_le _
 ·refine Nat.le_trans (Nat.le_of_eq (rep_len (f:=fun _ l s=>Mk.bind (Mk.next ((a::mo).length:Int) s) fun p s=>Mk.bind (Mk.next (C.length:Int) s) fun q s=>(l++[(⟨p,C.getD q.toNat 0⟩:DCall)],s)) (fun _ _ _=>by simp [Mk.bind]) k.toNat s6)) ?_;omega
def LkT (d:DLookup):Prop:=d.rules.length<=4/\∀ r∈d.rules,RuT r
theorem lookups_ok (n:Int) (s:Mk.S):∀ d∈(Mk.lookups n s).1,LkT d:=by
 obtain ⟨k,s1,h1⟩:∃ a b,Mk.next 7 s=(a,b):=⟨_,_,rfl⟩
 obtain ⟨⟨D,C⟩,s2,h2⟩:∃ a b,Mk.rep k.toNat lk1F ([],[]) s1=(a,b):=⟨_,_,rfl⟩
 rw [Mk.lookups_eq h1 h2];refine rep_all (f:=lk2F n D C) LkT (by simp) fun i L s hi h=>?_
 unfold lk2F
 split
 ·exact h
 ·rename_i d hd
  split
  ·refine all_snoc h ?_;have h3:=lk1_inv k.toNat s1;rw [h2] at h3;have h4:d.rules=[]:=(h3.2.2 d (List.mem_of_getElem? hd)).2.2;unfold LkT;rw [h4];exact ⟨Nat.zero_le _,by simp⟩
  ·obtain ⟨x,t1,hx⟩:∃ a b,Mk.next 3 s=(a,b):=⟨_,_,rfl⟩
   have ix:=next_in (by decide) hx;rw [Mk.bind_eq hx];refine all_snoc h ⟨?_,?_⟩
   ·show (Mk.rep (1+x).toNat (lkRF n d.kind C) [] t1).1.length<=4;rw [rep_len (f:=lkRF n d.kind C) (fun _ _ _=>by simp [lkRF,Mk.bind])];omega
   ·exact rep_all (f:=lkRF n d.kind C) RuT (by simp) fun i L s _ h=>all_snoc h (rule_ok n d.kind C s)
def AxIn (a:DAxis):Prop:=-200<=a.min/\a.min<=0/\a.dflt=0/\0<=a.max/\a.max<=300/\a.name.size=3
theorem axes_ok (k:Nat) (s:Mk.S):(∀ a∈(Mk.axes k s).1,AxIn a)/\(Mk.axes k s).1.length=k:=by
 rw [Mk.axes_eq];refine ⟨rep_all (f:=axF) AxIn (by simp) fun i L s _ h=>?_,rep_len (f:=axF) (fun _ _ _=>by simp [axF,Mk.bind]) k s⟩;obtain ⟨x,s1,h1⟩:∃ a b,Mk.next 3 s=(a,b):=⟨_,_,rfl⟩
 obtain ⟨y,s2,h2⟩:∃ a b,Mk.next 4 s1=(a,b):=⟨_,_,rfl⟩
 have i1:=next_in (by decide) h1;have i2:=next_in (by decide) h2;unfold axF;rw [Mk.bind_eq h1,Mk.bind_eq h2];refine all_snoc h ⟨?_,?_,rfl,?_,?_,rfl⟩ <;> simp only <;> omega
def RgIn (k:Nat) (r:DRegion):Prop:=r.tents.length=k/\∀ t∈r.tents,t∈Mk.tents
theorem tents_mem (x:Nat) (h:x<5):Mk.tents.getD x ⟨0,0,0⟩∈Mk.tents:=by
 match x,h with
 | 0,_=>simp [Mk.tents]
 | 1,_=>simp [Mk.tents]
 | 2,_=>simp [Mk.tents]
 | 3,_=>simp [Mk.tents]
 | 4,_=>simp [Mk.tents]
theorem region_in (k:Nat) (s:Mk.S):RgIn k (Mk.region k s).1:=by
 obtain ⟨T,t1,hT⟩:∃ a b,Mk.rep k tnF [] s=(a,b):=⟨_,_,rfl⟩
 have e:Mk.region k s=(⟨T⟩,t1):=by unfold Mk.region;exact (Mk.bind_eq hT _).trans rfl
 rw [e];have a1:=rep_len (f:=tnF) (fun _ _ _=>by simp [tnF,Mk.bind]) k s;have a2:=rep_all (f:=tnF) (fun t=>t∈Mk.tents) (n:=k) (s:=s) (a:=[]) (by simp) fun i L s _ h=>by
  obtain ⟨x,s1,h1⟩:∃ a b,Mk.next 5 s=(a,b):=⟨_,_,rfl⟩
  have i1:=next_in (by decide) h1;unfold tnF;rw [Mk.bind_eq h1];exact all_snoc h (tents_mem _ (by omega))
 rw [hT] at a1 a2;exact ⟨a1,a2⟩
theorem regions_ok (k:Nat) (s:Mk.S):(∀ r∈(Mk.regions k s).1,RgIn k r)/\(Mk.regions k s).1.length<=3/\(k=0->(Mk.regions k s).1=[]):=by
 unfold Mk.regions
 split
 ·obtain ⟨x,s1,h1⟩:∃ a b,Mk.next 4 s=(a,b):=⟨_,_,rfl⟩
  have i1:=next_in (by decide) h1;rw [Mk.bind_eq h1];refine ⟨rep_all (f:=rgF k) (RgIn k) (by simp) fun i L s _ h=>all_snoc h (region_in k s),?_,fun h0=>by omega⟩;show (Mk.rep x.toNat (rgF k) [] s1).1.length<=3;rw [rep_len (f:=rgF k) (fun _ _ _=>by simp [rgF,Mk.bind])];omega
 ·exact ⟨by simp,Nat.zero_le _,fun _=>rfl⟩
structure MkOk (F:DFont):Prop where
 unit:I64 F.unit
 gll:2<=F.glyphs.length/\F.glyphs.length<=10
 gl:∀ g∈F.glyphs,GlOk F.regions.length g
 chl:F.chars.length<=16
 lkl:F.lookups.length<=100
 lk:∀ d∈F.lookups,LkT d
 ftl:F.features.length<=8
 ft:∀ f∈F.features,f.name.size<=4/\f.lookups.length<=100
 axl:F.axes.length<=2
 ax:∀ a∈F.axes,AxIn a
 rgl:F.regions.length<=3
 rg:∀ r∈F.regions,RgIn F.axes.length r
 rg0:F.axes.length=0->F.regions=[]
 fnl:F.funcs.length<=2
 fn:∀ c∈F.funcs,c.length<=36
 cvl:F.cvt.length<=3
theorem made_ok (l:List Int):MkOk (Mk.made l):=by
 obtain ⟨u,s1,h1⟩:∃ a b,Mk.next 4 ⟨l,0⟩=(a,b):=⟨_,_,rfl⟩
 obtain ⟨ka,s2,h2⟩:∃ a b,Mk.next 3 s1=(a,b):=⟨_,_,rfl⟩
 have i1:=next_in (by decide) h1;have i2:=next_in (by decide) h2;obtain ⟨U,rfl⟩:∃ K:Nat,u=K:=⟨u.toNat,by omega⟩
 obtain ⟨KA,rfl⟩:∃ K:Nat,ka=K:=⟨ka.toNat,by omega⟩
 obtain ⟨AX,s3,h3⟩:∃ a b,Mk.rep KA axF [] s2=(a,b):=⟨_,_,rfl⟩
 obtain ⟨RG,s4,h4⟩:∃ a b,Mk.regions KA s3=(a,b):=⟨_,_,rfl⟩
 obtain ⟨kf,s5,h5⟩:∃ a b,Mk.next 3 s4=(a,b):=⟨_,_,rfl⟩
 have i5:=next_in (by decide) h5;obtain ⟨KF,rfl⟩:∃ K:Nat,kf=K:=⟨kf.toNat,by omega⟩
 obtain ⟨FN,s6,h6⟩:∃ a b,Mk.rep KF fnF [] s5=(a,b):=⟨_,_,rfl⟩
 obtain ⟨kc,s7,h7⟩:∃ a b,Mk.next 4 s6=(a,b):=⟨_,_,rfl⟩
 have i7:=next_in (by decide) h7;obtain ⟨KC,rfl⟩:∃ K:Nat,kc=K:=⟨kc.toNat,by omega⟩
 obtain ⟨CV,s8,h8⟩:∃ a b,Mk.rep KC cvF [] s7=(a,b):=⟨_,_,rfl⟩
 obtain ⟨kg,s9,h9⟩:∃ a b,Mk.next 9 s8=(a,b):=⟨_,_,rfl⟩
 have i9:=next_in (by decide) h9;obtain ⟨KG,hKG⟩:∃ K:Nat,2+kg=K:=⟨(2+kg).toNat,by omega⟩
 obtain ⟨GL,s10,h10⟩:∃ a b,Mk.rep KG (glF RG.length FN.length) [] s9=(a,b):=⟨_,_,rfl⟩
 obtain ⟨CH,s11,h11⟩:∃ a b,Mk.rep 16 (chF KG) [] s10=(a,b):=⟨_,_,rfl⟩
 obtain ⟨LK,s12,h12⟩:∃ a b,Mk.lookups KG s11=(a,b):=⟨_,_,rfl⟩
 obtain ⟨FT,s13,h13⟩:∃ a b,Mk.rep 8 (ftF LK.length) [] s12=(a,b):=⟨_,_,rfl⟩
 rw [made_eq h1 h2 h3 h4 h5 h6 h7 h8 h9 hKG h10 h11 h12 h13];have a3:=axes_ok KA s2;rw [Mk.axes_eq,h3] at a3;have a4:=regions_ok KA s3;rw [h4] at a4;have a6:=rep_len (f:=fnF) (fun _ _ _=>by simp [fnF,Mk.bind]) KF s5
 have a6':=rep_all (f:=fnF) (fun c=>c.length<=36) (n:=KF) (s:=s5) (a:=[]) (by simp) fun i L s _ h=>all_snoc h (by
  have:=hint_len 6 i 4 (by decide) ⟨s.r,0⟩
  exact this)
 rw [h6] at a6 a6';have a8:=rep_len (f:=cvF) (fun _ _ _=>by simp [cvF,Mk.bind]) KC s7;rw [h8] at a8;have a10:=rep_len (f:=glF RG.length FN.length) (fun _ _ _=>by simp [glF,Mk.bind]) KG s9;have a10':=rep_all (f:=glF RG.length FN.length) (GlOk RG.length) (n:=KG) (s:=s9) (a:=[]) (by simp) fun i L s _ h=>all_snoc h (glyph_ok i RG.length FN.length s)
 rw [h10] at a10 a10';have a11:=Mk.rep_inv (f:=chF KG) (a:=[]) (s:=s10) (n:=16) (fun i (L:List DChar)=>L.length<=i) (Nat.le_refl _) fun i L s _ h=>by
  obtain ⟨z,t1,hz⟩:∃ a b,Mk.next 4 s=(a,b):=⟨_,_,rfl⟩
  unfold chF;rw [Mk.bind_eq hz]
  split
  ·show (L++[_]).length<=i+1;simp;exact h
  ·exact Nat.le_succ_of_le h
 rw [h11] at a11;have a12:=lookups_len KG s11;have a12':=lookups_ok KG s11;rw [h12] at a12 a12';have a13:=Mk.rep_inv (f:=ftF LK.length) (a:=[]) (s:=s12) (n:=8) (fun i (L:List DFeature)=>L.length<=i/\∀ f∈L,f.name.size<=4/\f.lookups.length<=100) ⟨Nat.le_refl _,by simp⟩ fun i L s hi h=>by
  obtain ⟨T,t1,hT⟩:∃ a b,Mk.rep LK.length ftR [] s=(a,b):=⟨_,_,rfl⟩
  obtain ⟨z,t2,hz⟩:∃ a b,Mk.next 2 t1=(a,b):=⟨_,_,rfl⟩
  unfold ftF;rw [Mk.bind_eq hT,Mk.bind_eq hz];have hTl:=Mk.rep_inv (f:=ftR) (a:=[]) (s:=s) (n:=LK.length) (fun i (r:List Int)=>r.length<=i) (Nat.le_refl _) fun i r s _ h=>by
   show (if _ then _ else _:List Int).length<=i+1
   split
   ·simp;exact h
   ·exact Nat.le_succ_of_le h
  rw [hT] at hTl;simp only
  split
  ·refine ⟨by simp;exact h.1,all_snoc h.2 ⟨?_,Nat.le_trans hTl a12⟩⟩;simp only
   match i,hi with
   | 0,_=>decide
   | 1,_=>decide
   | 2,_=>decide
   | 3,_=>decide
   | 4,_=>decide
   | 5,_=>decide
   | 6,_=>decide
   | 7,_=>decide
  ·exact ⟨Nat.le_succ_of_le h.1,h.2⟩
 rw [h13] at a13;have e3:AX.length=KA:=a3.2;exact ⟨units_I64 U,by have:GL.length=KG:=a10;simp only;omega,a10',a11,a12,a12',a13.1,a13.2,by simp only;omega,a3.1,a4.2.1,fun r hr=>by have:=a4.1 r hr;rw [<- e3] at this;exact this,fun h0=>a4.2.2 (by rw [<- e3];exact h0),by have:FN.length=KF:=a6;simp only;omega,a6',by have:CV.length=KC:=a8;simp only;omega⟩
theorem Pr.run_le {α:Type} (f:ByteArray->α->ByteArray) (c:Nat):∀ (l:List α) (s:ByteArray),(∀ s,∀ x∈l,(f s x).size<=s.size+c)->(Pr.run f s l).size<=s.size+c*l.length
 | [],s,_=>by simp [Pr.run]
 | x::l,s,hf=>by
  have h1:=Pr.run_le f c l (f s x) fun s y hy=>hf s y (List.mem_cons_of_mem _ hy)
  have h2:=hf s x List.mem_cons_self;show (Pr.run f (f s x) l).size<=_;rw [List.length_cons,Nat.mul_add];omega
theorem Pr.run_fit {α:Type} (f:ByteArray->α->ByteArray) (c n:Nat) {l:List α} (hl:l.length<=n) (s:ByteArray) (hf:∀ s,∀ x∈l,(f s x).size<=s.size+c):(Pr.run f s l).size<=s.size+c*n :=
 Nat.le_trans (Pr.run_le f c l s hf) (Nat.add_le_add_left (Nat.mul_le_mul_left c hl) _)
structure GTiny (g:DGlyph):Prop where
 name:g.name.size<=1000
 pts:g.pts.length<=1000
 ends:g.ends.length<=1000
 parts:g.parts.length<=1000
 anchors:g.anchors.length<=1000
 deltas:g.deltas.length<=1000
 hint:g.hint.length<=1000
structure RTiny (r:DRule):Prop where
 b:r.back.length<=1000/\∀ x∈r.back,x.length<=1000
 i:r.ins.length<=1000/\∀ x∈r.ins,x.length<=1000
 a:r.ahead.length<=1000/\∀ x∈r.ahead,x.length<=1000
 o:r.out.length<=1000
 c:r.calls.length<=1000
structure FTiny (F:DFont):Prop where
 gl:F.glyphs.length<=1000/\∀ g∈F.glyphs,GTiny g
 ch:F.chars.length<=1000
 lk:F.lookups.length<=1000/\∀ d∈F.lookups,d.rules.length<=1000/\∀ r∈d.rules,RTiny r
 ft:F.features.length<=1000/\∀ f∈F.features,f.name.size<=1000/\f.lookups.length<=1000
 ax:F.axes.length<=1000/\∀ a∈F.axes,a.name.size<=1000
 rg:F.regions.length<=1000/\∀ r∈F.regions,r.tents.length<=1000
 fn:F.funcs.length<=1000/\∀ c∈F.funcs,c.length<=1000
 cv:F.cvt.length<=1000
theorem GTiny.psmall {g:DGlyph} (h:GTiny g):PSmall g:=by
 obtain ⟨h1,h2,h3,h4,h5,h6,h7⟩:=h;refine ⟨?_,?_,?_,?_,?_,?_,?_⟩ <;> omega
theorem row_tiny {l:List Int} (h:l.length<=1000):ROk l:=by unfold ROk;omega
theorem rows_tiny {l:List (List Int)} (h:l.length<=1000/\∀ x∈l,x.length<=1000):RsOk l:=⟨by have:=h.1;omega,fun x hx=>row_tiny (h.2 x hx)⟩
theorem FTiny.fok {F:DFont} (h:FTiny F):FOk F:=by
 refine ⟨⟨by have:=h.gl.1;omega,fun g hg=>(h.gl.2 g hg).psmall⟩,by have:=h.ch;omega,⟨by have:=h.lk.1;omega,fun d hd=>⟨by have:=(h.lk.2 d hd).1;omega,fun r hr=>?_⟩⟩,⟨by have:=h.ft.1;omega,fun f hf=>⟨by have:=(h.ft.2 f hf).1;omega,row_tiny (h.ft.2 f hf).2⟩⟩,
  ⟨by have:=h.ax.1;omega,fun a ha=>by have:=h.ax.2 a ha;omega⟩,⟨by have:=h.rg.1;omega,fun r hr=>by have:=h.rg.2 r hr;omega⟩,⟨by have:=h.fn.1;omega,fun c hc=>by have:=h.fn.2 c hc;omega⟩,row_tiny h.cv⟩
 obtain ⟨b,i,a,o,c⟩:=(h.lk.2 d hd).2 r hr;exact ⟨rows_tiny b,rows_tiny i,rows_tiny a,row_tiny o,by omega⟩
theorem Pr.row_fit {l:List Int} (h:l.length<=1000):(Pr.row l).size<=22022:=Nat.le_trans (Pr.row_size l) (by omega)
theorem Pr.code_fit {l:List DIns} (h:l.length<=1000):(Pr.code l).size<=44022:=Nat.le_trans (Pr.code_size l) (by omega)
theorem Pr.rows_fit {l:List (List Int)} (h:l.length<=1000/\∀ x∈l,x.length<=1000):(Pr.rows l).size<=22022022:=by
 have h1:=Pr.run_fit Pr.rowsF 22022 1000 h.1 (Pr.dig l.length) fun s x hx=>by
  unfold Pr.rowsF;rw [ByteArray.size_append];have:=Pr.row_fit (h.2 x hx);omega
 have h2:=Pr.dig_size (l.length:Int);unfold Pr.rows;omega
theorem Pr.ruleF_fit {r:DRule} (h:RTiny r) (s:ByteArray):(Pr.ruleF s r).size<=s.size+67000000:=by
 obtain ⟨b,i,a,o,c⟩:=h;have h1:=Pr.run_fit Pr.callF 44 1000 c (Pr.ruleA s r) fun s x _=>by
  unfold Pr.callF;simp only [ByteArray.size_append];have:=Pr.dig_size x.pos;have:=Pr.dig_size x.lookup;omega
 have h2:(Pr.ruleA s r).size=s.size+(Pr.rows r.back).size+(Pr.rows r.ins).size+(Pr.rows r.ahead).size+(Pr.row r.out).size+(Pr.dig r.calls.length).size:=by
  unfold Pr.ruleA;simp only [ByteArray.size_append]
 have h3:=Pr.rows_fit b;have h4:=Pr.rows_fit i;have h5:=Pr.rows_fit a;have h6:=Pr.row_fit o;have h7:=Pr.dig_size (r.calls.length:Int);have h8:=Pr.dig_size r.x;unfold Pr.ruleF;rw [ByteArray.size_append];omega
theorem Pr.lookup_fit {d:DLookup} (h:d.rules.length<=1000/\∀ r∈d.rules,RTiny r):(Pr.lookup d).size<=67000001000:=by
 have h1:=Pr.run_fit Pr.ruleF 67000000 1000 h.1 (Pr.look0 d) fun s x hx=>Pr.ruleF_fit (h.2 x hx) s
 have h2:(Pr.look0 d).size=(Pr.dig d.kind).size+(Pr.yes d.ignore).size+(Pr.dig d.rules.length).size:=by
  unfold Pr.look0;simp only [ByteArray.size_append]
 have h3:=Pr.dig_size d.kind;have h4:=Pr.yes_size d.ignore;have h5:=Pr.dig_size (d.rules.length:Int);unfold Pr.lookup;omega
theorem Pr.glyph_fit {g:DGlyph} (h:GTiny g):(Pr.glyph g).size<=400000:=by
 obtain ⟨h1,h2,h3,h4,h5,h6,h7⟩:=h;have e0:(Pr.s0 g).size=(Pr.dig g.name.size).size+g.name.size+1+(Pr.dig g.adv).size+(Pr.yes g.mark).size+(Pr.dig g.pts.length).size:=by
  unfold Pr.s0;simp only [ByteArray.size_append];rfl
 have d0:=Pr.dig_size (g.name.size:Int);have d1:=Pr.dig_size g.adv;have d2:=Pr.yes_size g.mark;have d3:=Pr.dig_size (g.pts.length:Int);have a1:(Pr.s1 g).size<=(Pr.s0 g).size+46*g.pts.length:=Pr.run_size Pr.ptF 46 Pr.ptF_size g.pts (Pr.s0 g);have a2:(Pr.s2 g).size=(Pr.s1 g).size+(Pr.row g.ends).size+(Pr.dig g.parts.length).size:=by unfold Pr.s2;simp only [ByteArray.size_append]
 have b2:=Pr.row_fit h3;have c2:=Pr.dig_size (g.parts.length:Int);have a3:(Pr.s3 g).size<=(Pr.s2 g).size+66*g.parts.length:=Pr.run_size Pr.partF 66 Pr.partF_size g.parts (Pr.s2 g);have a4:(Pr.s4 g).size=(Pr.s3 g).size+(Pr.dig g.anchors.length).size:=by unfold Pr.s4;rw [ByteArray.size_append]
 have c4:=Pr.dig_size (g.anchors.length:Int);have a5:(Pr.s5 g).size<=(Pr.s4 g).size+88*g.anchors.length:=Pr.run_size Pr.anchorF 88 Pr.anchorF_size g.anchors (Pr.s4 g);have a6:(Pr.s6 g).size=(Pr.s5 g).size+(Pr.dig g.deltas.length).size:=by unfold Pr.s6;rw [ByteArray.size_append]
 have c6:=Pr.dig_size (g.deltas.length:Int);have a7:(Pr.s7 g).size<=(Pr.s6 g).size+88*g.deltas.length:=Pr.run_size Pr.deltaF 88 Pr.deltaF_size g.deltas (Pr.s6 g);have a8:(Pr.glyph g).size=(Pr.s7 g).size+(Pr.code g.hint).size:=by unfold Pr.glyph;rw [ByteArray.size_append]
 have b8:=Pr.code_fit h7;omega
theorem FTiny.size {F:DFont} (h:FTiny F):(Pr.font F).size<=4611686018427387904:=by
 have a0:(Pr.t0 F).size=(Pr.dig F.unit).size+(Pr.dig F.glyphs.length).size:=by unfold Pr.t0;rw [ByteArray.size_append]
 have a1:(Pr.t1 F).size<=(Pr.t0 F).size+400000*1000:=Pr.run_fit Pr.glF 400000 1000 h.gl.1 (Pr.t0 F) fun s g hg=>by
  unfold Pr.glF;rw [ByteArray.size_append];have:=Pr.glyph_fit (h.gl.2 g hg);omega
 have a2:(Pr.t2 F).size<=(Pr.t1 F++Pr.dig F.chars.length).size+44*1000:=Pr.run_fit Pr.chF 44 1000 h.ch _ fun s c _=>by
  unfold Pr.chF;simp only [ByteArray.size_append];have:=Pr.dig_size c.rune;have:=Pr.dig_size c.glyph;omega
 have a3:(Pr.t3 F).size<=(Pr.t2 F++Pr.dig F.lookups.length).size+67000001000*1000:=Pr.run_fit Pr.lkF 67000001000 1000 h.lk.1 _ fun s d hd=>by
  unfold Pr.lkF;rw [ByteArray.size_append];have:=Pr.lookup_fit (h.lk.2 d hd);omega
 have a4:(Pr.t4 F).size<=(Pr.t3 F++Pr.dig F.features.length).size+24000*1000:=Pr.run_fit Pr.ftF 24000 1000 h.ft.1 _ fun s f hf=>by
  unfold Pr.ftF;simp only [ByteArray.size_append];have:=Pr.dig_size (f.name.size:Int);have:=(h.ft.2 f hf).1;have:=Pr.row_fit (h.ft.2 f hf).2;have:(⟨#[32]⟩:ByteArray).size=1:=rfl;omega
 have a5:(Pr.t5 F).size<=(Pr.t4 F++Pr.dig F.axes.length).size+2000*1000:=Pr.run_fit Pr.axF 2000 1000 h.ax.1 _ fun s a ha=>by
  unfold Pr.axF;simp only [ByteArray.size_append];have:=Pr.dig_size (a.name.size:Int);have:=h.ax.2 a ha;have:=Pr.dig_size a.min;have:=Pr.dig_size a.dflt;have:=Pr.dig_size a.max;have:(⟨#[32]⟩:ByteArray).size=1:=rfl;omega
 have a6:(Pr.t6 F).size<=(Pr.t5 F++Pr.dig F.regions.length).size+67000*1000:=Pr.run_fit Pr.rgF 67000 1000 h.rg.1 _ fun s r hr=>by
  have h1:(Pr.rgF s r).size<=(s++Pr.dig r.tents.length).size+66*1000:=Pr.run_fit Pr.tnF 66 1000 (h.rg.2 r hr) _ fun s t _=>by
   unfold Pr.tnF;simp only [ByteArray.size_append];have:=Pr.dig_size t.start;have:=Pr.dig_size t.peak;have:=Pr.dig_size t.stop;omega
  rw [ByteArray.size_append] at h1;have:=Pr.dig_size (r.tents.length:Int);omega
 have a7:(Pr.t7 F).size<=(Pr.t6 F++Pr.dig F.funcs.length).size+44022*1000:=Pr.run_fit Pr.fnF 44022 1000 h.fn.1 _ fun s c hc=>by
  unfold Pr.fnF;rw [ByteArray.size_append];have:=Pr.code_fit (h.fn.2 c hc);omega
 have a8:(Pr.font F).size=(Pr.t7 F).size+(Pr.row F.cvt).size:=by unfold Pr.font;rw [ByteArray.size_append]
 have b8:=Pr.row_fit h.cv;rw [ByteArray.size_append] at a2 a3 a4 a5 a6 a7;have d0:=Pr.dig_size F.unit;have d1:=Pr.dig_size (F.glyphs.length:Int);have d2:=Pr.dig_size (F.chars.length:Int);have d3:=Pr.dig_size (F.lookups.length:Int);have d4:=Pr.dig_size (F.features.length:Int);have d5:=Pr.dig_size (F.axes.length:Int);have d6:=Pr.dig_size (F.regions.length:Int);have d7:=Pr.dig_size (F.funcs.length:Int);omega
theorem GlOk.tiny {nr:Nat} {g:DGlyph} (h:GlOk nr g) (hn:nr<=3):GTiny g :=
 ⟨by have:=h.name;omega,by have:=h.ptl;omega,by have:=h.endl;omega,by have:=h.parl;omega,by have:=h.ancl;omega,by have:=h.dell;omega,by have:=h.hinl;omega⟩
theorem RuT.tiny {r:DRule} (h:RuT r):RTiny r :=
 ⟨⟨by have:=h.bl;omega,fun x hx=>by have:x.length<=4:=h.b x hx;omega⟩,⟨by have:=h.il;omega,fun x hx=>by have:x.length<=4:=h.i x hx;omega⟩,⟨by have:=h.al;omega,fun x hx=>by have:x.length<=4:=h.a x hx;omega⟩,by have:=h.ol;omega,by have:=h.cl;omega⟩
theorem MkOk.tiny {F:DFont} (h:MkOk F):FTiny F :=
 ⟨⟨by have:=h.gll;omega,fun g hg=>(h.gl g hg).tiny h.rgl⟩,by have:=h.chl;omega,⟨by have:=h.lkl;omega,fun d hd=>⟨by have:=(h.lk d hd).1;omega,fun r hr=>((h.lk d hd).2 r hr).tiny⟩⟩,⟨by have:=h.ftl;omega,fun f hf=>⟨by have:=(h.ft f hf).1;omega,by have:=(h.ft f hf).2;omega⟩⟩,
  ⟨by have:=h.axl;omega,fun a ha=>by have:=(h.ax a ha).2.2.2.2.2;omega⟩,⟨by have:=h.rgl;omega,fun r hr=>by have:=(h.rg r hr).1;have:=h.axl;omega⟩,⟨by have:=h.fnl;omega,fun c hc=>by have:=h.fn c hc;omega⟩,by have:=h.cvl;omega⟩
end Go.Proofs.Ytlkkhkbafahchaa
