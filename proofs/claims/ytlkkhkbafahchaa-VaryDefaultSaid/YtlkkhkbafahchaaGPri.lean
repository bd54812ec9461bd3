/- Print, PrintRow, PrintLook, PrintGlyph, PrintFontP. -/
import Derived.Test.YtlkkhkbafahchaaGBase
import Derived.Test.YtlkkhkbafahchaaGRing
set_option linter.all false
namespace Go.Proofs.Ytlkkhkbafahchaa
open Go.RowKit
set_option maxRecDepth 100000
def Pr.loop:Nat->Nat->List UInt8->List UInt8
 | 0,_,s=>s
 | f+1,k,s=>if k=0/\s≠[] then s else Pr.loop f (k / 10) (UInt8.ofNat (48+k % 10)::s)
def Pr.digL (n:Int):List UInt8:=(if n<0 then [45] else [])++Pr.loop 20 n.natAbs []++[32]
def Pr.dig (n:Int):ByteArray:=bs (Pr.digL n)
theorem Pr.loop_len:∀ (f k:Nat) (s:List UInt8),(Pr.loop f k s).length<=s.length+f
 | 0,_,s=>by simp [Pr.loop]
 | f+1,k,s=>by
  unfold Pr.loop
  split
  ·omega
  ·have:=Pr.loop_len f (k / 10) (UInt8.ofNat (48+k % 10)::s);simp only [List.length_cons] at this;omega
theorem Pr.dig_size (n:Int):(Pr.dig n).size<=22:=by
 unfold Pr.dig Pr.digL;rw [bs_size];have:=Pr.loop_len 20 n.natAbs [];simp only [List.length_append,List.length_cons,List.length_nil] at *
 split <;> simp <;> omega
theorem Pr.loop_end (f:Nat) (s:List UInt8) (h:s≠[]):Pr.loop f 0 s=s:=by
 cases f with
 | zero=>rfl
 | succ f=>unfold Pr.loop;rw [if_pos ⟨rfl,h⟩]
def Pr.yes (b:Bool):ByteArray:=if b then ⟨#[49,32]⟩ else ⟨#[48,32]⟩
theorem yes_any (b:Bool) (w:World):Calls Try.prog 71 #[.bool b] w fun e w'=>e=.returned (.string (Pr.yes b))/\Mod [] w w':=by
 cases b
 ·go_enter Try.func71,Try.ntmps71;go_wp2_with fail;go_ret;exact ⟨rfl,Mod.refl _ _⟩
 ·go_enter Try.func71,Try.ntmps71;go_wp2_with fail;go_ret;exact ⟨rfl,Mod.refl _ _⟩
theorem bs_cons (c:UInt8) (l:List UInt8):bs [c]++bs l=bs (c::l):=by
 apply ByteArray.ext;simp [bs]
set_option maxHeartbeats 4000000 in
theorem digits_any (n:Int) (w:World) (hn:I64 n):Calls Try.prog 43 #[.int .i64 n] w fun e w'=>e=.returned (.string (Pr.dig n))/\Mod [] w w':=by
 obtain ⟨fin,hfin⟩:∃ fin,Pr.loop 20 n.natAbs []=fin:=⟨_,rfl⟩
 have HFIN:=Hi hfin;have HN:=Hi hn;have e0:(⟨#[]⟩:ByteArray)=bs []:=rfl;clear hfin hn;go_enter Try.func43,Try.ntmps43;go_wp2_with fail
 go_loopg [3,4] 20 (fun gk s3 s4 wr=>∃ (k:Int) (l:List UInt8),s3=.string (bs l)/\s4=.int .i64 k/\Hid (k.natAbs<10 ^ gk/\(gk=0->l≠[])/\l.length+gk<=20/\Pr.loop gk k.natAbs l=fin/\I64 k)/\Hid (Mod [] w wr))
 case atStart=>exact ⟨n,[],rfl,rfl,⟨by have:=HN.out;unfold I64 at this;omega,by omega,by simp,HFIN.out,HN.out⟩,Mod.refl _ _⟩
 case round =>
  obtain ⟨k,l,rfl,rfl,HI,HM⟩:=hrel;obtain ⟨h1,h2,h3,h4,h5⟩:=HI.out
  by_cases hd:k=0/\l≠[]
  ·obtain ⟨rfl,hl⟩:=hd;have hq:((bs l).toList == (bs []).toList)=false:=by
    rw [beq_eq_false_iff_ne];intro he;apply hl;simpa [bs] using he
   have hfl:fin=l:=by rw [<- h4];exact Pr.loop_end gk l hl
   have HD:=Hi (show ∀ b:Bool,b=decide (n<0)->(if b=true then bs [45]++bs l++bs [32] else bs l++bs [32])=Pr.dig n from fun b hb=>by
    unfold Pr.dig Pr.digL;rw [HFIN.out,hfl,hb]
    by_cases hn:n<0
    ·rw [if_pos hn,if_pos (decide_eq_true hn)];apply ByteArray.ext;simp [bs]
    ·rw [if_neg hn,if_neg (by simpa using hn)]
     apply ByteArray.ext;simp [bs])
   have z1:¬ 9223372036854775807<1+(bs l).size:=by rw [bs_size];omega
   have z2:¬ 9223372036854775807<1+(bs l).size+1:=by rw [bs_size];omega
   have z3:¬ 9223372036854775807<(bs l).size+1:=by rw [bs_size];omega
   rw [show bs [45]=(⟨#[45]⟩:ByteArray) from rfl,show bs [32]=(⟨#[32]⟩:ByteArray) from rfl] at *
   by_cases hn:n<0
   ·have n1:decide (n<0)=true:=decide_eq_true hn;clear h1 h2 h3 h4 h5 hfl hl HI;go_wp2_with fail;go_ret;exact ⟨by rw [<- HD.out true n1.symm];rfl,HM.out⟩
   ·have n1:decide (n<0)=false:=decide_eq_false hn;clear h1 h2 h3 h4 h5 hfl hl HI;go_wp2_with fail;go_ret;exact ⟨by rw [<- HD.out false n1.symm];rfl,HM.out⟩
  ·have hgk:gk≠0:=fun h0=>by
    subst h0;exact hd ⟨by simp at h1;omega,h2 rfl⟩
   obtain ⟨g',rfl⟩:∃ g',gk=g'+1:=⟨gk - 1,by omega⟩
   have hq:(((k == 0)=false))∨(k=0/\l=[]):=by
    by_cases h:k=0
    ·right;refine ⟨h,?_⟩;cases l with
     | nil=>rfl
     | cons x r=>exact absurd ⟨h,by simp⟩ hd
    ·left;simpa using h
   have hstep:Pr.loop g' (k.natAbs / 10) (UInt8.ofNat (48+k.natAbs % 10)::l)=fin:=by
    rw [<- h4];show _=(if k.natAbs=0/\l≠[] then l else _)
    rw [if_neg (fun h=>hd ⟨by omega,h.2⟩)]
   obtain ⟨c,hc⟩:∃ c:Nat,k.natAbs % 10=c:=⟨_,rfl⟩
   have hc10:c<10:=by omega
   obtain ⟨q,hqq⟩:∃ q:Int,Int.tdiv k 10=q:=⟨_,rfl⟩
   have hqa:q.natAbs=k.natAbs / 10:=by rw [<- hqq,Int.natAbs_tdiv];rfl
   have hr:Int.tmod k 10=if k<0 then -(c:Int) else (c:Int):=by
    by_cases h:k<0
    ·rw [if_pos h];have:Int.tmod k 10=-(Int.tmod (-k) 10):=by rw [Int.neg_tmod];simp
     rw [this,Int.tmod_eq_emod_of_nonneg (by omega)];omega
    ·rw [if_neg h,Int.tmod_eq_emod_of_nonneg (by omega)];omega
   have hu:(UInt8.ofNat (48+c)).toNat=48+c:=by rw [UInt8.toNat_ofNat'];omega
   have hcv:=conv_new (P:=Try.prog) wr 86 9 5 1 1 [UInt8.ofNat (48+c)] #[.int .u8 (48+(c:Int))] 5 (by kernel_rfl) (by kernel_rfl) (by kernel_rfl) rfl (by simp [bcell];omega)
   have HST:=Hi (show q.natAbs<10 ^ g'/\(g'=0->(UInt8.ofNat (48+c)::l)≠[])/\(UInt8.ofNat (48+c)::l).length+g'<=20/\Pr.loop g' q.natAbs (UInt8.ofNat (48+c)::l)=fin/\I64 q from
    ⟨by rw [hqa];rw [Nat.pow_succ] at h1;omega,by simp,by simp only [List.length_cons];omega,by rw [hqa,<- hc];exact hstep,by unfold I64 at *;omega⟩)
   have z1:¬ 9223372036854775807<(bs [UInt8.ofNat (48+c)]).size+(bs l).size:=by rw [bs_size,bs_size];simp;omega
   have wq:wrap64 q=q:=by have:=HST.out.2.2.2.2;unfold I64 at this;unfold wrap64;omega
   have HWQ:=Hi wq;have HM2:=Hi (HM.out.alloc (.cells #[.int .u8 (48+(c:Int))] 5));clear h1 h2 h3 h4 h5 HI hstep hc hqa hd hgk hu wq;generalize UInt8.ofNat (48+c)=y at *
   rcases hq with hk0 | ⟨rfl,rfl⟩
   ·have hk1:(k != 0)=true:=by simpa using hk0
    by_cases hn:k<0
    ·rw [if_pos hn] at hr
     by_cases hcz:c=0
     ·subst hcz;simp only [Int.natCast_zero,Int.neg_zero,Int.add_zero] at hr hcv HM2;go_wp2_with fail;go_roundg g'
      case measure=>omega
      case rel=>exact ⟨q,y::l,by rw [bs_cons],by rw [HWQ.out],HST.out,HM2.out⟩
     ·go_wp2_with fail;go_roundg g'
      case measure=>omega
      case rel=>exact ⟨q,y::l,by rw [bs_cons],by rw [HWQ.out],HST.out,HM2.out⟩
    ·rw [if_neg hn] at hr;go_wp2_with fail;go_roundg g'
     case measure=>omega
     case rel=>exact ⟨q,y::l,by rw [bs_cons],by rw [HWQ.out],HST.out,HM2.out⟩
   ·simp only [show ¬ ((0:Int)<0) from by omega,if_false] at hr;go_wp2_with fail;go_roundg g'
    case measure=>omega
    case rel=>exact ⟨q,[y],by rw [bs_cons],by rw [HWQ.out],HST.out,HM2.out⟩
def Pr.run {α:Type} (f:ByteArray->α->ByteArray) (s:ByteArray) (l:List α):ByteArray:=l.foldl f s
theorem Pr.run_take {α:Type} (f:ByteArray->α->ByteArray) (s:ByteArray) (l:List α) (i:Nat) (h:i<l.length):Pr.run f s (l.take (i+1))=f (Pr.run f s (l.take i)) l[i]:=by
 unfold Pr.run;rw [List.take_succ_eq_append_getElem h,List.foldl_append];rfl
theorem Pr.run_size {α:Type} (f:ByteArray->α->ByteArray) (c:Nat) (hf:∀ s x,(f s x).size<=s.size+c):∀ (l:List α) (s:ByteArray),(Pr.run f s l).size<=s.size+c*l.length
 | [],s=>by simp [Pr.run]
 | x::l,s=>by
  have h1:=Pr.run_size f c hf l (f s x);have h2:=hf s x;show (Pr.run f (f s x) l).size<=_;rw [List.length_cons,Nat.mul_add];omega
theorem Pr.take_size {α:Type} (f:ByteArray->α->ByteArray) (c:Nat) (hf:∀ s x,(f s x).size<=s.size+c) (l:List α) (s:ByteArray) (i:Nat):(Pr.run f s (l.take i)).size<=s.size+c*l.length :=
 Nat.le_trans (Pr.run_size f c hf (l.take i) s) (Nat.add_le_add_left (Nat.mul_le_mul_left c (by rw [List.length_take];exact Nat.min_le_right _ _)) _)
def Pr.rowF (s:ByteArray) (x:Int):ByteArray:=s++Pr.dig x
def Pr.row (l:List Int):ByteArray:=Pr.run Pr.rowF (Pr.dig l.length) l
def Pr.codeF (s:ByteArray) (x:DIns):ByteArray:=s++Pr.dig x.op++Pr.dig x.a
def Pr.code (l:List DIns):ByteArray:=Pr.run Pr.codeF (Pr.dig l.length) l
theorem Pr.rowF_size (s:ByteArray) (x:Int):(Pr.rowF s x).size<=s.size+22:=by
 unfold Pr.rowF;rw [ByteArray.size_append];have:=Pr.dig_size x;omega
theorem Pr.codeF_size (s:ByteArray) (x:DIns):(Pr.codeF s x).size<=s.size+44:=by
 unfold Pr.codeF;rw [ByteArray.size_append,ByteArray.size_append];have:=Pr.dig_size x.op;have:=Pr.dig_size x.a;omega
theorem Pr.row_size (l:List Int):(Pr.row l).size<=22+22*l.length:=Nat.le_trans (Pr.run_size _ 22 Pr.rowF_size l _) (Nat.add_le_add_right (Pr.dig_size _) _)
theorem Pr.code_size (l:List DIns):(Pr.code l).size<=22+44*l.length:=Nat.le_trans (Pr.run_size _ 44 Pr.codeF_size l _) (Nat.add_le_add_right (Pr.dig_size _) _)
set_option maxHeartbeats 4000000 in
theorem prow_any (oa:Option Addr) (n cap:Nat) (l:List Int) (B:Nat) (w:World) (h:Rows 1 RInt B w (.slice oa n cap) l) (hl:l.length*8<=140737488351232):Calls Try.prog 46 #[.slice oa n cap] w fun e w'=>e=.returned (.string (Pr.row l))/\Mod [] w w':=by
 obtain rfl:n=l.length:=by obtain ⟨_,_,he,_⟩:=h;simp at he;omega
 have HR:=Hi h;have HL:=Hi hl;have HDL:=Hi (fun W=>digits_any (l.length:Int) W (by unfold I64;omega));have HFIN:=Hi (show Pr.run Pr.rowF (Pr.dig l.length) (l.take l.length)=Pr.row l by rw [List.take_length];rfl);have HS:=Hi (fun i=>Pr.take_size Pr.rowF 22 Pr.rowF_size l (Pr.dig l.length) i);have HDS:=Hi (Pr.dig_size (l.length:Int));have H0:=Hi (show Pr.run Pr.rowF (Pr.dig l.length) (l.take 0)=Pr.dig l.length from rfl);have HST:=Hi (fun i hi=>Pr.run_take Pr.rowF (Pr.dig (l.length:Int)) l i hi);generalize Pr.row l=fin at *
 clear h hl;go_enter Try.func46,Try.ntmps46;go_wp2_with fail;refine (HDL.out w).mono ?_;rintro e w1 ⟨rfl,m1⟩;have HM:=Hi m1;clear m1;go_wp2_with fail
 go_loopg [3,4] l.length (fun gk s3 s4 wr=>∃ i:Nat,s3=.string (Pr.run Pr.rowF (Pr.dig (l.length:Int)) (l.take i))/\s4=.int .i64 (i:Int)/\Hid (i+gk=l.length)/\Hid (Mod [] w wr))
 case atStart=>exact ⟨0,by rw [H0.out],rfl,by show 0+l.length=l.length;omega,HM.out⟩
 case round =>
  obtain ⟨i,rfl,rfl,hi,HI⟩:=hrel;clear HM
  by_cases hin:i<l.length
  case neg =>
   obtain rfl:i=l.length:=by have:=hi.out;omega
   have k1:decide ((l.length:Int)<(l.length:Int))=false:=decide_eq_false (by omega);go_wp2_with fail;go_ret;exact ⟨by rw [<- HFIN.out];rfl,HI.out⟩
  have k1:decide ((i:Int)<(l.length:Int))=true:=decide_eq_true (by omega);have k2:(0:Int)<=i:=by omega
  have k3:(i:Int)<(l.length:Int):=by omega
  obtain ⟨a,rfl,-,cs,-,hc0,-,rfl,hx⟩:=(HR.out.mod RInt.stay HI.out).at i hin;have c0:=hc0 (by decide);simp only [List.getElem?_cons_zero,Nat.mul_one] at c0;have ei:IntKind.i64.wrap ((i:Int)+1)=(i:Int)+1:=IntWalk.i64_in _ (by have:=HL.out;omega);have HNX:=Hi (HST.out i hin);have z1:¬ 9223372036854775807<(Pr.run Pr.rowF (Pr.dig (l.length:Int)) (l.take i)).size+(Pr.dig l[i]).size:=by
   have h1:=HS.out i;have h2:=HDS.out;have h3:=Pr.dig_size l[i];have h4:=HL.out;omega
  unfold Pr.rowF at HNX;change Hid (Pr.run Pr.rowF (Pr.dig (l.length:Int)) (l.take (i+1))=Pr.run Pr.rowF (Pr.dig (l.length:Int)) (l.take i)++Pr.dig l[i]) at HNX;generalize Pr.run Pr.rowF (Pr.dig (l.length:Int)) (l.take i)=si at *
  have HX:=Hi (fun W=>digits_any l[i] W hx);generalize Pr.dig l[i]=dx at *
  generalize l[i]=x at *
  clear hc0 hx hin;go_wp2_with fail;refine (HX.out wr).mono ?_;rintro e w2 ⟨rfl,m2⟩;have HM2:=Hi (HI.out.then m2);clear c0 m2;go_wp2_with fail;go_roundg (gk - 1)
  case measure=>have:=hi.out;omega
  case rel=>exact ⟨i+1,by rw [HNX.out],by rw [Int.natCast_add];rfl,by have:=hi.out;show i+1+(gk - 1)=l.length;omega,HM2.out⟩
set_option maxHeartbeats 4000000 in
theorem pcode_any (oa:Option Addr) (n cap:Nat) (l:List DIns) (B:Nat) (w:World) (h:Rows 2 RIns B w (.slice oa n cap) l) (hl:l.length*16<=140737488351232):Calls Try.prog 47 #[.slice oa n cap] w fun e w'=>e=.returned (.string (Pr.code l))/\Mod [] w w':=by
 obtain rfl:n=l.length:=by obtain ⟨_,_,he,_⟩:=h;simp at he;omega
 have HR:=Hi h;have HL:=Hi hl;have HDL:=Hi (fun W=>digits_any (l.length:Int) W (by unfold I64;omega));have HFIN:=Hi (show Pr.run Pr.codeF (Pr.dig l.length) (l.take l.length)=Pr.code l by rw [List.take_length];rfl);have HS:=Hi (fun i=>Pr.take_size Pr.codeF 44 Pr.codeF_size l (Pr.dig l.length) i);have HDS:=Hi (Pr.dig_size (l.length:Int));have H0:=Hi (show Pr.run Pr.codeF (Pr.dig l.length) (l.take 0)=Pr.dig l.length from rfl);have HST:=Hi (fun i hi=>Pr.run_take Pr.codeF (Pr.dig (l.length:Int)) l i hi);generalize Pr.code l=fin at *
 clear h hl;go_enter Try.func47,Try.ntmps47;go_wp2_with fail;refine (HDL.out w).mono ?_;rintro e w1 ⟨rfl,m1⟩;have HM:=Hi m1;clear m1;go_wp2_with fail
 go_loopg [3,4] l.length (fun gk s3 s4 wr=>∃ i:Nat,s3=.string (Pr.run Pr.codeF (Pr.dig (l.length:Int)) (l.take i))/\s4=.int .i64 (i:Int)/\Hid (i+gk=l.length)/\Hid (Mod [] w wr))
 case atStart=>exact ⟨0,by rw [H0.out],rfl,by show 0+l.length=l.length;omega,HM.out⟩
 case round =>
  obtain ⟨i,rfl,rfl,hi,HI⟩:=hrel;clear HM
  by_cases hin:i<l.length
  case neg =>
   obtain rfl:i=l.length:=by have:=hi.out;omega
   have k1:decide ((l.length:Int)<(l.length:Int))=false:=decide_eq_false (by omega);go_wp2_with fail;go_ret;exact ⟨by rw [<- HFIN.out];rfl,HI.out⟩
  have k1:decide ((i:Int)<(l.length:Int))=true:=decide_eq_true (by omega);have k2:(0:Int)<=i:=by omega
  have k3:(i:Int)<(l.length:Int):=by omega
  obtain ⟨a,rfl,-,cs,-,hc0,hcj,rfl,hx,hy⟩:=(HR.out.mod RIns.stay HI.out).at i hin;have c0:=hc0 (by decide);have c1:=hcj 1 (by decide) (by decide);simp only [List.getElem?_cons_zero,List.getElem?_cons_succ] at c0 c1;have Y0:∀ W,Mod [] wr W->W.cell? (a.add (i*2))=some (.int .i64 (l[i]).op):=fun W m=>cell_stays m c0
  have Y1:∀ W,Mod [] wr W->W.cell? ⟨(a.add (i*2)).block,(a.add (i*2)).off+1,none⟩=some (.int .i64 (l[i]).a):=fun W m=>cell_stays m c1
  have ei:IntKind.i64.wrap ((i:Int)+1)=(i:Int)+1:=IntWalk.i64_in _ (by have:=HL.out;omega);have HNX:=Hi (HST.out i hin);have z0:=HS.out i;have h2:=HDS.out;have h3:=Pr.dig_size (l[i]).op;have h4:=Pr.dig_size (l[i]).a;have h5:=HL.out;have z1:¬ 9223372036854775807<(Pr.run Pr.codeF (Pr.dig (l.length:Int)) (l.take i)).size+(Pr.dig (l[i]).op).size:=by omega
  have z2:¬ 9223372036854775807<(Pr.run Pr.codeF (Pr.dig (l.length:Int)) (l.take i)).size+(Pr.dig (l[i]).op).size+(Pr.dig (l[i]).a).size:=by omega
  change Hid (Pr.run Pr.codeF (Pr.dig (l.length:Int)) (l.take (i+1))=Pr.run Pr.codeF (Pr.dig (l.length:Int)) (l.take i)++Pr.dig (l[i]).op++Pr.dig (l[i]).a) at HNX;clear z0 h2 h3 h4 h5 c0 c1 hc0 hcj;generalize Pr.run Pr.codeF (Pr.dig (l.length:Int)) (l.take i)=si at *
  have HX:=Hi (fun W=>digits_any (l[i]).op W hx);have HY:=Hi (fun W=>digits_any (l[i]).a W hy);generalize Pr.dig (l[i]).op=dx at *
  generalize Pr.dig (l[i]).a=dy at *
  generalize (l[i]).op=x at *
  generalize (l[i]).a=y at *
  clear hx hy hin;go_upto_region 5 with fail;refine wp_region_mask 15 [true,true,true,true,true,true,true,true,true,true,true,true,true,true,true] [] (by kernel_rfl) (by kernel_rfl) (by simp) ?_;simp only [pickM]
  iterate 6
   refine sv ?_
  refine sc (a':=?_) (fun w' hw' K Q hK=>?_) ?_ ?_;rotate_left
  ·go_wp2_with fail;refine ((calls_mod HX.out) _ hw').mono ?_;rintro e w'' ⟨rfl,m''⟩;go_wp2_with fail;exact hK _ m''
  ·rfl
  iterate 6
   refine sv ?_
  refine sc (a':=?_) (fun w' hw' K Q hK=>?_) ?_ ?_;rotate_left
  ·go_wp2_with fail;refine ((calls_mod HY.out) _ hw').mono ?_;rintro e w'' ⟨rfl,m''⟩;go_wp2_with fail;exact hK _ m''
  ·rfl
  refine sv ?_;refine steady_done ?_;refine lates_end (fun w' hw' _=>?_);simp only [List.drop_succ_cons,List.drop_zero];have HM2:=Hi (HI.out.then hw');clear Y0 Y1 hw' HX HY;go_wp2_with fail;go_roundg (gk - 1)
  case measure=>have:=hi.out;omega
  case rel=>exact ⟨i+1,by rw [HNX.out],by rw [Int.natCast_add];rfl,by have:=hi.out;show i+1+(gk - 1)=l.length;omega,HM2.out⟩
theorem Pr.run_ge {α:Type} (f:ByteArray->α->ByteArray) (hf:∀ s x,s.size<=(f s x).size):∀ (l:List α) (s:ByteArray),s.size<=(Pr.run f s l).size
 | [],s=>Nat.le_refl _
 | x::l,s=>Nat.le_trans (hf s x) (Pr.run_ge f hf l (f s x))
theorem Pr.take_le {α:Type} (f:ByteArray->α->ByteArray) (hf:∀ s x,s.size<=(f s x).size) (l:List α) (s:ByteArray) (i:Nat):(Pr.run f s (l.take i)).size<=(Pr.run f s l).size:=by
 have e:Pr.run f s l=Pr.run f (Pr.run f s (l.take i)) (l.drop i):=by
  unfold Pr.run;rw [<- List.foldl_append,List.take_append_drop]
 rw [e];exact Pr.run_ge f hf _ _
def Pr.rowsF (s:ByteArray) (x:List Int):ByteArray:=s++Pr.row x
def Pr.rows (l:List (List Int)):ByteArray:=Pr.run Pr.rowsF (Pr.dig l.length) l
theorem Pr.rowsF_ge (s:ByteArray) (x:List Int):s.size<=(Pr.rowsF s x).size:=by unfold Pr.rowsF;rw [ByteArray.size_append];omega
def ROk (l:List Int):Prop:=l.length*8<=140737488351232
def RsOk (l:List (List Int)):Prop:=l.length*24<=140737488351232/\∀ x∈l,ROk x
set_option maxHeartbeats 4000000 in
theorem prows_any (oa:Option Addr) (n cap:Nat) (l:List (List Int)) (B:Nat) (w:World) (h:Rows 1 RSet B w (.slice oa n cap) l) (hl:RsOk l) (hz:(Pr.rows l).size<=4611686018427387904):Calls Try.prog 72 #[.slice oa n cap] w fun e w'=>e=.returned (.string (Pr.rows l))/\Mod [] w w':=by
 obtain rfl:n=l.length:=by obtain ⟨_,_,he,_⟩:=h;simp at he;omega
 have HR:=Hi h;have HL:=Hi hl;have HDL:=Hi (fun W=>digits_any (l.length:Int) W (by have:=hl.1;unfold I64;omega));have HFIN:=Hi (show Pr.run Pr.rowsF (Pr.dig l.length) (l.take l.length)=Pr.rows l by rw [List.take_length];rfl);have HS:=Hi (fun i=>Nat.le_trans (Pr.take_le Pr.rowsF Pr.rowsF_ge l (Pr.dig l.length) i) hz);have H0:=Hi (show Pr.run Pr.rowsF (Pr.dig l.length) (l.take 0)=Pr.dig l.length from rfl);have HST:=Hi (fun i hi=>Pr.run_take Pr.rowsF (Pr.dig (l.length:Int)) l i hi);generalize Pr.rows l=fin at *
 clear h hl hz;go_enter Try.func72,Try.ntmps72;go_wp2_with fail;refine (HDL.out w).mono ?_;rintro e w1 ⟨rfl,m1⟩;have HM:=Hi m1;clear m1;go_wp2_with fail
 go_loopg [3,4] l.length (fun gk s3 s4 wr=>∃ i:Nat,s3=.string (Pr.run Pr.rowsF (Pr.dig (l.length:Int)) (l.take i))/\s4=.int .i64 (i:Int)/\Hid (i+gk=l.length)/\Hid (Mod [] w wr))
 case atStart=>exact ⟨0,by rw [H0.out],rfl,by show 0+l.length=l.length;omega,HM.out⟩
 case round =>
  obtain ⟨i,rfl,rfl,hi,HI⟩:=hrel;clear HM
  by_cases hin:i<l.length
  case neg =>
   obtain rfl:i=l.length:=by have:=hi.out;omega
   have k1:decide ((l.length:Int)<(l.length:Int))=false:=decide_eq_false (by omega);go_wp2_with fail;go_ret;exact ⟨by rw [<- HFIN.out];rfl,HI.out⟩
  have k1:decide ((i:Int)<(l.length:Int))=true:=decide_eq_true (by omega);have k2:(0:Int)<=i:=by omega
  have k3:(i:Int)<(l.length:Int):=by omega
  obtain ⟨a,rfl,-,cs,-,hc0,-,vx,rfl,hx⟩:=(HR.out.mod RSet.stay HI.out).at i hin;obtain ⟨ox,cx,rfl,-⟩:=hx.form;have c0:=hc0 (by decide);simp only [List.getElem?_cons_zero,Nat.mul_one] at c0;have ei:IntKind.i64.wrap ((i:Int)+1)=(i:Int)+1:=IntWalk.i64_in _ (by have:=HL.out.1;omega);have HNX:=Hi (HST.out i hin);change Hid (Pr.run Pr.rowsF (Pr.dig (l.length:Int)) (l.take (i+1))=Pr.run Pr.rowsF (Pr.dig (l.length:Int)) (l.take i)++Pr.row l[i]) at HNX;have z1:¬ 9223372036854775807<(Pr.run Pr.rowsF (Pr.dig (l.length:Int)) (l.take i)).size+(Pr.row l[i]).size:=by
   have h1:=HS.out (i+1);rw [HNX.out,ByteArray.size_append] at h1;omega
  generalize Pr.run Pr.rowsF (Pr.dig (l.length:Int)) (l.take i)=si at *
  have HX:=Hi (prow_any ox (l[i]).length cx l[i] B wr hx (HL.out.2 _ (List.getElem_mem hin)));generalize Pr.row l[i]=dx at *
  generalize l[i]=x at *
  clear hc0 hx hin;go_wp2_with fail;refine HX.out.mono ?_;rintro e w2 ⟨rfl,m2⟩;have HM2:=Hi (HI.out.then m2);clear c0 m2 HX;go_wp2_with fail;go_roundg (gk - 1)
  case measure=>have:=hi.out;omega
  case rel=>exact ⟨i+1,by rw [HNX.out],by rw [Int.natCast_add];rfl,by have:=hi.out;show i+1+(gk - 1)=l.length;omega,HM2.out⟩
def Pr.callF (s:ByteArray) (c:DCall):ByteArray:=s++Pr.dig c.pos++Pr.dig c.lookup
def Pr.ruleA (s:ByteArray) (r:DRule):ByteArray:=s++Pr.rows r.back++Pr.rows r.ins++Pr.rows r.ahead++Pr.row r.out++Pr.dig r.calls.length
def Pr.ruleF (s:ByteArray) (r:DRule):ByteArray:=Pr.run Pr.callF (Pr.ruleA s r) r.calls++Pr.dig r.x
def Pr.look0 (d:DLookup):ByteArray:=Pr.dig d.kind++Pr.yes d.ignore++Pr.dig d.rules.length
def Pr.lookup (d:DLookup):ByteArray:=Pr.run Pr.ruleF (Pr.look0 d) d.rules
theorem Pr.callF_ge (s:ByteArray) (x:DCall):s.size<=(Pr.callF s x).size:=by unfold Pr.callF;simp only [ByteArray.size_append];omega
theorem Pr.ruleA_ge (s:ByteArray) (x:DRule):s.size<=(Pr.ruleA s x).size:=by unfold Pr.ruleA;simp only [ByteArray.size_append];omega
theorem Pr.ruleF_ge (s:ByteArray) (x:DRule):s.size<=(Pr.ruleF s x).size:=by
 unfold Pr.ruleF;rw [ByteArray.size_append];have h1:=Pr.run_ge Pr.callF Pr.callF_ge x.calls (Pr.ruleA s x);have h2:=Pr.ruleA_ge s x;omega
def RlOk (r:DRule):Prop:=RsOk r.back/\RsOk r.ins/\RsOk r.ahead/\ROk r.out/\r.calls.length*16<=140737488351232
def LkOk (d:DLookup):Prop:=d.rules.length*128<=140737488351232/\∀ r∈d.rules,RlOk r
set_option maxHeartbeats 16000000 in
theorem plook_any (d:DLookup) (B:Nat) (cs:List Value) (w:World) (h:RLookup B w cs d) (hq:LkOk d) (hz:(Pr.lookup d).size<=4611686018427387904) :
  Calls Try.prog 45 #[.agg cs.toArray] w fun e w'=>e=.returned (.string (Pr.lookup d))/\Mod [] w w':=by
 obtain ⟨v2,rfl,hk,h2⟩:=h;obtain ⟨kind,ign,rules⟩:=d;simp only at hk h2;obtain ⟨o2,c2,rfl,-⟩:=h2.form;have HS:=Hi (fun i=>Nat.le_trans (Pr.take_le Pr.ruleF Pr.ruleF_ge rules (Pr.look0 ⟨kind,ign,rules⟩) i) hz);have HST:=Hi (fun i hi=>Pr.run_take Pr.ruleF (Pr.look0 ⟨kind,ign,rules⟩) rules i hi);have HFIN:=Hi (show Pr.run Pr.ruleF (Pr.look0 ⟨kind,ign,rules⟩) (rules.take rules.length)=Pr.lookup ⟨kind,ign,rules⟩ by rw [List.take_length];rfl);have T:=Hi ((Own.start w).alloc #[.int .i64 kind,.bool ign,.slice o2 rules.length c2] 113);have H2:=Hi h2;have HQ:Hid (rules.length*128<=140737488351232/\∀ r∈rules,RlOk r):=hq;have D0:=Hi (fun W=>digits_any kind W hk);have D1:=Hi (fun W=>yes_any ign W);have D2:=Hi (fun W=>digits_any (rules.length:Int) W (by have h9:rules.length*128<=140737488351232:=hq.1;unfold I64;omega));have x0:=HS.out 0;have x1:Pr.run Pr.ruleF (Pr.look0 ⟨kind,ign,rules⟩) (rules.take 0)=Pr.dig kind++Pr.yes ign++Pr.dig rules.length:=rfl;rw [x1] at x0;simp only [ByteArray.size_append] at x0;have z1:¬ 9223372036854775807<(Pr.dig kind).size+(Pr.yes ign).size:=by omega
 have z2:¬ 9223372036854775807<(Pr.dig kind).size+(Pr.yes ign).size+(Pr.dig (rules.length:Int)).size:=by omega
 have E0:=Hi x1;generalize Pr.look0 ⟨kind,ign,rules⟩=S0 at *
 generalize Pr.lookup ⟨kind,ign,rules⟩=fin at *
 clear x0 x1 hq hz hk h2;go_enter Try.func45,Try.ntmps45;go_upto_region 1 with fail;generalize w.alloc (.cells #[.int .i64 kind,.bool ign,.slice o2 rules.length c2] 113)=W0 at *
 have A0:=(T.out.at 0 rfl).every;refine wp_region_mask 12 [true,true,true,true,true,true,true,true,true,true,true,true] [] (by kernel_rfl) (by kernel_rfl) (by simp) ?_;simp only [pickM]
 iterate 2
  refine sv ?_
 refine sc (a':=?_) (fun w' hw' K Q hK=>?_) ?_ ?_;rotate_left
 ·go_wp2_with fail;refine ((calls_mod D0.out) _ hw').mono ?_;rintro e w'' ⟨rfl,m''⟩;go_wp2_with fail;exact hK _ m''
 ·rfl
 iterate 2
  refine sv ?_
 refine sc (a':=?_) (fun w' hw' K Q hK=>?_) ?_ ?_;rotate_left
 ·go_wp2_with fail;refine ((calls_mod D1.out) _ hw').mono ?_;rintro e w'' ⟨rfl,m''⟩;go_wp2_with fail;exact hK _ m''
 ·rfl
 iterate 4
  refine sv ?_
 refine sc (a':=?_) (fun w' hw' K Q hK=>?_) ?_ ?_;rotate_left
 ·go_wp2_with fail;refine ((calls_mod D2.out) _ hw').mono ?_;rintro e w'' ⟨rfl,m''⟩;go_wp2_with fail;exact hK _ m''
 ·rfl
 refine sv ?_;refine steady_done ?_;refine lates_end (fun w' hw' _=>?_);simp only [List.drop_succ_cons,List.drop_zero];have T1:=Hi (T.out.call hw');clear A0 T hw' z1 z2 D0 D1 D2;go_wp2_with fail
 go_loopg [3,4,5,6] rules.length (fun gk s3 s4 s5 s6 wr=>∃ i:Nat,s3=.string (Pr.run Pr.ruleF S0 (rules.take i))/\s4=.int .i64 (i:Int)/\Hid (i+gk=rules.length)/\Hid (Own w wr [(w.heap.size,#[.int .i64 kind,.bool ign,.slice o2 rules.length c2],113)]))
 case atStart=>exact ⟨0,by rw [E0.out],rfl,by show 0+rules.length=rules.length;omega,T1.out⟩
 case round =>
  obtain ⟨i,rfl,rfl,hi,HI⟩:=hrel;clear T1 E0;have q0:=(HI.out.at 0 rfl).cell 2;simp only [List.getElem?_toArray,List.getElem?_cons_zero,List.getElem?_cons_succ] at q0
  by_cases hin:i<rules.length
  case neg =>
   obtain rfl:i=rules.length:=by have:=hi.out;omega
   have k1:decide ((rules.length:Int)<(rules.length:Int))=false:=decide_eq_false (by omega);go_wp2_with fail;go_ret;exact ⟨by rw [<- HFIN.out];rfl,HI.out.mod⟩
  have k1:decide ((i:Int)<(rules.length:Int))=true:=decide_eq_true (by omega);have k2:(0:Int)<=i:=by omega
  have k3:(i:Int)<(rules.length:Int):=by omega
  have ei:IntKind.i64.wrap ((i:Int)+1)=(i:Int)+1:=IntWalk.i64_in _ (by have:=HQ.out.1;omega);have HOK:=Hi (HQ.out.2 _ (List.getElem_mem hin));have hR:=(H2.out.mod RRule.stay HI.out.mod).at i hin;have HNX:=Hi (HST.out i hin);have y0:=HS.out (i+1);rw [HNX.out] at y0;generalize rules[i]=r at *
  obtain ⟨back,ins,ahead,out,calls,x⟩:=r;obtain ⟨a,rfl,-,cs,-,hc0,hcj,v0,v1,v2,v3,v4,rfl,r0,r1,r2,r3,r4,hx⟩:=hR;simp only at r0 r1 r2 r3 r4 hx;obtain ⟨p0,e0,rfl,-⟩:=r0.form;obtain ⟨p1,e1,rfl,-⟩:=r1.form;obtain ⟨p2,e2,rfl,-⟩:=r2.form;obtain ⟨p3,e3,rfl,-⟩:=r3.form;obtain ⟨p4,e4,rfl,-⟩:=r4.form;have d0:=hc0 (by decide);have d1:=hcj 1 (by decide) (by decide);have d2:=hcj 2 (by decide) (by decide);have d3:=hcj 3 (by decide) (by decide);have d4:=hcj 4 (by decide) (by decide);have d5:=hcj 5 (by decide) (by decide);simp only [List.getElem?_cons_zero,List.getElem?_cons_succ] at d0 d1 d2 d3 d4 d5;generalize Pr.run Pr.ruleF S0 (rules.take i)=si at *
  have hA:Pr.ruleA si ⟨back,ins,ahead,out,calls,x⟩=si++Pr.rows back++Pr.rows ins++Pr.rows ahead++Pr.row out++Pr.dig calls.length:=rfl;have hF:Pr.ruleF si ⟨back,ins,ahead,out,calls,x⟩=Pr.run Pr.callF (Pr.ruleA si ⟨back,ins,ahead,out,calls,x⟩) calls++Pr.dig x:=rfl;rw [hF] at HNX y0;have y1:=Pr.run_ge Pr.callF Pr.callF_ge calls (Pr.ruleA si ⟨back,ins,ahead,out,calls,x⟩);have y2:(Pr.ruleA si ⟨back,ins,ahead,out,calls,x⟩).size=(si++Pr.rows back++Pr.rows ins++Pr.rows ahead++Pr.row out++Pr.dig calls.length).size:=by rw [hA]
  simp only [ByteArray.size_append] at y0 y2;have HA:=Hi hA;generalize Pr.ruleA si ⟨back,ins,ahead,out,calls,x⟩=sA at *
  have X0:=Hi (fun W (m:Mod [] wr W)=>prows_any p0 back.length e0 back B W (r0.mod RSet.stay m) HOK.out.1 (by omega));have X1:=Hi (fun W (m:Mod [] wr W)=>prows_any p1 ins.length e1 ins B W (r1.mod RSet.stay m) HOK.out.2.1 (by omega));have X2:=Hi (fun W (m:Mod [] wr W)=>prows_any p2 ahead.length e2 ahead B W (r2.mod RSet.stay m) HOK.out.2.2.1 (by omega));have X3:=Hi (fun W (m:Mod [] wr W)=>prow_any p3 out.length e3 out B W (r3.mod RInt.stay m) HOK.out.2.2.2.1);have X4:=Hi (fun W=>digits_any (calls.length:Int) W (by have h9:calls.length*16<=140737488351232:=HOK.out.2.2.2.2;unfold I64;omega));have X5:=Hi (fun W=>digits_any x W hx);have HC:=Hi r4;have HCL:Hid (calls.length*16<=140737488351232):=HOK.out.2.2.2.2;have HZ:Hid ((Pr.run Pr.callF sA calls).size+(Pr.dig x).size<=4611686018427387904):=y0;have u0:¬ 9223372036854775807<si.size+(Pr.rows back).size:=by omega
  have u1:¬ 9223372036854775807<si.size+(Pr.rows back).size+(Pr.rows ins).size:=by omega
  have u2:¬ 9223372036854775807<si.size+(Pr.rows back).size+(Pr.rows ins).size+(Pr.rows ahead).size:=by omega
  have u3:¬ 9223372036854775807<si.size+(Pr.rows back).size+(Pr.rows ins).size+(Pr.rows ahead).size+(Pr.row out).size:=by omega
  have u4:¬ 9223372036854775807<si.size+(Pr.rows back).size+(Pr.rows ins).size+(Pr.rows ahead).size+(Pr.row out).size+(Pr.dig (calls.length:Int)).size:=by omega
  clear y0 y1 y2 hA hF hc0 hcj r0 r1 r2 r3 r4 hx HOK;generalize Pr.rows back=t0 at *
  generalize Pr.rows ins=t1 at *
  generalize Pr.rows ahead=t2 at *
  generalize Pr.row out=t3 at *
  generalize Pr.dig (calls.length:Int)=t4 at *
  generalize Pr.dig x=t5 at *
  generalize back.length=n0 at *
  generalize ins.length=n1 at *
  generalize ahead.length=n2 at *
  generalize out.length=n3 at *
  have T2:=Hi (HI.out.alloc #[.slice p0 n0 e0,.slice p1 n1 e1,.slice p2 n2 e2,.slice p3 n3 e3,.slice p4 calls.length e4,.int .i64 x] 117);have AL:Mod [] wr (wr.alloc (.cells #[.slice p0 n0 e0,.slice p1 n1 e1,.slice p2 n2 e2,.slice p3 n3 e3,.slice p4 calls.length e4,.int .i64 x] 117)):=(Mod.refl _ _).alloc _;have HAL:=Hi AL;have HIN:=Hi hin;clear AL hin;go_upto_region 6 with fail;clear d0 d1 d2 d3 d4 d5 q0;generalize wr.alloc (.cells #[.slice p0 n0 e0,.slice p1 n1 e1,.slice p2 n2 e2,.slice p3 n3 e3,.slice p4 calls.length e4,.int .i64 x] 117)=W5 at *
  have A1:=(T2.out.at 1 rfl).every;generalize wr.heap.size=b5 at *
  refine wp_region_mask 22 [true,true,true,true,true,true,true,true,true,true,true,true,true,true,true,true,true,true,true,true,true,true] [] (by kernel_rfl) (by kernel_rfl) (by simp) ?_;simp only [pickM]
  iterate 3
   refine sv ?_
  refine sc (a':=?_) (fun w' hw' K Q hK=>?_) ?_ ?_;rotate_left
  ·go_wp2_with fail;refine ((fun W m=>X0.out W (HAL.out.then m)) _ hw').mono ?_;rintro e w'' ⟨rfl,m''⟩;go_wp2_with fail;exact hK _ m''
  ·rfl
  iterate 3
   refine sv ?_
  refine sc (a':=?_) (fun w' hw' K Q hK=>?_) ?_ ?_;rotate_left
  ·go_wp2_with fail;refine ((fun W m=>X1.out W (HAL.out.then m)) _ hw').mono ?_;rintro e w'' ⟨rfl,m''⟩;go_wp2_with fail;exact hK _ m''
  ·rfl
  iterate 3
   refine sv ?_
  refine sc (a':=?_) (fun w' hw' K Q hK=>?_) ?_ ?_;rotate_left
  ·go_wp2_with fail;refine ((fun W m=>X2.out W (HAL.out.then m)) _ hw').mono ?_;rintro e w'' ⟨rfl,m''⟩;go_wp2_with fail;exact hK _ m''
  ·rfl
  iterate 3
   refine sv ?_
  refine sc (a':=?_) (fun w' hw' K Q hK=>?_) ?_ ?_;rotate_left
  ·go_wp2_with fail;refine ((fun W m=>X3.out W (HAL.out.then m)) _ hw').mono ?_;rintro e w'' ⟨rfl,m''⟩;go_wp2_with fail;exact hK _ m''
  ·rfl
  iterate 4
   refine sv ?_
  refine sc (a':=?_) (fun w' hw' K Q hK=>?_) ?_ ?_;rotate_left
  ·go_wp2_with fail;refine ((calls_mod X4.out) _ hw').mono ?_;rintro e w'' ⟨rfl,m''⟩;go_wp2_with fail;exact hK _ m''
  ·rfl
  refine sv ?_;refine steady_done ?_;refine lates_end (fun w' hw' _=>?_);simp only [List.drop_succ_cons,List.drop_zero];have T3:=Hi (T2.out.call hw');have HMW:=Hi (HAL.out.then hw');clear A1 hw' X0 X1 X2 X3 X4 u0 u1 u2 u3 u4 T2 HAL;rw [<- HA.out];clear HA;go_wp2_with fail;generalize gk=G at *
  obtain ⟨wo,hwo⟩:∃ wo,wo=wr:=⟨_,rfl⟩
  subst hwo
  go_loopg [3,6] calls.length (fun gj s3 s6 ws=>∃ j:Nat,s3=.string (Pr.run Pr.callF sA (calls.take j))/\s6=.int .i64 (j:Int)/\Hid (j+gj=calls.length)/\Hid (Own w ws [(w.heap.size,#[.int .i64 kind,.bool ign,.slice (some a) rules.length c2],113),(b5,#[.slice p0 n0 e0,.slice p1 n1 e1,.slice p2 n2 e2,.slice p3 n3 e3,.slice p4 calls.length e4,.int .i64 x],117)])/\Hid (Mod [] wo ws))
  case atStart=>exact ⟨0,rfl,rfl,by show 0+calls.length=calls.length;omega,T3.out,HMW.out⟩
  case round =>
   obtain ⟨j,rfl,rfl,hj,HJ,HMJ⟩:=hrel;clear T3 HMW;have g4:=(HJ.out.at 1 rfl).cell 4;have g5:=(HJ.out.at 1 rfl).cell 5;simp only [List.getElem?_toArray,List.getElem?_cons_zero,List.getElem?_cons_succ] at g4 g5
   by_cases hjn:j<calls.length
   case neg =>
    obtain rfl:j=calls.length:=by have:=hj.out;omega
    have k5:decide ((calls.length:Int)<(calls.length:Int))=false:=decide_eq_false (by omega);have EE:Pr.run Pr.callF sA (calls.take calls.length)=Pr.run Pr.callF sA calls:=by rw [List.take_length]
    rw [EE];have z5:¬ 9223372036854775807<(Pr.run Pr.callF sA calls).size+t5.size:=by have:=HZ.out;omega
    clear EE hjn;generalize Pr.run Pr.callF sA calls=sB at *
    go_wp2_with fail;refine (X5.out _).mono ?_;rintro e w2 ⟨rfl,m2⟩;have T4:=Hi (HJ.out.call m2);clear m2 X5 g4 g5;go_wp2_with fail;go_roundg (G - 1)
    case measure=>have:=hi.out;have:=HIN.out;omega
    case rel=>exact ⟨i+1,by rw [HNX.out],by rw [Int.natCast_add];rfl,by have:=hi.out;have:=HIN.out;show i+1+(G - 1)=rules.length;omega,T4.out.left⟩
   have k5:decide ((j:Int)<(calls.length:Int))=true:=decide_eq_true (by omega);have k6:(0:Int)<=j:=by omega
   have k7:(j:Int)<(calls.length:Int):=by omega
   have ej:IntKind.i64.wrap ((j:Int)+1)=(j:Int)+1:=IntWalk.i64_in _ (by have:=HCL.out;omega);have hC:=(HC.out.mod RCall.stay HMJ.out).at j hjn;have HNC:=Hi (Pr.run_take Pr.callF sA calls j hjn);have y0:=Pr.take_le Pr.callF Pr.callF_ge calls sA (j+1);have y1:=HZ.out;rw [HNC.out] at y0;generalize calls[j]=c at *
   obtain ⟨pos,lk⟩:=c;have hF:Pr.callF (Pr.run Pr.callF sA (calls.take j)) ⟨pos,lk⟩=Pr.run Pr.callF sA (calls.take j)++Pr.dig pos++Pr.dig lk:=rfl;rw [hF] at HNC y0;simp only [ByteArray.size_append] at y0;obtain ⟨ac,rfl,-,cs,-,hc0,hcj,rfl,b0,b1⟩:=hC;have d0:=hc0 (by decide);have d1:=hcj 1 (by decide) (by decide);simp only [List.getElem?_cons_zero,List.getElem?_cons_succ] at d0 d1;generalize Pr.run Pr.callF sA (calls.take j)=sj at *
   have X0:=Hi (fun W=>digits_any pos W b0);have X1:=Hi (fun W=>digits_any lk W b1);have u0:¬ 9223372036854775807<sj.size+(Pr.dig pos).size:=by omega
   have u1:¬ 9223372036854775807<sj.size+(Pr.dig pos).size+(Pr.dig lk).size:=by omega
   have Y0:∀ W,Mod [] wr W->W.cell? (ac.add (j*2))=some (.int .i64 pos):=fun W m=>cell_stays m d0
   have Y1:∀ W,Mod [] wr W->W.cell? ⟨(ac.add (j*2)).block,(ac.add (j*2)).off+1,none⟩=some (.int .i64 lk):=fun W m=>cell_stays m d1
   have HJN:=Hi hjn;clear y0 y1 hF hc0 hcj b0 b1 hjn;generalize Pr.dig pos=t6 at *
   generalize Pr.dig lk=t7 at *
   have A1:=(HJ.out.at 1 rfl).every;go_upto_region 10 with fail;clear d0 d1 g4 g5;refine wp_region_mask 17 [true,true,true,true,true,true,true,true,true,true,true,true,true,true,true,true,true] [] (by kernel_rfl) (by kernel_rfl) (by simp) ?_;simp only [pickM]
   iterate 7
    refine sv ?_
   refine sc (a':=?_) (fun w' hw' K Q hK=>?_) ?_ ?_;rotate_left
   ·go_wp2_with fail;refine ((calls_mod X0.out) _ hw').mono ?_;rintro e w'' ⟨rfl,m''⟩;go_wp2_with fail;exact hK _ m''
   ·rfl
   iterate 7
    refine sv ?_
   refine sc (a':=?_) (fun w' hw' K Q hK=>?_) ?_ ?_;rotate_left
   ·go_wp2_with fail;refine ((calls_mod X1.out) _ hw').mono ?_;rintro e w'' ⟨rfl,m''⟩;go_wp2_with fail;exact hK _ m''
   ·rfl
   refine sv ?_;refine steady_done ?_;refine lates_end (fun w' hw' _=>?_);simp only [List.drop_succ_cons,List.drop_zero];have T4:=Hi (HJ.out.call hw');have HM4:=Hi (HMJ.out.then hw');clear A1 hw' X0 X1 u0 u1 Y0 Y1;go_wp2_with fail;go_roundg (gk - 1)
   case measure=>have:=hj.out;have:=HJN.out;omega
   case rel=>exact ⟨j+1,by rw [HNC.out],by rw [Int.natCast_add];rfl,by have:=hj.out;have:=HJN.out;show j+1+(gk - 1)=calls.length;omega,T4.out,HM4.out⟩
theorem Pr.yes_size (b:Bool):(Pr.yes b).size=2:=by cases b <;> rfl
def Pr.ptF (s:ByteArray) (p:DPoint):ByteArray:=s++Pr.dig p.x++Pr.dig p.y++Pr.yes p.on
def Pr.partF (s:ByteArray) (p:DPart):ByteArray:=s++Pr.dig p.glyph++Pr.dig p.x++Pr.dig p.y
def Pr.anchorF (s:ByteArray) (p:DAnchor):ByteArray:=s++Pr.dig p.kind++Pr.dig p.cls++Pr.dig p.x++Pr.dig p.y
def Pr.deltaF (s:ByteArray) (p:DDelta):ByteArray:=s++Pr.dig p.region++Pr.dig p.point++Pr.dig p.x++Pr.dig p.y
theorem Pr.ptF_size (s:ByteArray) (p:DPoint):(Pr.ptF s p).size<=s.size+46:=by
 unfold Pr.ptF;simp only [ByteArray.size_append,Pr.yes_size];have:=Pr.dig_size p.x;have:=Pr.dig_size p.y;omega
theorem Pr.partF_size (s:ByteArray) (p:DPart):(Pr.partF s p).size<=s.size+66:=by
 unfold Pr.partF;simp only [ByteArray.size_append];have:=Pr.dig_size p.glyph;have:=Pr.dig_size p.x;have:=Pr.dig_size p.y;omega
theorem Pr.anchorF_size (s:ByteArray) (p:DAnchor):(Pr.anchorF s p).size<=s.size+88:=by
 unfold Pr.anchorF;simp only [ByteArray.size_append];have:=Pr.dig_size p.kind;have:=Pr.dig_size p.cls;have:=Pr.dig_size p.x;have:=Pr.dig_size p.y;omega
theorem Pr.deltaF_size (s:ByteArray) (p:DDelta):(Pr.deltaF s p).size<=s.size+88:=by
 unfold Pr.deltaF;simp only [ByteArray.size_append];have:=Pr.dig_size p.region;have:=Pr.dig_size p.point;have:=Pr.dig_size p.x;have:=Pr.dig_size p.y;omega
def Pr.s0 (g:DGlyph):ByteArray:=Pr.dig g.name.size++g.name++⟨#[32]⟩++Pr.dig g.adv++Pr.yes g.mark++Pr.dig g.pts.length
def Pr.s1 (g:DGlyph):ByteArray:=Pr.run Pr.ptF (Pr.s0 g) g.pts
def Pr.s2 (g:DGlyph):ByteArray:=Pr.s1 g++Pr.row g.ends++Pr.dig g.parts.length
def Pr.s3 (g:DGlyph):ByteArray:=Pr.run Pr.partF (Pr.s2 g) g.parts
def Pr.s4 (g:DGlyph):ByteArray:=Pr.s3 g++Pr.dig g.anchors.length
def Pr.s5 (g:DGlyph):ByteArray:=Pr.run Pr.anchorF (Pr.s4 g) g.anchors
def Pr.s6 (g:DGlyph):ByteArray:=Pr.s5 g++Pr.dig g.deltas.length
def Pr.s7 (g:DGlyph):ByteArray:=Pr.run Pr.deltaF (Pr.s6 g) g.deltas
def Pr.glyph (g:DGlyph):ByteArray:=Pr.s7 g++Pr.code g.hint
def PSmall (g:DGlyph):Prop:=g.name.size<=140737488351232/\g.pts.length*24<=140737488351232/\g.ends.length*8<=140737488351232/\g.parts.length*24<=140737488351232/\g.anchors.length*32<=140737488351232/\g.deltas.length*32<=140737488351232/\g.hint.length*16<=140737488351232
theorem Pr.sizes (g:DGlyph) (h:PSmall g):(Pr.s0 g).size<=140737488351332/\(Pr.s1 g).size<=1000000000000000/\(Pr.s2 g).size<=2000000000000000/\(Pr.s3 g).size<=3000000000000000/\(Pr.s4 g).size<=3000000000000022/\(Pr.s5 g).size<=4000000000000000/\(Pr.s6 g).size<=4000000000000022/\(Pr.s7 g).size<=5000000000000000:=by
 obtain ⟨h1,h2,h3,h4,h5,h6,h7⟩:=h;have a0:(Pr.s0 g).size<=140737488351332:=by
  unfold Pr.s0;simp only [ByteArray.size_append,Pr.yes_size];have:=Pr.dig_size (g.name.size:Int);have:=Pr.dig_size g.adv;have:=Pr.dig_size (g.pts.length:Int);have:(⟨#[32]⟩:ByteArray).size=1:=rfl;omega
 have a1:(Pr.s1 g).size<=1000000000000000:=by
  have:=Pr.run_size Pr.ptF 46 Pr.ptF_size g.pts (Pr.s0 g);unfold Pr.s1;omega
 have a2:(Pr.s2 g).size<=2000000000000000:=by
  have:=Pr.row_size g.ends;have:=Pr.dig_size (g.parts.length:Int);unfold Pr.s2;simp only [ByteArray.size_append];omega
 have a3:(Pr.s3 g).size<=3000000000000000:=by
  have:=Pr.run_size Pr.partF 66 Pr.partF_size g.parts (Pr.s2 g);unfold Pr.s3;omega
 have a4:(Pr.s4 g).size<=3000000000000022:=by
  have:=Pr.dig_size (g.anchors.length:Int);unfold Pr.s4;simp only [ByteArray.size_append];omega
 have a5:(Pr.s5 g).size<=4000000000000000:=by
  have:=Pr.run_size Pr.anchorF 88 Pr.anchorF_size g.anchors (Pr.s4 g);unfold Pr.s5;omega
 have a6:(Pr.s6 g).size<=4000000000000022:=by
  have:=Pr.dig_size (g.deltas.length:Int);unfold Pr.s6;simp only [ByteArray.size_append];omega
 have a7:(Pr.s7 g).size<=5000000000000000:=by
  have:=Pr.run_size Pr.deltaF 88 Pr.deltaF_size g.deltas (Pr.s6 g);unfold Pr.s7;omega
 exact ⟨a0,a1,a2,a3,a4,a5,a6,a7⟩
set_option maxHeartbeats 16000000 in
theorem pglyph_any (g:DGlyph) (B:Nat) (cs:List Value) (w:World) (h:RGlyph B w cs g) (hs:PSmall g) :
  Calls Try.prog 44 #[.agg cs.toArray] w fun e w'=>e=.returned (.string (Pr.glyph g))/\Mod [] w w':=by
 obtain ⟨v3,v4,v5,v6,v7,v8,rfl,hn,ha,h3,h4,h5,h6,h7,h8⟩:=h;have hz:=Pr.sizes g hs;obtain ⟨s1,s2,s3,s4,s5,s6,s7⟩:=hs;obtain ⟨name,adv,mark,pts,ends,parts,anchors,deltas,hint⟩:=g;simp only at *
 obtain ⟨o3,c3,rfl,-⟩:=h3.form;obtain ⟨o4,c4,rfl,-⟩:=h4.form;obtain ⟨o5,c5,rfl,-⟩:=h5.form;obtain ⟨o6,c6,rfl,-⟩:=h6.form;obtain ⟨o7,c7,rfl,-⟩:=h7.form;obtain ⟨o8,c8,rfl,-⟩:=h8.form;have T:=Hi ((Own.start w).alloc #[.string name,.int .i64 adv,.bool mark,.slice o3 pts.length c3,.slice o4 ends.length c4,.slice o5 parts.length c5,.slice o6 anchors.length c6,.slice o7 deltas.length c7,.slice o8 hint.length c8] 51);have H3:=Hi h3;have H5:=Hi h5;have H6:=Hi h6;have H7:=Hi h7;have HSM:=Hi (And.intro s1 (And.intro s2 (And.intro s3 (And.intro s4 (And.intro s5 (And.intro s6 s7))))));have HZ:=Hi hz;have HEN:=Hi (fun W (m:Mod [] w W)=>prow_any o4 ends.length c4 ends B W (h4.mod RInt.stay m) s3);have HHI:=Hi (fun W (m:Mod [] w W)=>pcode_any o8 hint.length c8 hint B W (h8.mod RIns.stay m) s7);have D0:=Hi (fun W=>digits_any (name.size:Int) W (by unfold I64;omega));have D1:=Hi (fun W=>digits_any adv W ha);have D2:=Hi (fun W=>yes_any mark W);have D3:=Hi (fun W=>digits_any (pts.length:Int) W (by unfold I64;omega));have D5:=Hi (fun W=>digits_any (parts.length:Int) W (by unfold I64;omega));have D6:=Hi (fun W=>digits_any (anchors.length:Int) W (by unfold I64;omega));have D7:=Hi (fun W=>digits_any (deltas.length:Int) W (by unfold I64;omega));have x0:=Pr.dig_size (name.size:Int);have x1:=Pr.dig_size adv;have x2:=Pr.yes_size mark;have x3:=Pr.dig_size (pts.length:Int);have z1:¬ 9223372036854775807<(Pr.dig (name.size:Int)).size+name.size:=by omega
 have z2:¬ 9223372036854775807<(Pr.dig (name.size:Int)).size+name.size+1:=by omega
 have z3:¬ 9223372036854775807<(Pr.dig (name.size:Int)).size+name.size+1+(Pr.dig adv).size:=by omega
 have z4:¬ 9223372036854775807<(Pr.dig (name.size:Int)).size+name.size+1+(Pr.dig adv).size+(Pr.yes mark).size:=by omega
 have z5:¬ 9223372036854775807<(Pr.dig (name.size:Int)).size+name.size+1+(Pr.dig adv).size+(Pr.yes mark).size+(Pr.dig (pts.length:Int)).size:=by omega
 clear hz s1 s2 s3 s4 s5 s6 s7 hn ha h3 h4 h5 h6 h7 h8 x0 x1 x2 x3;have E0:=Hi (show Pr.dig (name.size:Int)++name++⟨#[32]⟩++Pr.dig adv++Pr.yes mark++Pr.dig (pts.length:Int)=Pr.s0 ⟨name,adv,mark,pts,ends,parts,anchors,deltas,hint⟩ from rfl);go_enter Try.func44,Try.ntmps44;go_upto_region 1 with fail;generalize w.alloc (.cells #[.string name,.int .i64 adv,.bool mark,.slice o3 pts.length c3,.slice o4 ends.length c4,.slice o5 parts.length c5,.slice o6 anchors.length c6,.slice o7 deltas.length c7,.slice o8 hint.length c8] 51)=W0 at *
 have A0:=(T.out.at 0 rfl).every;refine wp_region_mask 22 [true,true,true,true,true,true,true,true,true,true,true,true,true,true,true,true,true,true,true,true,true,true] [] (by kernel_rfl) (by kernel_rfl) (by simp) ?_;simp only [pickM]
 iterate 3
  refine sv ?_
 refine sc (a':=?_) (fun w' hw' K Q hK=>?_) ?_ ?_;rotate_left
 ·go_wp2_with fail;refine ((calls_mod D0.out) _ hw').mono ?_;rintro e w'' ⟨rfl,m''⟩;go_wp2_with fail;exact hK _ m''
 ·rfl
 iterate 6
  refine sv ?_
 refine sc (a':=?_) (fun w' hw' K Q hK=>?_) ?_ ?_;rotate_left
 ·go_wp2_with fail;refine ((calls_mod D1.out) _ hw').mono ?_;rintro e w'' ⟨rfl,m''⟩;go_wp2_with fail;exact hK _ m''
 ·rfl
 iterate 3
  refine sv ?_
 refine sc (a':=?_) (fun w' hw' K Q hK=>?_) ?_ ?_;rotate_left
 ·go_wp2_with fail;refine ((calls_mod D2.out) _ hw').mono ?_;rintro e w'' ⟨rfl,m''⟩;go_wp2_with fail;exact hK _ m''
 ·rfl
 iterate 5
  refine sv ?_
 refine sc (a':=?_) (fun w' hw' K Q hK=>?_) ?_ ?_;rotate_left
 ·go_wp2_with fail;refine ((calls_mod D3.out) _ hw').mono ?_;rintro e w'' ⟨rfl,m''⟩;go_wp2_with fail;exact hK _ m''
 ·rfl
 refine sv ?_;refine steady_done ?_;refine lates_end (fun w' hw' _=>?_);simp only [List.drop_succ_cons,List.drop_zero];have T1:=Hi (T.out.call hw');clear A0 T hw' z1 z2 z3 z4 z5 D0 D1 D2 D3;go_wp2_with fail
 go_loopg [3,4] pts.length (fun gk s3 s4 wr=>∃ i:Nat,s3=.string (Pr.run Pr.ptF (Pr.s0 ⟨name,adv,mark,pts,ends,parts,anchors,deltas,hint⟩) (pts.take i))/\s4=.int .i64 (i:Int)/\Hid (i+gk=pts.length)/\Hid (Own w wr [(w.heap.size,#[.string name,.int .i64 adv,.bool mark,.slice o3 pts.length c3,.slice o4 ends.length c4,.slice o5 parts.length c5,.slice o6 anchors.length c6,.slice o7 deltas.length c7,.slice o8 hint.length c8],51)]))
 case atStart=>exact ⟨0,by first | rfl | (rw [E0.out];rfl),rfl,by show 0+pts.length=pts.length;omega,T1.out⟩
 obtain ⟨i,rfl,rfl,hi,HI⟩:=hrel;clear T1 E0;have q0:=(HI.out.at 0 rfl).cell 3;simp only [List.getElem?_toArray,List.getElem?_cons_zero,List.getElem?_cons_succ] at q0
 by_cases hin:i<pts.length
 case pos =>
  have k1:decide ((i:Int)<(pts.length:Int))=true:=decide_eq_true (by omega);have k2:(0:Int)<=i:=by omega
  have k3:(i:Int)<(pts.length:Int):=by omega
  obtain ⟨a,rfl,-,cs,-,hc0,hcj,rfl,b0,b1⟩:=(H3.out.mod RPoint.stay HI.out.mod).at i hin;have d0:=hc0 (by decide);have d1:=hcj 1 (by decide) (by decide);have d2:=hcj 2 (by decide) (by decide);simp only [List.getElem?_cons_zero,List.getElem?_cons_succ] at d0 d1 d2;have ei:IntKind.i64.wrap ((i:Int)+1)=(i:Int)+1:=IntWalk.i64_in _ (by have:=HSM.out;omega);have HNX:=Hi (Pr.run_take Pr.ptF (Pr.s0 ⟨name,adv,mark,pts,ends,parts,anchors,deltas,hint⟩) pts i hin);have y0:=Pr.take_size Pr.ptF 46 Pr.ptF_size pts (Pr.s0 ⟨name,adv,mark,pts,ends,parts,anchors,deltas,hint⟩) i;have y1:=HZ.out;have y2:=HSM.out;have u0:=Pr.dig_size (pts[i]).x;have u1:=Pr.dig_size (pts[i]).y;have u2:=Pr.yes_size (pts[i]).on;have z0:¬ 9223372036854775807<(Pr.run Pr.ptF (Pr.s0 ⟨name,adv,mark,pts,ends,parts,anchors,deltas,hint⟩) (pts.take i)).size+(Pr.dig (pts[i]).x).size:=by omega
  have z1:¬ 9223372036854775807<(Pr.run Pr.ptF (Pr.s0 ⟨name,adv,mark,pts,ends,parts,anchors,deltas,hint⟩) (pts.take i)).size+(Pr.dig (pts[i]).x).size+(Pr.dig (pts[i]).y).size:=by omega
  have z2:¬ 9223372036854775807<(Pr.run Pr.ptF (Pr.s0 ⟨name,adv,mark,pts,ends,parts,anchors,deltas,hint⟩) (pts.take i)).size+(Pr.dig (pts[i]).x).size+(Pr.dig (pts[i]).y).size+(Pr.yes (pts[i]).on).size:=by omega
  change Hid (Pr.run Pr.ptF (Pr.s0 ⟨name,adv,mark,pts,ends,parts,anchors,deltas,hint⟩) (pts.take (i+1))=Pr.run Pr.ptF (Pr.s0 ⟨name,adv,mark,pts,ends,parts,anchors,deltas,hint⟩) (pts.take i)++Pr.dig (pts[i]).x++Pr.dig (pts[i]).y++Pr.yes (pts[i]).on) at HNX;clear y0 y1 y2 u0 u1 u2 hc0 hcj;generalize Pr.run Pr.ptF (Pr.s0 ⟨name,adv,mark,pts,ends,parts,anchors,deltas,hint⟩) (pts.take i)=si at *
  have X0:=Hi (fun W=>digits_any (pts[i]).x W b0);have X1:=Hi (fun W=>digits_any (pts[i]).y W b1);have X2:=Hi (fun W=>yes_any (pts[i]).on W);generalize Pr.dig (pts[i]).x=e0 at *
  generalize Pr.dig (pts[i]).y=e1 at *
  generalize Pr.yes (pts[i]).on=e2 at *
  generalize (pts[i]).x=p0 at *
  generalize (pts[i]).y=p1 at *
  generalize (pts[i]).on=p2 at *
  clear b0 b1 hin;have T2:=Hi (HI.out.alloc #[.int .i64 p0,.int .i64 p1,.bool p2] 67);go_upto_region 6 with fail;clear d0 d1 d2 q0;generalize wr.alloc (.cells #[.int .i64 p0,.int .i64 p1,.bool p2] 67)=W5 at *
  generalize wr.heap.size=b5 at *
  have A1:=(T2.out.at 1 rfl).every;refine wp_region_mask 13 [true,true,true,true,true,true,true,true,true,true,true,true,true] [] (by kernel_rfl) (by kernel_rfl) (by simp) ?_;simp only [pickM]
  iterate 3
   refine sv ?_
  refine sc (a':=?_) (fun w' hw' K Q hK=>?_) ?_ ?_;rotate_left
  ·go_wp2_with fail;refine ((calls_mod X0.out) _ hw').mono ?_;rintro e w'' ⟨rfl,m''⟩;go_wp2_with fail;exact hK _ m''
  ·rfl
  iterate 3
   refine sv ?_
  refine sc (a':=?_) (fun w' hw' K Q hK=>?_) ?_ ?_;rotate_left
  ·go_wp2_with fail;refine ((calls_mod X1.out) _ hw').mono ?_;rintro e w'' ⟨rfl,m''⟩;go_wp2_with fail;exact hK _ m''
  ·rfl
  iterate 3
   refine sv ?_
  refine sc (a':=?_) (fun w' hw' K Q hK=>?_) ?_ ?_;rotate_left
  ·go_wp2_with fail;refine ((calls_mod X2.out) _ hw').mono ?_;rintro e w'' ⟨rfl,m''⟩;go_wp2_with fail;exact hK _ m''
  ·rfl
  refine sv ?_;refine steady_done ?_;refine lates_end (fun w' hw' _=>?_);simp only [List.drop_succ_cons,List.drop_zero];have T3:=Hi (T2.out.call hw');clear A1 hw' X0 X1 X2;go_wp2_with fail;go_roundg (gk - 1)
  case measure=>have:=hi.out;omega
  case rel=>exact ⟨i+1,by rw [HNX.out],by rw [Int.natCast_add];rfl,by have:=hi.out;show i+1+(gk - 1)=pts.length;omega,T3.out.left⟩
 obtain rfl:i=pts.length:=by have:=hi.out;omega
 have k1:decide ((pts.length:Int)<(pts.length:Int))=false:=decide_eq_false (by omega);have EE:Pr.run Pr.ptF (Pr.s0 ⟨name,adv,mark,pts,ends,parts,anchors,deltas,hint⟩) (pts.take pts.length)=Pr.s1 ⟨name,adv,mark,pts,ends,parts,anchors,deltas,hint⟩:=by rw [List.take_length];rfl
 rw [EE];clear EE hin;have y0:=HZ.out;have y1:=Pr.row_size ends;have y2:=Pr.dig_size (parts.length:Int);have y3:=HSM.out;have z1:¬ 9223372036854775807<(Pr.s1 ⟨name,adv,mark,pts,ends,parts,anchors,deltas,hint⟩).size+(Pr.row ends).size:=by omega
 have z2:¬ 9223372036854775807<(Pr.s1 ⟨name,adv,mark,pts,ends,parts,anchors,deltas,hint⟩).size+(Pr.row ends).size+(Pr.dig (parts.length:Int)).size:=by omega
 have E1:=Hi (show Pr.s1 ⟨name,adv,mark,pts,ends,parts,anchors,deltas,hint⟩++Pr.row ends++Pr.dig (parts.length:Int)=Pr.s2 ⟨name,adv,mark,pts,ends,parts,anchors,deltas,hint⟩ from rfl);clear y0 y1 y2 y3;go_upto_region 7 with fail;clear q0 k1 hi;have A0:=(HI.out.at 0 rfl).every;refine wp_region_mask 11 [true,true,true,true,true,true,true,true,true,true,true] [] (by kernel_rfl) (by kernel_rfl) (by simp) ?_;simp only [pickM]
 iterate 4
  refine sv ?_
 refine sc (a':=?_) (fun w' hw' K Q hK=>?_) ?_ ?_;rotate_left
 ·go_wp2_with fail;refine ((fun W m=>HEN.out W (HI.out.mod.then m)) _ hw').mono ?_;rintro e w'' ⟨rfl,m''⟩;go_wp2_with fail;exact hK _ m''
 ·rfl
 iterate 4
  refine sv ?_
 refine sc (a':=?_) (fun w' hw' K Q hK=>?_) ?_ ?_;rotate_left
 ·go_wp2_with fail;refine ((calls_mod D5.out) _ hw').mono ?_;rintro e w'' ⟨rfl,m''⟩;go_wp2_with fail;exact hK _ m''
 ·rfl
 refine sv ?_;refine steady_done ?_;refine lates_end (fun w' hw' _=>?_);simp only [List.drop_succ_cons,List.drop_zero];have T1:=Hi (HI.out.call hw');clear A0 HI hw' z1 z2;go_wp2_with fail;generalize gk=gk0 at *
 go_loopg [3,6] parts.length (fun gk s3 s4 wr=>∃ i:Nat,s3=.string (Pr.run Pr.partF (Pr.s2 ⟨name,adv,mark,pts,ends,parts,anchors,deltas,hint⟩) (parts.take i))/\s4=.int .i64 (i:Int)/\Hid (i+gk=parts.length)/\Hid (Own w wr [(w.heap.size,#[.string name,.int .i64 adv,.bool mark,.slice o3 pts.length c3,.slice o4 ends.length c4,.slice o5 parts.length c5,.slice o6 anchors.length c6,.slice o7 deltas.length c7,.slice o8 hint.length c8],51)]))
 case atStart=>exact ⟨0,by first | rfl | (rw [E1.out];rfl),rfl,by show 0+parts.length=parts.length;omega,T1.out⟩
 obtain ⟨i,rfl,rfl,hi,HI⟩:=hrel;clear T1 E1;have q0:=(HI.out.at 0 rfl).cell 5;simp only [List.getElem?_toArray,List.getElem?_cons_zero,List.getElem?_cons_succ] at q0
 by_cases hin:i<parts.length
 case pos =>
  have k1:decide ((i:Int)<(parts.length:Int))=true:=decide_eq_true (by omega);have k2:(0:Int)<=i:=by omega
  have k3:(i:Int)<(parts.length:Int):=by omega
  obtain ⟨a,rfl,-,cs,-,hc0,hcj,rfl,b0,b1,b2⟩:=(H5.out.mod RPart.stay HI.out.mod).at i hin;have d0:=hc0 (by decide);have d1:=hcj 1 (by decide) (by decide);have d2:=hcj 2 (by decide) (by decide);simp only [List.getElem?_cons_zero,List.getElem?_cons_succ] at d0 d1 d2;have ei:IntKind.i64.wrap ((i:Int)+1)=(i:Int)+1:=IntWalk.i64_in _ (by have:=HSM.out;omega);have HNX:=Hi (Pr.run_take Pr.partF (Pr.s2 ⟨name,adv,mark,pts,ends,parts,anchors,deltas,hint⟩) parts i hin);have y0:=Pr.take_size Pr.partF 66 Pr.partF_size parts (Pr.s2 ⟨name,adv,mark,pts,ends,parts,anchors,deltas,hint⟩) i;have y1:=HZ.out;have y2:=HSM.out;have u0:=Pr.dig_size (parts[i]).glyph;have u1:=Pr.dig_size (parts[i]).x;have u2:=Pr.dig_size (parts[i]).y;have z0:¬ 9223372036854775807<(Pr.run Pr.partF (Pr.s2 ⟨name,adv,mark,pts,ends,parts,anchors,deltas,hint⟩) (parts.take i)).size+(Pr.dig (parts[i]).glyph).size:=by omega
  have z1:¬ 9223372036854775807<(Pr.run Pr.partF (Pr.s2 ⟨name,adv,mark,pts,ends,parts,anchors,deltas,hint⟩) (parts.take i)).size+(Pr.dig (parts[i]).glyph).size+(Pr.dig (parts[i]).x).size:=by omega
  have z2:¬ 9223372036854775807<(Pr.run Pr.partF (Pr.s2 ⟨name,adv,mark,pts,ends,parts,anchors,deltas,hint⟩) (parts.take i)).size+(Pr.dig (parts[i]).glyph).size+(Pr.dig (parts[i]).x).size+(Pr.dig (parts[i]).y).size:=by omega
  change Hid (Pr.run Pr.partF (Pr.s2 ⟨name,adv,mark,pts,ends,parts,anchors,deltas,hint⟩) (parts.take (i+1))=Pr.run Pr.partF (Pr.s2 ⟨name,adv,mark,pts,ends,parts,anchors,deltas,hint⟩) (parts.take i)++Pr.dig (parts[i]).glyph++Pr.dig (parts[i]).x++Pr.dig (parts[i]).y) at HNX;clear y0 y1 y2 u0 u1 u2 hc0 hcj;generalize Pr.run Pr.partF (Pr.s2 ⟨name,adv,mark,pts,ends,parts,anchors,deltas,hint⟩) (parts.take i)=si at *
  have X0:=Hi (fun W=>digits_any (parts[i]).glyph W b0);have X1:=Hi (fun W=>digits_any (parts[i]).x W b1);have X2:=Hi (fun W=>digits_any (parts[i]).y W b2);generalize Pr.dig (parts[i]).glyph=e0 at *
  generalize Pr.dig (parts[i]).x=e1 at *
  generalize Pr.dig (parts[i]).y=e2 at *
  generalize (parts[i]).glyph=p0 at *
  generalize (parts[i]).x=p1 at *
  generalize (parts[i]).y=p2 at *
  clear b0 b1 b2 hin;have Y0:∀ W,Mod [] wr W->W.cell? (a.add (i*3))=some (.int .i64 p0):=fun W m=>cell_stays m d0
  have Y1:∀ W,Mod [] wr W->W.cell? ⟨(a.add (i*3)).block,(a.add (i*3)).off+1,none⟩=some (.int .i64 p1):=fun W m=>cell_stays m d1
  have Y2:∀ W,Mod [] wr W->W.cell? ⟨(a.add (i*3)).block,(a.add (i*3)).off+2,none⟩=some (.int .i64 p2):=fun W m=>cell_stays m d2
  have A1:=(HI.out.at 0 rfl).every;go_upto_region 11 with fail;clear d0 d1 d2 q0;refine wp_region_mask 25 [true,true,true,true,true,true,true,true,true,true,true,true,true,true,true,true,true,true,true,true,true,true,true,true,true] [] (by kernel_rfl) (by kernel_rfl) (by simp) ?_;simp only [pickM]
  iterate 7
   refine sv ?_
  refine sc (a':=?_) (fun w' hw' K Q hK=>?_) ?_ ?_;rotate_left
  ·go_wp2_with fail;refine ((calls_mod X0.out) _ hw').mono ?_;rintro e w'' ⟨rfl,m''⟩;go_wp2_with fail;exact hK _ m''
  ·rfl
  iterate 7
   refine sv ?_
  refine sc (a':=?_) (fun w' hw' K Q hK=>?_) ?_ ?_;rotate_left
  ·go_wp2_with fail;refine ((calls_mod X1.out) _ hw').mono ?_;rintro e w'' ⟨rfl,m''⟩;go_wp2_with fail;exact hK _ m''
  ·rfl
  iterate 7
   refine sv ?_
  refine sc (a':=?_) (fun w' hw' K Q hK=>?_) ?_ ?_;rotate_left
  ·go_wp2_with fail;refine ((calls_mod X2.out) _ hw').mono ?_;rintro e w'' ⟨rfl,m''⟩;go_wp2_with fail;exact hK _ m''
  ·rfl
  refine sv ?_;refine steady_done ?_;refine lates_end (fun w' hw' _=>?_);simp only [List.drop_succ_cons,List.drop_zero];have T3:=Hi (HI.out.call hw');clear A1 Y0 Y1 Y2 hw' X0 X1 X2;go_wp2_with fail;go_roundg (gk - 1)
  case measure=>have:=hi.out;omega
  case rel=>exact ⟨i+1,by rw [HNX.out],by rw [Int.natCast_add];rfl,by have:=hi.out;show i+1+(gk - 1)=parts.length;omega,T3.out⟩
 obtain rfl:i=parts.length:=by have:=hi.out;omega
 have k1:decide ((parts.length:Int)<(parts.length:Int))=false:=decide_eq_false (by omega);have EE:Pr.run Pr.partF (Pr.s2 ⟨name,adv,mark,pts,ends,parts,anchors,deltas,hint⟩) (parts.take parts.length)=Pr.s3 ⟨name,adv,mark,pts,ends,parts,anchors,deltas,hint⟩:=by rw [List.take_length];rfl
 rw [EE];clear EE hin;have y0:=HZ.out;have y1:=Pr.dig_size (anchors.length:Int);have z1:¬ 9223372036854775807<(Pr.s3 ⟨name,adv,mark,pts,ends,parts,anchors,deltas,hint⟩).size+(Pr.dig (anchors.length:Int)).size:=by omega
 have E2:=Hi (show Pr.s3 ⟨name,adv,mark,pts,ends,parts,anchors,deltas,hint⟩++Pr.dig (anchors.length:Int)=Pr.s4 ⟨name,adv,mark,pts,ends,parts,anchors,deltas,hint⟩ from rfl);have q1:=(HI.out.at 0 rfl).cell 6;simp only [List.getElem?_toArray,List.getElem?_cons_zero,List.getElem?_cons_succ] at q1;clear y0 y1;go_wp2_with fail;refine (D6.out _).mono ?_;rintro e w' ⟨rfl,m'⟩;have T1:=Hi (HI.out.call m');clear q0 q1 k1 hi HI m';go_wp2_with fail;generalize gk=gk1 at *
 go_loopg [3,7] anchors.length (fun gk s3 s4 wr=>∃ i:Nat,s3=.string (Pr.run Pr.anchorF (Pr.s4 ⟨name,adv,mark,pts,ends,parts,anchors,deltas,hint⟩) (anchors.take i))/\s4=.int .i64 (i:Int)/\Hid (i+gk=anchors.length)/\Hid (Own w wr [(w.heap.size,#[.string name,.int .i64 adv,.bool mark,.slice o3 pts.length c3,.slice o4 ends.length c4,.slice o5 parts.length c5,.slice o6 anchors.length c6,.slice o7 deltas.length c7,.slice o8 hint.length c8],51)]))
 case atStart=>exact ⟨0,by first | rfl | (rw [E2.out];rfl),rfl,by show 0+anchors.length=anchors.length;omega,T1.out⟩
 obtain ⟨i,rfl,rfl,hi,HI⟩:=hrel;clear T1 E2;have q0:=(HI.out.at 0 rfl).cell 6;simp only [List.getElem?_toArray,List.getElem?_cons_zero,List.getElem?_cons_succ] at q0
 by_cases hin:i<anchors.length
 case pos =>
  have k1:decide ((i:Int)<(anchors.length:Int))=true:=decide_eq_true (by omega);have k2:(0:Int)<=i:=by omega
  have k3:(i:Int)<(anchors.length:Int):=by omega
  obtain ⟨a,rfl,-,cs,-,hc0,hcj,rfl,b0,b1,b2,b3⟩:=(H6.out.mod RAnchor.stay HI.out.mod).at i hin;have d0:=hc0 (by decide);have d1:=hcj 1 (by decide) (by decide);have d2:=hcj 2 (by decide) (by decide);have d3:=hcj 3 (by decide) (by decide);simp only [List.getElem?_cons_zero,List.getElem?_cons_succ] at d0 d1 d2 d3;have ei:IntKind.i64.wrap ((i:Int)+1)=(i:Int)+1:=IntWalk.i64_in _ (by have:=HSM.out;omega);have HNX:=Hi (Pr.run_take Pr.anchorF (Pr.s4 ⟨name,adv,mark,pts,ends,parts,anchors,deltas,hint⟩) anchors i hin);have y0:=Pr.take_size Pr.anchorF 88 Pr.anchorF_size anchors (Pr.s4 ⟨name,adv,mark,pts,ends,parts,anchors,deltas,hint⟩) i;have y1:=HZ.out;have y2:=HSM.out;have u0:=Pr.dig_size (anchors[i]).kind;have u1:=Pr.dig_size (anchors[i]).cls;have u2:=Pr.dig_size (anchors[i]).x;have u3:=Pr.dig_size (anchors[i]).y;have z0:¬ 9223372036854775807<(Pr.run Pr.anchorF (Pr.s4 ⟨name,adv,mark,pts,ends,parts,anchors,deltas,hint⟩) (anchors.take i)).size+(Pr.dig (anchors[i]).kind).size:=by omega
  have z1:¬ 9223372036854775807<(Pr.run Pr.anchorF (Pr.s4 ⟨name,adv,mark,pts,ends,parts,anchors,deltas,hint⟩) (anchors.take i)).size+(Pr.dig (anchors[i]).kind).size+(Pr.dig (anchors[i]).cls).size:=by omega
  have z2:¬ 9223372036854775807<(Pr.run Pr.anchorF (Pr.s4 ⟨name,adv,mark,pts,ends,parts,anchors,deltas,hint⟩) (anchors.take i)).size+(Pr.dig (anchors[i]).kind).size+(Pr.dig (anchors[i]).cls).size+(Pr.dig (anchors[i]).x).size:=by omega
  have z3:¬ 9223372036854775807<(Pr.run Pr.anchorF (Pr.s4 ⟨name,adv,mark,pts,ends,parts,anchors,deltas,hint⟩) (anchors.take i)).size+(Pr.dig (anchors[i]).kind).size+(Pr.dig (anchors[i]).cls).size+(Pr.dig (anchors[i]).x).size+(Pr.dig (anchors[i]).y).size:=by omega
  change Hid (Pr.run Pr.anchorF (Pr.s4 ⟨name,adv,mark,pts,ends,parts,anchors,deltas,hint⟩) (anchors.take (i+1))=Pr.run Pr.anchorF (Pr.s4 ⟨name,adv,mark,pts,ends,parts,anchors,deltas,hint⟩) (anchors.take i)++Pr.dig (anchors[i]).kind++Pr.dig (anchors[i]).cls++Pr.dig (anchors[i]).x++Pr.dig (anchors[i]).y) at HNX;clear y0 y1 y2 u0 u1 u2 u3 hc0 hcj;generalize Pr.run Pr.anchorF (Pr.s4 ⟨name,adv,mark,pts,ends,parts,anchors,deltas,hint⟩) (anchors.take i)=si at *
  have X0:=Hi (fun W=>digits_any (anchors[i]).kind W b0);have X1:=Hi (fun W=>digits_any (anchors[i]).cls W b1);have X2:=Hi (fun W=>digits_any (anchors[i]).x W b2);have X3:=Hi (fun W=>digits_any (anchors[i]).y W b3);generalize Pr.dig (anchors[i]).kind=e0 at *
  generalize Pr.dig (anchors[i]).cls=e1 at *
  generalize Pr.dig (anchors[i]).x=e2 at *
  generalize Pr.dig (anchors[i]).y=e3 at *
  generalize (anchors[i]).kind=p0 at *
  generalize (anchors[i]).cls=p1 at *
  generalize (anchors[i]).x=p2 at *
  generalize (anchors[i]).y=p3 at *
  clear b0 b1 b2 b3 hin;have T2:=Hi (HI.out.alloc #[.int .i64 p0,.int .i64 p1,.int .i64 p2,.int .i64 p3] 135);go_upto_region 17 with fail;clear d0 d1 d2 d3 q0;generalize wr.alloc (.cells #[.int .i64 p0,.int .i64 p1,.int .i64 p2,.int .i64 p3] 135)=W5 at *
  generalize wr.heap.size=b5 at *
  have A1:=(T2.out.at 1 rfl).every;refine wp_region_mask 17 [true,true,true,true,true,true,true,true,true,true,true,true,true,true,true,true,true] [] (by kernel_rfl) (by kernel_rfl) (by simp) ?_;simp only [pickM]
  iterate 3
   refine sv ?_
  refine sc (a':=?_) (fun w' hw' K Q hK=>?_) ?_ ?_;rotate_left
  ·go_wp2_with fail;refine ((calls_mod X0.out) _ hw').mono ?_;rintro e w'' ⟨rfl,m''⟩;go_wp2_with fail;exact hK _ m''
  ·rfl
  iterate 3
   refine sv ?_
  refine sc (a':=?_) (fun w' hw' K Q hK=>?_) ?_ ?_;rotate_left
  ·go_wp2_with fail;refine ((calls_mod X1.out) _ hw').mono ?_;rintro e w'' ⟨rfl,m''⟩;go_wp2_with fail;exact hK _ m''
  ·rfl
  iterate 3
   refine sv ?_
  refine sc (a':=?_) (fun w' hw' K Q hK=>?_) ?_ ?_;rotate_left
  ·go_wp2_with fail;refine ((calls_mod X2.out) _ hw').mono ?_;rintro e w'' ⟨rfl,m''⟩;go_wp2_with fail;exact hK _ m''
  ·rfl
  iterate 3
   refine sv ?_
  refine sc (a':=?_) (fun w' hw' K Q hK=>?_) ?_ ?_;rotate_left
  ·go_wp2_with fail;refine ((calls_mod X3.out) _ hw').mono ?_;rintro e w'' ⟨rfl,m''⟩;go_wp2_with fail;exact hK _ m''
  ·rfl
  refine sv ?_;refine steady_done ?_;refine lates_end (fun w' hw' _=>?_);simp only [List.drop_succ_cons,List.drop_zero];have T3:=Hi (T2.out.call hw');clear A1 hw' X0 X1 X2 X3;go_wp2_with fail;go_roundg (gk - 1)
  case measure=>have:=hi.out;omega
  case rel=>exact ⟨i+1,by rw [HNX.out],by rw [Int.natCast_add];rfl,by have:=hi.out;show i+1+(gk - 1)=anchors.length;omega,T3.out.left⟩
 obtain rfl:i=anchors.length:=by have:=hi.out;omega
 have k1:decide ((anchors.length:Int)<(anchors.length:Int))=false:=decide_eq_false (by omega);have EE:Pr.run Pr.anchorF (Pr.s4 ⟨name,adv,mark,pts,ends,parts,anchors,deltas,hint⟩) (anchors.take anchors.length)=Pr.s5 ⟨name,adv,mark,pts,ends,parts,anchors,deltas,hint⟩:=by rw [List.take_length];rfl
 rw [EE];clear EE hin;have y0:=HZ.out;have y1:=Pr.dig_size (deltas.length:Int);have z1:¬ 9223372036854775807<(Pr.s5 ⟨name,adv,mark,pts,ends,parts,anchors,deltas,hint⟩).size+(Pr.dig (deltas.length:Int)).size:=by omega
 have E3:=Hi (show Pr.s5 ⟨name,adv,mark,pts,ends,parts,anchors,deltas,hint⟩++Pr.dig (deltas.length:Int)=Pr.s6 ⟨name,adv,mark,pts,ends,parts,anchors,deltas,hint⟩ from rfl);have q1:=(HI.out.at 0 rfl).cell 7;simp only [List.getElem?_toArray,List.getElem?_cons_zero,List.getElem?_cons_succ] at q1;clear y0 y1;go_wp2_with fail;refine (D7.out _).mono ?_;rintro e w' ⟨rfl,m'⟩;have T1:=Hi (HI.out.call m');clear q0 q1 k1 hi HI m';go_wp2_with fail;generalize gk=gk2 at *
 go_loopg [3,9] deltas.length (fun gk s3 s4 wr=>∃ i:Nat,s3=.string (Pr.run Pr.deltaF (Pr.s6 ⟨name,adv,mark,pts,ends,parts,anchors,deltas,hint⟩) (deltas.take i))/\s4=.int .i64 (i:Int)/\Hid (i+gk=deltas.length)/\Hid (Own w wr [(w.heap.size,#[.string name,.int .i64 adv,.bool mark,.slice o3 pts.length c3,.slice o4 ends.length c4,.slice o5 parts.length c5,.slice o6 anchors.length c6,.slice o7 deltas.length c7,.slice o8 hint.length c8],51)]))
 case atStart=>exact ⟨0,by first | rfl | (rw [E3.out];rfl),rfl,by show 0+deltas.length=deltas.length;omega,T1.out⟩
 obtain ⟨i,rfl,rfl,hi,HI⟩:=hrel;clear T1 E3;have q0:=(HI.out.at 0 rfl).cell 7;simp only [List.getElem?_toArray,List.getElem?_cons_zero,List.getElem?_cons_succ] at q0
 by_cases hin:i<deltas.length
 case pos =>
  have k1:decide ((i:Int)<(deltas.length:Int))=true:=decide_eq_true (by omega);have k2:(0:Int)<=i:=by omega
  have k3:(i:Int)<(deltas.length:Int):=by omega
  obtain ⟨a,rfl,-,cs,-,hc0,hcj,rfl,b0,b1,b2,b3⟩:=(H7.out.mod RDelta.stay HI.out.mod).at i hin;have d0:=hc0 (by decide);have d1:=hcj 1 (by decide) (by decide);have d2:=hcj 2 (by decide) (by decide);have d3:=hcj 3 (by decide) (by decide);simp only [List.getElem?_cons_zero,List.getElem?_cons_succ] at d0 d1 d2 d3;have ei:IntKind.i64.wrap ((i:Int)+1)=(i:Int)+1:=IntWalk.i64_in _ (by have:=HSM.out;omega);have HNX:=Hi (Pr.run_take Pr.deltaF (Pr.s6 ⟨name,adv,mark,pts,ends,parts,anchors,deltas,hint⟩) deltas i hin);have y0:=Pr.take_size Pr.deltaF 88 Pr.deltaF_size deltas (Pr.s6 ⟨name,adv,mark,pts,ends,parts,anchors,deltas,hint⟩) i;have y1:=HZ.out;have y2:=HSM.out;have u0:=Pr.dig_size (deltas[i]).region;have u1:=Pr.dig_size (deltas[i]).point;have u2:=Pr.dig_size (deltas[i]).x;have u3:=Pr.dig_size (deltas[i]).y;have z0:¬ 9223372036854775807<(Pr.run Pr.deltaF (Pr.s6 ⟨name,adv,mark,pts,ends,parts,anchors,deltas,hint⟩) (deltas.take i)).size+(Pr.dig (deltas[i]).region).size:=by omega
  have z1:¬ 9223372036854775807<(Pr.run Pr.deltaF (Pr.s6 ⟨name,adv,mark,pts,ends,parts,anchors,deltas,hint⟩) (deltas.take i)).size+(Pr.dig (deltas[i]).region).size+(Pr.dig (deltas[i]).point).size:=by omega
  have z2:¬ 9223372036854775807<(Pr.run Pr.deltaF (Pr.s6 ⟨name,adv,mark,pts,ends,parts,anchors,deltas,hint⟩) (deltas.take i)).size+(Pr.dig (deltas[i]).region).size+(Pr.dig (deltas[i]).point).size+(Pr.dig (deltas[i]).x).size:=by omega
  have z3:¬ 9223372036854775807<(Pr.run Pr.deltaF (Pr.s6 ⟨name,adv,mark,pts,ends,parts,anchors,deltas,hint⟩) (deltas.take i)).size+(Pr.dig (deltas[i]).region).size+(Pr.dig (deltas[i]).point).size+(Pr.dig (deltas[i]).x).size+(Pr.dig (deltas[i]).y).size:=by omega
  change Hid (Pr.run Pr.deltaF (Pr.s6 ⟨name,adv,mark,pts,ends,parts,anchors,deltas,hint⟩) (deltas.take (i+1))=Pr.run Pr.deltaF (Pr.s6 ⟨name,adv,mark,pts,ends,parts,anchors,deltas,hint⟩) (deltas.take i)++Pr.dig (deltas[i]).region++Pr.dig (deltas[i]).point++Pr.dig (deltas[i]).x++Pr.dig (deltas[i]).y) at HNX;clear y0 y1 y2 u0 u1 u2 u3 hc0 hcj;generalize Pr.run Pr.deltaF (Pr.s6 ⟨name,adv,mark,pts,ends,parts,anchors,deltas,hint⟩) (deltas.take i)=si at *
  have X0:=Hi (fun W=>digits_any (deltas[i]).region W b0);have X1:=Hi (fun W=>digits_any (deltas[i]).point W b1);have X2:=Hi (fun W=>digits_any (deltas[i]).x W b2);have X3:=Hi (fun W=>digits_any (deltas[i]).y W b3);generalize Pr.dig (deltas[i]).region=e0 at *
  generalize Pr.dig (deltas[i]).point=e1 at *
  generalize Pr.dig (deltas[i]).x=e2 at *
  generalize Pr.dig (deltas[i]).y=e3 at *
  generalize (deltas[i]).region=p0 at *
  generalize (deltas[i]).point=p1 at *
  generalize (deltas[i]).x=p2 at *
  generalize (deltas[i]).y=p3 at *
  clear b0 b1 b2 b3 hin;have T2:=Hi (HI.out.alloc #[.int .i64 p0,.int .i64 p1,.int .i64 p2,.int .i64 p3] 95);go_upto_region 23 with fail;clear d0 d1 d2 d3 q0;generalize wr.alloc (.cells #[.int .i64 p0,.int .i64 p1,.int .i64 p2,.int .i64 p3] 95)=W5 at *
  generalize wr.heap.size=b5 at *
  have A1:=(T2.out.at 1 rfl).every;refine wp_region_mask 17 [true,true,true,true,true,true,true,true,true,true,true,true,true,true,true,true,true] [] (by kernel_rfl) (by kernel_rfl) (by simp) ?_;simp only [pickM]
  iterate 3
   refine sv ?_
  refine sc (a':=?_) (fun w' hw' K Q hK=>?_) ?_ ?_;rotate_left
  ·go_wp2_with fail;refine ((calls_mod X0.out) _ hw').mono ?_;rintro e w'' ⟨rfl,m''⟩;go_wp2_with fail;exact hK _ m''
  ·rfl
  iterate 3
   refine sv ?_
  refine sc (a':=?_) (fun w' hw' K Q hK=>?_) ?_ ?_;rotate_left
  ·go_wp2_with fail;refine ((calls_mod X1.out) _ hw').mono ?_;rintro e w'' ⟨rfl,m''⟩;go_wp2_with fail;exact hK _ m''
  ·rfl
  iterate 3
   refine sv ?_
  refine sc (a':=?_) (fun w' hw' K Q hK=>?_) ?_ ?_;rotate_left
  ·go_wp2_with fail;refine ((calls_mod X2.out) _ hw').mono ?_;rintro e w'' ⟨rfl,m''⟩;go_wp2_with fail;exact hK _ m''
  ·rfl
  iterate 3
   refine sv ?_
  refine sc (a':=?_) (fun w' hw' K Q hK=>?_) ?_ ?_;rotate_left
  ·go_wp2_with fail;refine ((calls_mod X3.out) _ hw').mono ?_;rintro e w'' ⟨rfl,m''⟩;go_wp2_with fail;exact hK _ m''
  ·rfl
  refine sv ?_;refine steady_done ?_;refine lates_end (fun w' hw' _=>?_);simp only [List.drop_succ_cons,List.drop_zero];have T3:=Hi (T2.out.call hw');clear A1 hw' X0 X1 X2 X3;go_wp2_with fail;go_roundg (gk - 1)
  case measure=>have:=hi.out;omega
  case rel=>exact ⟨i+1,by rw [HNX.out],by rw [Int.natCast_add];rfl,by have:=hi.out;show i+1+(gk - 1)=deltas.length;omega,T3.out.left⟩
 obtain rfl:i=deltas.length:=by have:=hi.out;omega
 have k1:decide ((deltas.length:Int)<(deltas.length:Int))=false:=decide_eq_false (by omega);have EE:Pr.run Pr.deltaF (Pr.s6 ⟨name,adv,mark,pts,ends,parts,anchors,deltas,hint⟩) (deltas.take deltas.length)=Pr.s7 ⟨name,adv,mark,pts,ends,parts,anchors,deltas,hint⟩:=by rw [List.take_length];rfl
 rw [EE];clear EE hin;have y0:=HZ.out;have y1:=Pr.code_size hint;have y2:=HSM.out;have z1:¬ 9223372036854775807<(Pr.s7 ⟨name,adv,mark,pts,ends,parts,anchors,deltas,hint⟩).size+(Pr.code hint).size:=by omega
 have q1:=(HI.out.at 0 rfl).cell 8;simp only [List.getElem?_toArray,List.getElem?_cons_zero,List.getElem?_cons_succ] at q1;clear y0 y1 y2;go_wp2_with fail;refine (HHI.out _ HI.out.mod).mono ?_;rintro e w' ⟨rfl,m'⟩;have T1:=Hi (HI.out.call m');clear q0 q1 k1 hi HI m';go_wp2_with fail;go_ret;exact ⟨rfl,T1.out.mod⟩
def Pr.glF (s:ByteArray) (g:DGlyph):ByteArray:=s++Pr.glyph g
def Pr.chF (s:ByteArray) (c:DChar):ByteArray:=s++Pr.dig c.rune++Pr.dig c.glyph
def Pr.lkF (s:ByteArray) (d:DLookup):ByteArray:=s++Pr.lookup d
def Pr.ftF (s:ByteArray) (f:DFeature):ByteArray:=s++Pr.dig f.name.size++f.name++⟨#[32]⟩++Pr.row f.lookups
def Pr.axF (s:ByteArray) (a:DAxis):ByteArray:=s++Pr.dig a.name.size++a.name++⟨#[32]⟩++Pr.dig a.min++Pr.dig a.dflt++Pr.dig a.max
def Pr.tnF (s:ByteArray) (t:DTent):ByteArray:=s++Pr.dig t.start++Pr.dig t.peak++Pr.dig t.stop
def Pr.rgF (s:ByteArray) (r:DRegion):ByteArray:=Pr.run Pr.tnF (s++Pr.dig r.tents.length) r.tents
def Pr.fnF (s:ByteArray) (c:List DIns):ByteArray:=s++Pr.code c
theorem Pr.glF_ge (s:ByteArray) (x:DGlyph):s.size<=(Pr.glF s x).size:=by unfold Pr.glF;simp only [ByteArray.size_append];omega
theorem Pr.chF_ge (s:ByteArray) (x:DChar):s.size<=(Pr.chF s x).size:=by unfold Pr.chF;simp only [ByteArray.size_append];omega
theorem Pr.lkF_ge (s:ByteArray) (x:DLookup):s.size<=(Pr.lkF s x).size:=by unfold Pr.lkF;simp only [ByteArray.size_append];omega
theorem Pr.ftF_ge (s:ByteArray) (x:DFeature):s.size<=(Pr.ftF s x).size:=by unfold Pr.ftF;simp only [ByteArray.size_append];omega
theorem Pr.axF_ge (s:ByteArray) (x:DAxis):s.size<=(Pr.axF s x).size:=by unfold Pr.axF;simp only [ByteArray.size_append];omega
theorem Pr.tnF_ge (s:ByteArray) (x:DTent):s.size<=(Pr.tnF s x).size:=by unfold Pr.tnF;simp only [ByteArray.size_append];omega
theorem Pr.rgF_ge (s:ByteArray) (x:DRegion):s.size<=(Pr.rgF s x).size:=by
 unfold Pr.rgF;have h1:=Pr.run_ge Pr.tnF Pr.tnF_ge x.tents (s++Pr.dig x.tents.length);rw [ByteArray.size_append] at h1;omega
theorem Pr.fnF_ge (s:ByteArray) (x:List DIns):s.size<=(Pr.fnF s x).size:=by unfold Pr.fnF;simp only [ByteArray.size_append];omega
def Pr.t0 (F:DFont):ByteArray:=Pr.dig F.unit++Pr.dig F.glyphs.length
def Pr.t1 (F:DFont):ByteArray:=Pr.run Pr.glF (Pr.t0 F) F.glyphs
def Pr.t2 (F:DFont):ByteArray:=Pr.run Pr.chF (Pr.t1 F++Pr.dig F.chars.length) F.chars
def Pr.t3 (F:DFont):ByteArray:=Pr.run Pr.lkF (Pr.t2 F++Pr.dig F.lookups.length) F.lookups
def Pr.t4 (F:DFont):ByteArray:=Pr.run Pr.ftF (Pr.t3 F++Pr.dig F.features.length) F.features
def Pr.t5 (F:DFont):ByteArray:=Pr.run Pr.axF (Pr.t4 F++Pr.dig F.axes.length) F.axes
def Pr.t6 (F:DFont):ByteArray:=Pr.run Pr.rgF (Pr.t5 F++Pr.dig F.regions.length) F.regions
def Pr.t7 (F:DFont):ByteArray:=Pr.run Pr.fnF (Pr.t6 F++Pr.dig F.funcs.length) F.funcs
def Pr.font (F:DFont):ByteArray:=Pr.t7 F++Pr.row F.cvt
theorem Pr.parts (F:DFont) (h:(Pr.font F).size<=4611686018427387904):(Pr.t7 F).size+(Pr.row F.cvt).size<=4611686018427387904/\(Pr.t6 F).size+(Pr.dig F.funcs.length).size<=4611686018427387904/\(Pr.t5 F).size+(Pr.dig F.regions.length).size<=4611686018427387904/\(Pr.t4 F).size+(Pr.dig F.axes.length).size<=4611686018427387904/\(Pr.t3 F).size+(Pr.dig F.features.length).size<=4611686018427387904/\(Pr.t2 F).size+(Pr.dig F.lookups.length).size<=4611686018427387904/\(Pr.t1 F).size+(Pr.dig F.chars.length).size<=4611686018427387904/\(Pr.dig F.unit).size+(Pr.dig F.glyphs.length).size<=4611686018427387904:=by
 have e:(Pr.font F).size=(Pr.t7 F).size+(Pr.row F.cvt).size:=by unfold Pr.font;rw [ByteArray.size_append]
 have a7:(Pr.t6 F++Pr.dig F.funcs.length).size<=(Pr.t7 F).size:=Pr.run_ge Pr.fnF Pr.fnF_ge F.funcs _;have a6:(Pr.t5 F++Pr.dig F.regions.length).size<=(Pr.t6 F).size:=Pr.run_ge Pr.rgF Pr.rgF_ge F.regions _;have a5:(Pr.t4 F++Pr.dig F.axes.length).size<=(Pr.t5 F).size:=Pr.run_ge Pr.axF Pr.axF_ge F.axes _;have a4:(Pr.t3 F++Pr.dig F.features.length).size<=(Pr.t4 F).size:=Pr.run_ge Pr.ftF Pr.ftF_ge F.features _;have a3:(Pr.t2 F++Pr.dig F.lookups.length).size<=(Pr.t3 F).size:=Pr.run_ge Pr.lkF Pr.lkF_ge F.lookups _;have a2:(Pr.t1 F++Pr.dig F.chars.length).size<=(Pr.t2 F).size:=Pr.run_ge Pr.chF Pr.chF_ge F.chars _;have a1:(Pr.t0 F).size<=(Pr.t1 F).size:=Pr.run_ge Pr.glF Pr.glF_ge F.glyphs _;have a0:(Pr.t0 F).size=(Pr.dig F.unit).size+(Pr.dig F.glyphs.length).size:=by unfold Pr.t0;rw [ByteArray.size_append]
 rw [ByteArray.size_append] at a2 a3 a4 a5 a6 a7;omega
structure FOk (F:DFont):Prop where
 gl:F.glyphs.length*176<=140737488351232/\∀ g∈F.glyphs,PSmall g
 ch:F.chars.length*16<=140737488351232
 lk:F.lookups.length*40<=140737488351232/\∀ d∈F.lookups,LkOk d
 ft:F.features.length*40<=140737488351232/\∀ f∈F.features,f.name.size<=140737488351232/\ROk f.lookups
 ax:F.axes.length*40<=140737488351232/\∀ a∈F.axes,a.name.size<=140737488351232
 rg:F.regions.length*24<=140737488351232/\∀ r∈F.regions,r.tents.length*24<=140737488351232
 fn:F.funcs.length*24<=140737488351232/\∀ c∈F.funcs,c.length*16<=140737488351232
 cv:ROk F.cvt
end Go.Proofs.Ytlkkhkbafahchaa
