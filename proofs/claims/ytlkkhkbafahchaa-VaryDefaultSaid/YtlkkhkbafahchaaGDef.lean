/- Law16Made, VaryDefP, VaryDefS. -/
import Derived.Test.YtlkkhkbafahchaaGBase
import Derived.Test.YtlkkhkbafahchaaGRing
import Derived.Test.YtlkkhkbafahchaaGMade
import Derived.Test.YtlkkhkbafahchaaGOk
import Derived.Test.YtlkkhkbafahchaaGFac
import Derived.Test.YtlkkhkbafahchaaGTop
set_option linter.all false
namespace Go.Proofs.Ytlkkhkbafahchaa
open Go.RowKit
set_option maxRecDepth 100000
def plF (ys:List Int) (i:Nat) (a:DAxis):Int:=if i<ys.length then a.min+(ys.getD i 0) % (a.max - a.min+1) else a.dflt
def Mk.place (axes:List DAxis) (ys:List Int):List Int:=axes.mapIdx (plF ys)
theorem place_len (axes:List DAxis) (ys:List Int):(Mk.place axes ys).length=axes.length:=by simp [Mk.place]
theorem place_take (axes:List DAxis) (ys:List Int) (i:Nat) (h:i<axes.length):(Mk.place axes ys).take (i+1)=(Mk.place axes ys).take i++[plF ys i axes[i]]:=by
 rw [List.take_succ_eq_append_getElem (by rw [place_len];exact h)];simp [Mk.place]
theorem take_in {w:World} {oa:Option Addr} {n cap h:Nat} {l:List Int} (hN:Rows 1 RInt 0 w (.slice oa n cap) l) (hL:(l.take 300).length=h):SRows 1 SInt (fun b=>b<w.heap.size) w (.slice oa h cap) (l.take 300):=by
 have h1:SRows 1 SInt (fun b=>0<=b) w (.slice oa n cap) l:=hN.new SInt.new;have h2:=h1.weak (S':=fun b=>b<w.heap.size) (by decide) SInt.weak fun b hb _=>hb
 obtain ⟨oa',c',he,hl,h3⟩:=h2;cases he;refine ⟨_,_,by rw [hL],by rw [List.length_take];omega,fun i hi=>?_⟩;have hi':i<l.length:=by rw [List.length_take] at hi;omega
 obtain ⟨a,ha,hS,cs,hk,hc,hr⟩:=h3 i hi';exact ⟨a,ha,hS,cs,hk,hc,by rw [List.getElem_take];exact hr⟩
theorem hdS {k:Nat} {α:Type} {R:Bl->World->List Value->α->Prop} {S:Bl} {w:World} {v:Value} {l:List α} (h:SRows k R S w v l):∃ d:Hd,v=.slice d.a d.n d.c:=by
 obtain ⟨oa,c,e,_⟩:=h.form;exact ⟨⟨oa,_,c⟩,e⟩
theorem font_hds {S:Bl} {w:World} {cs:Array Value} {F:DFont} (h:SFont S w cs.toList F):∃ g c lk fe ax rg fu cv:Hd,cs=fontCells F.unit g c lk fe ax rg fu cv:=by
 obtain ⟨w1,w2,w3,w4,w5,w6,w7,w8,he,hu,h1,h2,h3,h4,h5,h6,h7,h8⟩:=h;obtain ⟨d1,rfl⟩:=hdS h1;obtain ⟨d2,rfl⟩:=hdS h2;obtain ⟨d3,rfl⟩:=hdS h3;obtain ⟨d4,rfl⟩:=hdS h4;obtain ⟨d5,rfl⟩:=hdS h5;obtain ⟨d6,rfl⟩:=hdS h6;obtain ⟨d7,rfl⟩:=hdS h7;obtain ⟨d8,rfl⟩:=hdS h8;exact ⟨d1,d2,d3,d4,d5,d6,d7,d8,by rw [<- Array.toArray_toList (xs:=cs),he];rfl⟩
theorem SFont.hds {S:Bl} {w:World} {F:DFont} {u:Int} {g c l fe ax rg fu cv:Hd} (h:SFont S w (fontCells u g c l fe ax rg fu cv).toList F) :
  u=F.unit/\SRows 9 SGlyph S w (.slice g.a g.n g.c) F.glyphs/\SRows 2 SChar S w (.slice c.a c.n c.c) F.chars/\SRows 3 SLookup S w (.slice l.a l.n l.c) F.lookups/\SRows 2 SFeature S w (.slice fe.a fe.n fe.c) F.features/\SRows 4 SAxis S w (.slice ax.a ax.n ax.c) F.axes/\SRows 1 SRegion S w (.slice rg.a rg.n rg.c) F.regions/\SRows 1 SCode S w (.slice fu.a fu.n fu.c) F.funcs/\SRows 1 SInt S w (.slice cv.a cv.n cv.c) F.cvt:=by
 obtain ⟨v1,v2,v3,v4,v5,v6,v7,v8,hcs,hu,h1,h2,h3,h4,h5,h6,h7,h8⟩:=h;simp only [fontCells,List.cons.injEq,and_true] at hcs;obtain ⟨e0,rfl,rfl,rfl,rfl,rfl,rfl,rfl,rfl⟩:=hcs;exact ⟨by simpa using e0,h1,h2,h3,h4,h5,h6,h7,h8⟩
theorem SRows.n {k:Nat} {α:Type} {R:Bl->World->List Value->α->Prop} {S:Bl} {w:World} {a:Option Addr} {n c:Nat} {l:List α} (h:SRows k R S w (.slice a n c) l):n=l.length:=by
 obtain ⟨oa,cp,e,_⟩:=h.form;cases e;rfl
set_option maxHeartbeats 8000000 in
theorem lawmade_any (l ys:List Int) (oa:Option Addr) (n cap:Nat) (ob:Option Addr) (nb cb:Nat) (w:World) (hN:Rows 1 RInt 0 w (.slice oa n cap) l) (hc:n<=cap) (hc1:cap<=maxLen) (hY:Rows 1 RInt 0 w (.slice ob nb cb) ys) :
  Calls Try.prog 4 #[.slice oa n cap,.slice ob nb cb] w fun e w'=>∃ cs op cp,e=.returned (.tuple #[.agg cs,.slice op (Mk.made (l.take 300)).axes.length cp])/\SFont (fun b=>w.heap.size<=b) w' cs.toList (Mk.made (l.take 300))/\SRows 1 SInt (fun b=>w.heap.size<=b) w' (.slice op (Mk.made (l.take 300)).axes.length cp) (Mk.place (Mk.made (l.take 300)).axes ys)/\Mod [] w w':=by
 have hml:maxLen=9223372036854775807:=rfl;obtain rfl:n=l.length:=by obtain ⟨_,_,he,_⟩:=hN;simp at he;omega
 obtain rfl:nb=ys.length:=by obtain ⟨_,_,he,_⟩:=hY;simp at he;omega
 obtain ⟨h,hh⟩:∃ h:Nat,h=min l.length 300:=⟨_,rfl⟩
 have HH:Hid (h=min l.length 300/\l.length<=cap/\cap<=9223372036854775807):=⟨hh,hc,by rw [<- hml];exact hc1⟩
 have HN:=Hi hN;have HY:=Hi hY;have b1:(0:Int)<=(h:Int):=by omega
 have b2:(h:Int)<=(cap:Int):=by omega
 have b3:min (l.length:Int) 300=(h:Int):=by omega
 clear hh hc hc1 hN hY hml;obtain ⟨F,hF⟩:∃ F,F=Mk.made (l.take 300):=⟨_,rfl⟩
 have hL:(l.take 300).length=h:=by rw [List.length_take];have:=HH.out.1;omega
 have CM:=Hi (fun (W:World) (m:Mod [] w W)=>made_any (l.take 300) (.slice oa h cap) W (take_in (HN.out.mod RInt.stay m) hL));have HMK:Hid (MkOk F):=by rw [hF];exact made_ok _
 rw [<- hF] at CM ⊢;clear hF hL;obtain ⟨iq0,iqi,iqz0,iqz1,iqz2⟩:=info_parts inf_Int;go_enter Try.func4,Try.ntmps4;go_upto_region 1 with fail;have m0:Mod [] w (w.alloc (.cells zeroF 31)):=(Mod.refl _ _).alloc _;have HB0:=Hi (Blk.new w zeroF 31);have HM0:=Hi m0;have CM0:=Hi (CM.out _ m0);rw [show w.alloc (.cells #[.int .i64 0,.slice none 0 0,.slice none 0 0,.slice none 0 0,.slice none 0 0,.slice none 0 0,.slice none 0 0,.slice none 0 0,.slice none 0 0] 31)=w.alloc (.cells zeroF 31) from rfl];have HW1:Hid ((w.alloc (.cells zeroF 31)).heap.size=w.heap.size+1):=by show _=_;simp
 generalize w.alloc (.cells zeroF 31)=w1 at *
 clear CM m0
 go_cut [6] from 12 (fun v6 wx=>∃ (fb:Nat) (g c lk fe ax rg fu cv:Hd),v6=.pointer (some ⟨fb,0,none⟩)/\Hid (Blk wx fb (fontCells F.unit g c lk fe ax rg fu cv) 31/\SFont (fun b=>w.heap.size+1<=b) wx (fontCells F.unit g c lk fe ax rg fu cv).toList F/\Mod [] w wx/\Blk wx w.heap.size zeroF 31))
 case first =>
  go_wp2_with fail;refine CM0.out.mono ?_;rintro e w2 ⟨cs,rfl,hS,m2⟩;obtain ⟨g,c,lk,fe,ax,rg,fu,cv,rfl⟩:=font_hds hS;have HS:Hid (SFont (fun b=>w1.heap.size<=b) w2 (fontCells F.unit g c lk fe ax rg fu cv).toList F/\Mod [] w1 w2):=⟨hS,m2⟩
  clear hS m2 CM0;unfold fontCells;go_wp2_with fail;go_meet
  case rel =>
   have al:Mod [] w2 (w2.alloc (.cells (fontCells F.unit g c lk fe ax rg fu cv) 31)):=(Mod.refl _ _).alloc _;refine ⟨w2.heap.size,g,c,lk,fe,ax,rg,fu,cv,rfl,Blk.new _ _ _,?_,(HM0.out.then HS.out.2).alloc _,(HB0.out.kept HS.out.2 (by simp)).kept al (by simp)⟩;exact SFont.weak _ _ _ _ _ (SFont.stay _ _ _ _ _ HS.out.1 (al.same0 _)) fun b _ hb=>Nat.le_trans (Nat.le_of_eq HW1.out.symm) hb
 case rest =>
 obtain ⟨fb,g,c,lk,fe,ax,rg,fu,cv,rfl,HST⟩:=hcut;obtain ⟨wo,hwo⟩:∃ wo,wo=wc:=⟨_,rfl⟩
 subst hwo;clear CM0 HM0 HB0 b1 b2 b3;have hax:=HST.out.2.1.hds.2.2.2.2.2.1;have han:=hax.n;obtain ⟨axa,axn,axc⟩:=ax;simp only at han hax;subst han;have HAX:Hid (Rows 4 RAxis (w.heap.size+1) wo (.slice axa F.axes.length axc) F.axes):=hax.old (by decide) SAxis.old fun b _ hb=>hb
 have HYC:=Hi (HY.out.mod RInt.stay HST.out.2.2.1);have HAL:=Hi HMK.out.axl;have HAI:=Hi HMK.out.ax;clear hax HMK;generalize hAX:F.axes=AX at *
 have HEX:=Hi hAX;clear hAX;have HG0:Hid (Grow wo.heap.size 3 1 SInt (fun _=>False) (.slice (some ⟨wo.heap.size,0,none⟩) 0 0) ([]:List Int) (wo.alloc (.cells #[] 3))) :=
  Grow.made (css:=[]) SInt.weak (Nat.le_refl _) (Blk.new wo #[] 3) rfl Elems.nil (fun _ _ h=>h.elim) (Nat.zero_le _)
 have HM1:Hid (Mod [] wo (wo.alloc (.cells #[] 3))):=(Mod.refl _ _).alloc _;have HPL:Hid ((Mk.place AX ys).take AX.length=Mk.place AX ys):=by
  have h9:=place_len AX ys;show _=_;rw [<- h9,List.take_length]
 unfold fontCells at HST;go_upto_block 0 with fail
 go_cut [7,8,9,10,11] from 19 (fun v7 v8 v9 v10 v11 wx=>∃ (op:Option Addr) (cp:Nat),v7=.slice op AX.length cp/\Hid (Grow wo.heap.size 3 1 SInt (fun _=>False) (.slice op AX.length cp) (Mk.place AX ys) wx/\Mod [] wo wx))
 case first =>
  generalize wo.alloc (.cells #[] 3)=w3 at *
  go_wp2_with fail
  go_loopg [7,8,9,10,11] AX.length (fun gk v7 v8 v9 v10 v11 wr=>∃ (i:Nat) (op:Option Addr) (cp:Nat),v7=.slice op i cp/\v8=.int .i64 (i:Int)/\Hid (i+gk=AX.length)/\Hid (Grow wo.heap.size 3 1 SInt (fun _=>False) (.slice op i cp) ((Mk.place AX ys).take i) wr/\Mod [] wo wr))
  case atStart=>exact ⟨0,some ⟨wo.heap.size,0,none⟩,0,rfl,rfl,by show 0+AX.length=AX.length;omega,HG0.out,HM1.out⟩
  case round =>
   obtain ⟨i,op,cp,rfl,rfl,hi5,HS⟩:=hrel;clear HG0 HM1;have q5:wr.cell? ⟨fb,5,none⟩=some (.slice axa AX.length axc):=(HST.out.1.kept HS.out.2 (by simp)).cell 5
   by_cases hin:i<AX.length
   case neg =>
    obtain rfl:i=AX.length:=by have:=hi5.out;omega
    have k1:decide ((AX.length:Int)<(AX.length:Int))=false:=decide_eq_false (by omega);rw [HPL.out] at HS;go_wp2_with fail;go_meet
    case rel=>exact ⟨op,cp,rfl,HS⟩
   have k1:decide ((i:Int)<(AX.length:Int))=true:=decide_eq_true (by omega);have k2:(0:Int)<=i:=by omega
   have k3:(i:Int)<(AX.length:Int):=by omega
   have ei:IntKind.i64.wrap ((i:Int)+1)=(i:Int)+1:=wrapi (by omega) (by have:=HAL.out;omega);have hA:=(HAX.out.mod RAxis.stay HS.out.2).at i hin;have HNX:=Hi (place_take AX ys i hin);have HAE:=Hi (HAI.out _ (List.getElem_mem hin));have HIN:=Hi hin;generalize AX[i]=a at *
   obtain ⟨nm,mi,df,mx⟩:=a;obtain ⟨b,rfl,-,cs,-,hc0,hcj,rfl,-,b1,b2,b3⟩:=hA;have d0:=hc0 (by decide);have d1:=hcj 1 (by decide) (by decide);have d2:=hcj 2 (by decide) (by decide);have d3:=hcj 3 (by decide) (by decide);simp only [List.getElem?_cons_zero,List.getElem?_cons_succ] at d0 d1 d2 d3;have HAB:=Hi (Blk.new wr #[.string nm,.int .i64 mi,.int .i64 df,.int .i64 mx] 56);have al:Mod [] wr (wr.alloc (.cells #[.string nm,.int .i64 mi,.int .i64 df,.int .i64 mx] 56)):=(Mod.refl _ _).alloc _;have HS2:Hid (Grow wo.heap.size 3 1 SInt (fun _=>False) (.slice op i cp) ((Mk.place AX ys).take i) (wr.alloc (.cells #[.string nm,.int .i64 mi,.int .i64 df,.int .i64 mx] 56))/\Mod [] wo (wr.alloc (.cells #[.string nm,.int .i64 mi,.int .i64 df,.int .i64 mx] 56))):=⟨HS.out.1.mod SInt.stay al,HS.out.2.then al⟩
   have HB:Hid (I64 mi/\I64 df/\I64 mx/\(-200<=mi/\mi<=0)/\df=0/\0<=mx/\mx<=300):=⟨b1,b2,b3,⟨HAE.out.1,HAE.out.2.1⟩,HAE.out.2.2.1,HAE.out.2.2.2.1,HAE.out.2.2.2.2.1⟩
   clear hc0 hcj b1 b2 b3 al HS hin HAE;go_upto_if 36 with fail;clear d0 d1 d2 d3 q5;generalize wr.alloc (.cells #[.string nm,.int .i64 mi,.int .i64 df,.int .i64 mx] 56)=w4 at *
   generalize wr.heap.size=ab at *
   go_cut [10,11,36] from 37 to 55 (fun v10 v11 v36 wx=>v10=.int .i64 (plF ys i ⟨nm,mi,df,mx⟩)/\Hid (I64 (plF ys i ⟨nm,mi,df,mx⟩)/\Grow wo.heap.size 3 1 SInt (fun _=>False) (.slice op i cp) ((Mk.place AX ys).take i) wx/\Mod [] wo wx))
   case first =>
    by_cases hy:i<ys.length
    case neg =>
     have k4:decide ((i:Int)<(ys.length:Int))=false:=decide_eq_false (by omega);have HP:Hid (plF ys i ⟨nm,mi,df,mx⟩=df):=by unfold plF;rw [if_neg hy];exact rfl
     go_wp2_with fail;go_meet
     case rel=>rw [HP.out];exact ⟨rfl,HB.out.2.1,HS2.out⟩
    have k4:decide ((i:Int)<(ys.length:Int))=true:=decide_eq_true (by omega);have k5:(i:Int)<(ys.length:Int):=by omega
    have hY:=(HYC.out.mod RInt.stay HS2.out.2).at i hy;have hyv:ys.getD i 0=ys[i]:=by simp [List.getD,hy]
    generalize ys[i]=y at *
    obtain ⟨b2,rfl,-,cs,-,hc0,-,rfl,hyI⟩:=hY;have y0:=hc0 (by decide);simp only [List.getElem?_cons_zero,Nat.mul_one] at y0;have A1:=HAB.out.cell 1;have A3:=HAB.out.cell 3;simp only [List.getElem?_toArray,List.getElem?_cons_zero,List.getElem?_cons_succ] at A1 A3;obtain ⟨nn,hnn⟩:∃ nn,nn=mx - mi+1:=⟨_,rfl⟩
    have hb:=HB.out;have n1:IntKind.i64.wrap (mx - mi)=mx - mi:=wrapi (by omega) (by omega);have n2:IntKind.i64.wrap (mx - mi+1)=nn:=by rw [wrapi (by omega) (by omega),hnn]
    have hn0:¬ nn=0:=by omega
    have hn1:0<nn:=by omega
    have z1:IntKind.i64.wrap (y.tmod nn)=y.tmod nn:=IntWalk.i64_in _ (by have:=tmod_range y nn hn1;omega);have z2:IntKind.i64.wrap (y.tmod nn+nn)=y.tmod nn+nn:=IntWalk.i64_in _ (by have:=tmod_range y nn hn1;omega);have z3:IntKind.i64.wrap ((y.tmod nn+nn).tmod nn)=(y.tmod nn+nn).tmod nn:=IntWalk.i64_in _ (by have:=tmod_range (y.tmod nn+nn) nn hn1;omega);have z4:(y.tmod nn+nn).tmod nn=y % nn:=tmod_twice y nn hn1;have z5:=Int.emod_nonneg y (b:=nn) (by omega);have z6:=Int.emod_lt_of_pos y hn1;have z7:IntKind.i64.wrap (mi+y % nn)=mi+y % nn:=IntWalk.i64_in _ (by omega);have HP:Hid (plF ys i ⟨nm,mi,df,mx⟩=mi+y % nn/\I64 (mi+y % nn)):=⟨by unfold plF;rw [if_pos hy,hyv];simp only;rw [hnn],I64.of (by omega) (by omega)⟩
    have Y0:∀ W,Mod [] w4 W->W.cell? (b2.add i)=some (.int .i64 y):=fun W m=>cell_stays m y0
    have M1:∀ W,Mod [] w4 W->W.cell? ⟨ab,1,none⟩=some (.int .i64 mi):=fun W m=>cell_stays m A1
    have M3:∀ W,Mod [] w4 W->W.cell? ⟨ab,3,none⟩=some (.int .i64 mx):=fun W m=>cell_stays m A3
    clear hb hy hc0 hyv hyI z5 z6 hn1 HB HAB hnn;go_upto_region 10 with fail;clear y0 A1 A3;refine wp_region_mask 13 [true,true,true,true,true,true,true,true,true,true,true,true,true] [] (by kernel_rfl) (by kernel_rfl) (by simp) ?_;simp only [pickM]
    iterate 13
     refine sv ?_
    refine steady_done ?_;refine lates_end (fun w' hw' _=>?_);simp only [List.drop_succ_cons,List.drop_zero];have HS3:Hid (Grow wo.heap.size 3 1 SInt (fun _=>False) (.slice op i cp) ((Mk.place AX ys).take i) w'/\Mod [] wo w'):=⟨HS2.out.1.mod SInt.stay hw',HS2.out.2.then hw'⟩
    clear hw' Y0 M1 M3 HS2;go_wp2_with fail;go_meet
    case rel=>rw [HP.out.1];exact ⟨rfl,HP.out.2,HS3.out⟩
   case rest =>
   obtain ⟨rfl,HS3⟩:=hcut;clear HS2 HB HAB;generalize plF ys i ⟨nm,mi,df,mx⟩=pv at *
   have hPL:((Mk.place AX ys).take i).length=i:=by rw [List.length_take,place_len];have:=HIN.out;omega
   have HPL2:=Hi hPL;have al:Mod [] wc (wc.alloc (.cells #[.int .i64 pv] 3)):=(Mod.refl _ _).alloc _;have HS4:Hid (Grow wo.heap.size 3 1 SInt (fun _=>False) (.slice op i cp) ((Mk.place AX ys).take i) (wc.alloc (.cells #[.int .i64 pv] 3))/\Mod [] wo (wc.alloc (.cells #[.int .i64 pv] 3))):=⟨HS3.out.2.1.mod SInt.stay al,HS3.out.2.2.then al⟩
   have HPI:=Hi HS3.out.1;clear hPL al HS3;go_upto_region 11 with fail;go_wp2_with (at_builtin;refine wpList_push (k:=1) (e:=3) (base:=wo.heap.size) (l:=(Mk.place AX ys).take i) (l':=[pv]) rfl _ _ 22 rfl iq0 _ 8 Try.underlying22 iqi iqz0 iqz1 iqz2 rfl (by decide) SInt.stay SInt.weak rfl HS4.out.1 ⟨wc.heap.size,0,none⟩ _ _ [[.int .i64 pv]] rfl rfl (Elems.one rfl ⟨rfl,HPI.out⟩) (fun j u hu=>blk_news (Blk.new wc #[.int .i64 pv] 3) rfl hu) (by simp [Value.oneCell']) ?_ ?_ HS4.out.2.size ?_)
   ·have h4:=HPL2.out;have h5:=HIN.out;have h6:=HAL.out;unfold maxLen;rw [h4];simp;omega
   ·have h4:=HPL2.out;have h5:=HIN.out;have h6:=HAL.out;rw [h4];simp;omega
   intro v' w5 hGP hgr _;have HS5:Hid (Grow wo.heap.size 3 1 SInt (fun _=>False) v' ((Mk.place AX ys).take (i+1)) w5/\Mod [] wo w5):=⟨by rw [HNX.out];exact hGP,HS4.out.2.grew hgr fun k hk=>(HS4.out.1.lt k hk).1⟩
   obtain ⟨op',cp',hv⟩:=HS5.out.1.form;have hPL3:((Mk.place AX ys).take (i+1)).length=i+1:=by rw [List.length_take,place_len];have:=HIN.out;omega
   rw [hPL3] at hv;subst hv;clear hGP hgr HS4 hPL3;go_wp2_with fail;go_roundg (gk - 1)
   case measure=>have:=hi5.out;have:=HIN.out;omega
   case rel=>exact ⟨i+1,op',cp',rfl,by rw [Int.natCast_add];rfl,by have:=hi5.out;have:=HIN.out;show i+1+(gk - 1)=AX.length;omega,HS5.out⟩
 case rest =>
 obtain ⟨op,cp,rfl,HS⟩:=hcut;have HST2:Hid (Blk wc fb (fontCells F.unit g c lk fe ⟨axa,AX.length,axc⟩ rg fu cv) 31/\SFont (fun b=>w.heap.size+1<=b) wc (fontCells F.unit g c lk fe ⟨axa,AX.length,axc⟩ rg fu cv).toList F/\Mod [] w wc/\Blk wc w.heap.size zeroF 31):=⟨HST.out.1.kept HS.out.2 (by simp),SFont.stay _ _ _ _ _ HST.out.2.1 (HS.out.2.same0 _),HST.out.2.2.1.then HS.out.2,HST.out.2.2.2.kept HS.out.2 (by simp)⟩
 have HPS:Hid (SRows 1 SInt (fun b=>w.heap.size+1<=b) wc (.slice op AX.length cp) (Mk.place AX ys)):=HS.out.1.done (by decide) SInt.weak (fun _ _ h=>h.elim) fun b hb=>Nat.le_trans HST.out.2.2.2.lt (HS.out.1.lt b hb).1
 clear HG0 HM1 HST HAX HYC HS;have d0:wc.cell? ⟨fb,0,none⟩=some (.int .i64 F.unit):=HST2.out.1.cell 0;have d1:wc.cell? ⟨fb,1,none⟩=some (.slice g.a g.n g.c):=HST2.out.1.cell 1;have d2:wc.cell? ⟨fb,2,none⟩=some (.slice c.a c.n c.c):=HST2.out.1.cell 2;have d3:wc.cell? ⟨fb,3,none⟩=some (.slice lk.a lk.n lk.c):=HST2.out.1.cell 3;have d4:wc.cell? ⟨fb,4,none⟩=some (.slice fe.a fe.n fe.c):=HST2.out.1.cell 4;have d5:wc.cell? ⟨fb,5,none⟩=some (.slice axa AX.length axc):=HST2.out.1.cell 5;have d6:wc.cell? ⟨fb,6,none⟩=some (.slice rg.a rg.n rg.c):=HST2.out.1.cell 6;have d7:wc.cell? ⟨fb,7,none⟩=some (.slice fu.a fu.n fu.c):=HST2.out.1.cell 7;have d8:wc.cell? ⟨fb,8,none⟩=some (.slice cv.a cv.n cv.c):=HST2.out.1.cell 8;have r0:wc.cell? ⟨w.heap.size,0,none⟩=some (.int .i64 0):=HST2.out.2.2.2.cell 0;have r1:wc.cell? ⟨w.heap.size,1,none⟩=some (.slice none 0 0):=HST2.out.2.2.2.cell 1;have r2:wc.cell? ⟨w.heap.size,2,none⟩=some (.slice none 0 0):=HST2.out.2.2.2.cell 2;have r3:wc.cell? ⟨w.heap.size,3,none⟩=some (.slice none 0 0):=HST2.out.2.2.2.cell 3;have r4:wc.cell? ⟨w.heap.size,4,none⟩=some (.slice none 0 0):=HST2.out.2.2.2.cell 4;have r5:wc.cell? ⟨w.heap.size,5,none⟩=some (.slice none 0 0):=HST2.out.2.2.2.cell 5;have r6:wc.cell? ⟨w.heap.size,6,none⟩=some (.slice none 0 0):=HST2.out.2.2.2.cell 6;have r7:wc.cell? ⟨w.heap.size,7,none⟩=some (.slice none 0 0):=HST2.out.2.2.2.cell 7;have r8:wc.cell? ⟨w.heap.size,8,none⟩=some (.slice none 0 0):=HST2.out.2.2.2.cell 8;have q0:=HST2.out.2.2.2.frozen 0;have q1:=HST2.out.2.2.2.frozen 1;have q2:=HST2.out.2.2.2.frozen 2;have q3:=HST2.out.2.2.2.frozen 3;have q4:=HST2.out.2.2.2.frozen 4;have q5:=HST2.out.2.2.2.frozen 5;have q6:=HST2.out.2.2.2.frozen 6;have q7:=HST2.out.2.2.2.frozen 7;have q8:=HST2.out.2.2.2.frozen 8;go_wp2_with fail;have XF:(((((((((wc.setCell ⟨w.heap.size,0,none⟩ (.int .i64 F.unit)).setCell ⟨w.heap.size,1,none⟩ (.slice g.a g.n g.c)).setCell ⟨w.heap.size,2,none⟩ (.slice c.a c.n c.c)).setCell ⟨w.heap.size,3,none⟩ (.slice lk.a lk.n lk.c)).setCell ⟨w.heap.size,4,none⟩ (.slice fe.a fe.n fe.c)).setCell ⟨w.heap.size,5,none⟩ (.slice axa AX.length axc)).setCell ⟨w.heap.size,6,none⟩ (.slice rg.a rg.n rg.c)).setCell ⟨w.heap.size,7,none⟩ (.slice fu.a fu.n fu.c)).setCell ⟨w.heap.size,8,none⟩ (.slice cv.a cv.n cv.c))=setN wc (w.heap.size) (0) [.int .i64 F.unit,.slice g.a g.n g.c,.slice c.a c.n c.c,.slice lk.a lk.n lk.c,.slice fe.a fe.n fe.c,.slice axa AX.length axc,.slice rg.a rg.n rg.c,.slice fu.a fu.n fu.c,.slice cv.a cv.n cv.c]:=rfl;rw [XF];clear XF;have HBF:Blk (setN wc w.heap.size 0 [.int .i64 F.unit,.slice g.a g.n g.c,.slice c.a c.n c.c,.slice lk.a lk.n lk.c,.slice fe.a fe.n fe.c,.slice axa AX.length axc,.slice rg.a rg.n rg.c,.slice fu.a fu.n fu.c,.slice cv.a cv.n cv.c]) w.heap.size #[.int .i64 F.unit,.slice g.a g.n g.c,.slice c.a c.n c.c,.slice lk.a lk.n lk.c,.slice fe.a fe.n fe.c,.slice axa AX.length axc,.slice rg.a rg.n rg.c,.slice fu.a fu.n fu.c,.slice cv.a cv.n cv.c] 31:=HST2.out.2.2.2.over [.int .i64 F.unit,.slice g.a g.n g.c,.slice c.a c.n c.c,.slice lk.a lk.n lk.c,.slice fe.a fe.n fe.c,.slice axa AX.length axc,.slice rg.a rg.n rg.c,.slice fu.a fu.n fu.c,.slice cv.a cv.n cv.c] rfl;have HMO:Mod [] w (setN wc w.heap.size 0 [.int .i64 F.unit,.slice g.a g.n g.c,.slice c.a c.n c.c,.slice lk.a lk.n lk.c,.slice fe.a fe.n fe.c,.slice axa AX.length axc,.slice rg.a rg.n rg.c,.slice fu.a fu.n fu.c,.slice cv.a cv.n cv.c]):=setN_mod (Nat.le_refl _) _ _ _ HST2.out.2.2.1;clear d0 r0 q0 d1 r1 q1 d2 r2 q2 d3 r3 q3 d4 r4 q4 d5 r5 q5 d6 r6 q6 d7 r7 q7 d8 r8 q8;have HOT:SameB (fun b=>w.heap.size+1<=b) wc (setN wc w.heap.size 0 [.int .i64 F.unit,.slice g.a g.n g.c,.slice c.a c.n c.c,.slice lk.a lk.n lk.c,.slice fe.a fe.n fe.c,.slice axa AX.length axc,.slice rg.a rg.n rg.c,.slice fu.a fu.n fu.c,.slice cv.a cv.n cv.c]):=fun b hb _=>setN_other (by have:w.heap.size+1<=b:=hb;omega) _ _ _
 have hS:=SFont.weak _ (fun b=>w.heap.size<=b) _ _ _ (SFont.stay _ _ _ _ _ HST2.out.2.1 HOT) fun b _ hb=>Nat.le_of_succ_le hb
 have hP:=(HPS.out.same SInt.stay HOT).weak (S':=fun b=>w.heap.size<=b) (by decide) SInt.weak fun b _ hb=>Nat.le_of_succ_le hb
 clear HOT HST2 HPS;generalize (setN wc w.heap.size 0 [.int .i64 F.unit,.slice g.a g.n g.c,.slice c.a c.n c.c,.slice lk.a lk.n lk.c,.slice fe.a fe.n fe.c,.slice axa AX.length axc,.slice rg.a rg.n rg.c,.slice fu.a fu.n fu.c,.slice cv.a cv.n cv.c])=wf at *
 have f0:wf.cell? ⟨w.heap.size,0,none⟩=some (.int .i64 F.unit):=HBF.cell 0;have f1:wf.cell? ⟨w.heap.size,1,none⟩=some (.slice g.a g.n g.c):=HBF.cell 1;have f2:wf.cell? ⟨w.heap.size,2,none⟩=some (.slice c.a c.n c.c):=HBF.cell 2;have f3:wf.cell? ⟨w.heap.size,3,none⟩=some (.slice lk.a lk.n lk.c):=HBF.cell 3;have f4:wf.cell? ⟨w.heap.size,4,none⟩=some (.slice fe.a fe.n fe.c):=HBF.cell 4;have f5:wf.cell? ⟨w.heap.size,5,none⟩=some (.slice axa AX.length axc):=HBF.cell 5;have f6:wf.cell? ⟨w.heap.size,6,none⟩=some (.slice rg.a rg.n rg.c):=HBF.cell 6;have f7:wf.cell? ⟨w.heap.size,7,none⟩=some (.slice fu.a fu.n fu.c):=HBF.cell 7;have f8:wf.cell? ⟨w.heap.size,8,none⟩=some (.slice cv.a cv.n cv.c):=HBF.cell 8;refine bodyPost_ret (v:=.tuple #[.agg #[.int .i64 F.unit,.slice g.a g.n g.c,.slice c.a c.n c.c,.slice lk.a lk.n lk.c,.slice fe.a fe.n fe.c,.slice axa AX.length axc,.slice rg.a rg.n rg.c,.slice fu.a fu.n fu.c,.slice cv.a cv.n cv.c],.slice op AX.length cp]) (by simp [results,Try.results4,go_sem,f0,f1,f2,f3,f4,f5,f6,f7,f8];try rfl) rfl ?_;rw [HEX.out];exact ⟨_,_,_,rfl,hS,hP,HMO⟩
theorem place_def {axes:List DAxis} (h:∀ a∈axes,AxIn a):Mk.place axes []=List.replicate axes.length 0:=by
 apply List.ext_getElem
 ·simp [Mk.place]
 ·intro i h1 h2;have hi:i<axes.length:=by simpa [Mk.place] using h1
  have h3:=(h _ (List.getElem_mem hi)).2.2.1;simp [Mk.place,plF,h3]
theorem along_def {a:DAxis} (h:AxIn a):Vr.onAxis 0 a.min a.dflt a.max/\Vr.alongR 0 a.min a.dflt a.max=(0,1):=by
 obtain ⟨h1,h2,h3,h4,h5,_⟩:=h;rw [h3];refine ⟨⟨by omega,h2,h4,by omega,h2,h4⟩,?_⟩;unfold Vr.alongR;rw [if_neg (by omega),if_neg (by omega)]
theorem places_def:∀ {axes:List DAxis},(∀ a∈axes,AxIn a)->Vr.allOn (List.replicate axes.length 0) (axes.map axOf)/\Vr.places (List.replicate axes.length 0) (axes.map axOf)=List.replicate axes.length (0,1)
 | [],_=>⟨trivial,rfl⟩
 | a::r,h=>by
  have h1:=along_def (h a List.mem_cons_self);have h2:=places_def (axes:=r) fun x hx=>h x (List.mem_cons_of_mem _ hx)
  refine ⟨⟨h1.1,h2.1⟩,?_⟩;show Vr.alongR 0 a.min a.dflt a.max::Vr.places (List.replicate r.length 0) (r.map axOf)=(0,1)::List.replicate r.length (0,1);rw [h1.2,h2.2]
theorem norm_def {axes:List DAxis} (h:∀ a∈axes,AxIn a):Vr.normR axes (Mk.place axes [])=.ok (List.replicate axes.length (0,1)):=by
 unfold Vr.normR;have h2:=places_def h;rw [if_pos (place_len _ _),place_def h,if_pos h2.1,h2.2]
theorem under_def:∀ t∈Mk.tents,Vr.underR t.start t.peak t.stop 0 1=some (if t.peak=0 then (1,1) else (0,1)):=by
 intro t ht;simp only [Mk.tents,List.mem_cons,List.not_mem_nil,or_false] at ht;rcases ht with rfl | rfl | rfl | rfl | rfl <;> decide +kernel
theorem mul_11:Rat.mulR 1 1 1 1=(1,1,true):=by decide +kernel
theorem mul_10:Rat.mulR 1 1 0 1=(0,1,true):=by decide +kernel
theorem mul_01:Rat.mulR 0 1 1 1=(0,1,true):=by decide +kernel
theorem mul_00:Rat.mulR 0 1 0 1=(0,1,true):=by decide +kernel
theorem prod_def0:∀ {ts:List DTent},(∀ t∈ts,t∈Mk.tents)->Vr.prodR (ts.map triple) (List.replicate ts.length (0,1)) (0,1)=some (0,1)
 | [],_=>rfl
 | t::r,h=>by
  have h1:=under_def t (h t List.mem_cons_self);have h2:=prod_def0 (ts:=r) fun x hx=>h x (List.mem_cons_of_mem _ hx)
  show (match Vr.underR t.start t.peak t.stop 0 1 with
   | some u=>if (Rat.mulR 0 1 u.1 u.2).2.2=true then Vr.prodR (r.map triple) (List.replicate r.length (0,1)) ((Rat.mulR 0 1 u.1 u.2).1,(Rat.mulR 0 1 u.1 u.2).2.1) else none
   | none=>none)=_
  rw [h1]
  by_cases hp:t.peak=0
  ·rw [if_pos hp];simp only;rw [mul_01];simp only [if_true];exact h2
  ·rw [if_neg hp];simp only;rw [mul_00];simp only [if_true];exact h2
theorem prod_def:∀ {ts:List DTent},(∀ t∈ts,t∈Mk.tents)->(∃ t∈ts,t.peak≠0)->Vr.prodR (ts.map triple) (List.replicate ts.length (0,1)) (1,1)=some (0,1)
 | [],_,h=>by obtain ⟨t,ht,_⟩:=h;simp at ht
 | t::r,h,hx=>by
  have h1:=under_def t (h t List.mem_cons_self)
  show (match Vr.underR t.start t.peak t.stop 0 1 with
   | some u=>if (Rat.mulR 1 1 u.1 u.2).2.2=true then Vr.prodR (r.map triple) (List.replicate r.length (0,1)) ((Rat.mulR 1 1 u.1 u.2).1,(Rat.mulR 1 1 u.1 u.2).2.1) else none
   | none=>none)=_
  rw [h1]
  by_cases hp:t.peak=0
  ·have h2:=prod_def (ts:=r) (fun x hx=>h x (List.mem_cons_of_mem _ hx)) (by
    obtain ⟨x,hm,hn⟩:=hx;rcases List.mem_cons.1 hm with rfl | hm
    ·exact absurd hp hn
    ·exact ⟨x,hm,hn⟩)
   rw [if_pos hp];simp only;rw [mul_11];simp only [if_true];exact h2
  ·have h2:=prod_def0 (ts:=r) fun x hx=>h x (List.mem_cons_of_mem _ hx)
   rw [if_neg hp];simp only;rw [mul_10];simp only [if_true];exact h2
theorem grown_def (n:Int) (h1:-20<=n) (h2:n<=20):Vr.grownR (0,1) n (0,1)=some (0,1):=by
 have key:∀ k:Fin 41,Vr.grownR (0,1) ((k.val:Int) - 20) (0,1)=some (0,1):=by decide +kernel
 have:=key ⟨(n+20).toNat,by omega⟩;rw [show (((⟨(n+20).toNat,by omega⟩:Fin 41).val:Int) - 20)=n by simp only;omega] at this;exact this
def ShZ (m:List (Int×Sh)):Prop:=∀ p∈m,p.2=((0,1),(0,1))
theorem ShZ.look {m:List (Int×Sh)} (h:ShZ m) (k:Int):lookP m k=none∨lookP m k=some ((0,1),(0,1)):=by
 unfold lookP;cases hf:m.find? (fun p=>p.1 == k) with
 | none=>exact .inl rfl
 | some p=>exact .inr (by rw [Option.map_some,h p (List.mem_of_find?_eq_some hf)])
theorem ShZ.put {m:List (Int×Sh)} (h:ShZ m) (k:Int):ShZ (putP m k ((0,1),(0,1))):=by
 unfold putP
 split
 ·intro p hp;obtain ⟨q,hq,rfl⟩:=List.mem_map.1 hp
  split
  ·rfl
  ·exact h q hq
 ·intro p hp;rcases List.mem_append.1 hp with hp | hp
  ·exact h p hp
  ·obtain rfl:=List.mem_singleton.1 hp;rfl
theorem shifts_def {regs:List DRegion} {xs:List (Int×Int)} {np:Nat} (hf:∀ r:Nat,r<regs.length->Vr.factorR (regTents regs r) xs=(0,1)):∀ (ds:List DDelta) (m:List (Int×Sh)),(∀ d∈ds,DeIn regs.length np d)->ShZ m->∃ m',Vr.shiftsR regs xs np ds m=.ok m'/\ShZ m'
 | [],m,_,hm=>⟨m,rfl,hm⟩
 | d::ds,m,hd,hm=>by
  obtain ⟨d1,d2,d3,d4,d5,d6,d7,d8,_⟩:=hd d List.mem_cons_self;have hz:((lookP m d.point).getD ((0,1),(0,1)))=((0,1),(0,1)):=by
   rcases hm.look d.point with h | h <;> rw [h] <;> rfl
  have hs:Vr.shiftStep regs xs np m d=.ok (putP m d.point ((0,1),(0,1))):=by
   unfold Vr.shiftStep;have h1:=hf d.region.toNat (by omega);rw [show ((d.region.toNat:Nat):Int)=d.region by omega] at h1;rw [if_pos ⟨d1,by omega⟩,if_pos ⟨d3,d4⟩,hz,h1,grown_def d.x d5 d6,grown_def d.y d7 d8]
  obtain ⟨m',h1,h2⟩:=shifts_def hf ds _ (fun x hx=>hd x (List.mem_cons_of_mem _ hx)) (hm.put d.point);refine ⟨m',?_,h2⟩;unfold Vr.shiftsR;rw [hs];exact h1
theorem round_0:Rat.roundR 0 1=0:=by decide +kernel
theorem pt_def {m:List (Int×Sh)} (hm:ShZ m) (i:Nat) (p:DPoint) (hp:PtIn p):Vr.ptR m i p=some p:=by
 obtain ⟨h1,h2,h3,h4⟩:=hp;unfold Vr.ptR;rcases hm.look (i:Int) with h | h <;> rw [h]
 simp only;rw [round_0];unfold Vr.movedR;rw [if_pos (by omega),if_pos (by omega)];simp
theorem pts_def {m:List (Int×Sh)} (hm:ShZ m):∀ (l:List DPoint) (i:Nat),(∀ p∈l,PtIn p)->Vr.ptsR m i l=some l
 | [],_,_=>rfl
 | p::r,i,h=>by
  unfold Vr.ptsR;rw [pt_def hm i p (h p List.mem_cons_self),pts_def hm r (i+1) fun q hq=>h q (List.mem_cons_of_mem _ hq)]
theorem adv_def {m:List (Int×Sh)} (hm:ShZ m) (a:Int) (h1:100<=a) (h2:a<=1000):Vr.advR m a=some a:=by
 unfold Vr.advR;rcases hm.look (-1) with h | h <;> rw [h]
 simp only;rw [round_0];unfold Vr.movedR;rw [if_pos (by omega)];simp
theorem glyph_def {regs:List DRegion} {xs:List (Int×Int)} (hf:∀ r:Nat,r<regs.length->Vr.factorR (regTents regs r) xs=(0,1)) {g:DGlyph} (hg:GlOk regs.length g):Vr.glyphR regs xs g=.ok { g with deltas:=[] }:=by
 obtain ⟨m,h1,h2⟩:=shifts_def hf g.deltas [] hg.del (by intro p hp;simp at hp);unfold Vr.glyphR;rw [h1];simp only;rw [adv_def h2 g.adv hg.adv.1 hg.adv.2];simp only;rw [pts_def h2 g.pts 0 hg.pts]
def bareG (g:DGlyph):DGlyph:={ g with deltas:=[] }
def bareF (F:DFont):DFont:={ F with glyphs:=F.glyphs.map bareG,axes:=[],regions:=[] }
theorem font_def {F:DFont} (hk:MkOk F) (ho:∀ r∈F.regions,∃ t∈r.tents,t.peak≠0):Vr.fontR F (Mk.place F.axes [])=.ok (bareF F):=by
 have hf:∀ r:Nat,r<F.regions.length->Vr.factorR (regTents F.regions r) (List.replicate F.axes.length (0,1))=(0,1):=fun r hr=>by
  have h1:=hk.rg _ (List.getElem_mem hr);have e:regTents F.regions (r:Int)=(F.regions[r]).tents:=by
   unfold regTents;rw [Int.toNat_natCast,List.getElem?_eq_getElem hr];rfl
  rw [e];unfold Vr.factorR;rw [if_pos (by rw [List.length_replicate];exact h1.1),<- h1.1,prod_def h1.2 (ho _ (List.getElem_mem hr))];rfl
 have hg:∀ g∈F.glyphs,Vr.glyphR F.regions (List.replicate F.axes.length (0,1)) g=.ok (bareG g):=fun g hg=>glyph_def hf (hk.gl g hg)
 have hs:Vr.fontGs F.regions (List.replicate F.axes.length (0,1)) F.glyphs=.ok (F.glyphs.map bareG):=by
  have key:∀ gs:List DGlyph,(∀ g∈gs,Vr.glyphR F.regions (List.replicate F.axes.length (0,1)) g=.ok (bareG g))->Vr.fontGs F.regions (List.replicate F.axes.length (0,1)) gs=.ok (gs.map bareG):=by
   intro gs
   induction gs with
   | nil=>exact fun _=>rfl
   | cons x r ih =>
    intro h;unfold Vr.fontGs;rw [h x List.mem_cons_self];simp only;rw [ih fun y hy=>h y (List.mem_cons_of_mem _ hy)];rfl
  exact key _ hg
 unfold Vr.fontR;rw [norm_def hk.ax];simp only;rw [hs];rfl
theorem bare_tiny {F:DFont} (h:FTiny F):FTiny (bareF F):=by
 refine ⟨⟨by show (F.glyphs.map bareG).length<=1000;rw [List.length_map];exact h.gl.1,fun g hg=>?_⟩,h.ch,h.lk,h.ft,⟨Nat.zero_le _,by simp [bareF]⟩,⟨Nat.zero_le _,by simp [bareF]⟩,h.fn,h.cv⟩;obtain ⟨x,hx,rfl⟩:=List.mem_map.1 hg;have h1:=h.gl.2 x hx;exact ⟨h1.name,h1.pts,h1.ends,h1.parts,h1.anchors,Nat.zero_le _,h1.hint⟩
theorem FTiny.fsmall {F:DFont} (h:FTiny F):FSmall F:=by
 have hr:∀ {l:List Int},l.length<=1000->l.length*8<=140737488351232:=fun h=>by omega
 refine ⟨⟨by have:=h.gl.1;omega,fun g hg=>?_⟩,by have:=h.ch;omega,⟨by have:=h.lk.1;omega,fun d hd=>⟨by have:=(h.lk.2 d hd).1;omega,fun r hr'=>?_⟩⟩,⟨by have:=h.ft.1;omega,fun f hf=>by have:=(h.ft.2 f hf).2;omega⟩,⟨by have:=h.fn.1;omega,fun c hc=>by have:=h.fn.2 c hc;omega⟩,hr h.cv⟩
 ·have h1:=(h.gl.2 g hg).psmall;exact ⟨h1.2.1,h1.2.2.1,h1.2.2.2.1,h1.2.2.2.2.1,h1.2.2.2.2.2.1,h1.2.2.2.2.2.2⟩
 ·obtain ⟨b,i,a,o,c⟩:=(h.lk.2 d hd).2 r hr';exact ⟨⟨by omega,fun x hx=>hr (b.2 x hx)⟩,⟨by omega,fun x hx=>hr (i.2 x hx)⟩,⟨by omega,fun x hx=>hr (a.2 x hx)⟩,hr o,by omega⟩
structure VD (W:World) (F A:DFont) (FC FA:Array Value) (fb ab bb B:Nat) (v:Value) (FB:Array Value) (L:List DGlyph) (w:World):Prop where
 f:Blk w fb FC 31
 a:Blk w ab FA 31
 b:Blk w bb FB 31
 ra:SFont (fun k=>k<ab) w FA.toList A
 rf:SFont (fun k=>k<fb) w FC.toList F
 g:Grow B 51 9 SGlyph (fun k=>k<fb) v L w
 mod:Mod [] W w
 ord:W.heap.size<=bb/\fb<ab/\ab<bb/\bb<B/\B<=w.heap.size
section
variable {W:World} {F A:DFont} {FC FA:Array Value} {fb ab bb B:Nat} {v v':Value} {FB:Array Value} {L L':List DGlyph} {w w':World}
theorem VD.stays:Stays (VD W F A FC FA fb ab bb B v FB L):=fun w w' h k =>
 ⟨h.f.kept k (by simp),h.a.kept k (by simp),h.b.kept k (by simp),SFont.stay _ _ _ _ _ h.ra (k.same0 _),SFont.stay _ _ _ _ _ h.rf (k.same0 _),h.g.mod SGlyph.stay k,h.mod.then k,h.ord.1,h.ord.2.1,h.ord.2.2.1,h.ord.2.2.2.1,Nat.le_trans h.ord.2.2.2.2 k.size⟩
theorem VD.setB (h:VD W F A FC FA fb ab bb B v FB L w) (j:Nat) (x:Value):VD W F A FC FA fb ab bb B v (FB.setIfInBounds j x) L (w.setCell ⟨bb,j,none⟩ x):=by
 have h1:=h.ord
 exact ⟨h.f.other (by show bb≠fb;omega) _,h.a.other (by show bb≠ab;omega) _,h.b.set j x,SFont.stay _ _ _ _ _ h.ra (SameB.set w (by show ¬ bb<ab;omega) _),SFont.stay _ _ _ _ _ h.rf (SameB.set w (by show ¬ bb<fb;omega) _),
  h.g.set SGlyph.stay (fun he=>by have h9:B<=bb:=(h.g.lt _ he).1;omega) (by show ¬ bb<fb;omega) _,h.mod.setNew (p:=⟨bb,j,none⟩) h1.1 _,h1.1,h1.2.1,h1.2.2.1,h1.2.2.2.1,by simpa using h1.2.2.2.2⟩
theorem VD.setG (h:VD W F A FC FA fb ab bb B v FB L w) {gb:Nat} (j:Nat) (x:Value) (hg:B<=gb) (hv:v.ownBlock≠some gb):VD W F A FC FA fb ab bb B v FB L (w.setCell ⟨gb,j,none⟩ x):=by
 have h1:=h.ord
 exact ⟨h.f.other (by show gb≠fb;omega) _,h.a.other (by show gb≠ab;omega) _,h.b.other (by show gb≠bb;omega) _,SFont.stay _ _ _ _ _ h.ra (SameB.set w (by show ¬ gb<ab;omega) _),SFont.stay _ _ _ _ _ h.rf (SameB.set w (by show ¬ gb<fb;omega) _),
  h.g.set SGlyph.stay hv (by show ¬ gb<fb;omega) _,h.mod.setNew (p:=⟨gb,j,none⟩) (by show W.heap.size<=gb;omega) _,h1.1,h1.2.1,h1.2.2.1,h1.2.2.2.1,by simpa using h1.2.2.2.2⟩
theorem VD.push (h:VD W F A FC FA fb ab bb B v FB L w) (hG:Grow B 51 9 SGlyph (fun k=>k<fb) v' L' w') (k:w.grownBy w' v.ownBlock):VD W F A FC FA fb ab bb B v' FB L' w':=by
 have h1:=h.ord;have h2:∀ b,v.ownBlock=some b->B<=b:=fun b hb=>(h.g.lt b hb).1
 exact ⟨h.f.grew k fun he=>by have:=h2 _ he;omega,h.a.grew k fun he=>by have:=h2 _ he;omega,h.b.grew k fun he=>by have:=h2 _ he;omega,SFont.stay _ _ _ _ _ h.ra (SameB.grown k fun b hb (hs:b<ab)=>by have:=h2 b hb;omega),SFont.stay _ _ _ _ _ h.rf (SameB.grown k fun b hb (hs:b<fb)=>by have:=h2 b hb;omega),
  hG,h.mod.grew k fun b hb=>by have:=h2 b hb;omega,h1.1,h1.2.1,h1.2.2.1,h1.2.2.2.1,Nat.le_trans h1.2.2.2.2 k.size⟩
theorem VD.row (h:VD W F A FC FA fb ab bb B v FB [] w):VD W F A FC FA fb ab bb w.heap.size (.slice (some ⟨w.heap.size,0,none⟩) 0 0) FB [] (w.alloc (.cells #[] 51)):=by
 have h1:=(VD.stays _ _ h ((Mod.refl _ _).alloc (.cells #[] 51)))
 have h2:=h.ord;exact ⟨h1.f,h1.a,h1.b,h1.ra,h1.rf,Grow.made (css:=[]) SGlyph.weak (Nat.le_refl _) (Blk.new w #[] 51) rfl Elems.nil (fun b _ (hb:b<fb)=>by omega) (Nat.zero_le _),h1.mod,h1.ord.1,h1.ord.2.1,h1.ord.2.2.1,by omega,by simp⟩
end
theorem VD.fin {W:World} {F A:DFont} {g c lk fe ax rg fu cv:Hd} {FA:Array Value} {fb ab bb B n cw:Nat} {ov:Option Addr} {L:List DGlyph} {w:World}
  (h:VD W F A (fontCells F.unit g c lk fe ax rg fu cv) FA fb ab bb B (.slice ov n cw) (fontCells F.unit ⟨ov,n,cw⟩ c lk fe ⟨none,0,0⟩ ⟨none,0,0⟩ fu cv) L w) :
  RFont 0 w FA.toList A/\RFont 0 w (fontCells F.unit ⟨ov,n,cw⟩ c lk fe ⟨none,0,0⟩ ⟨none,0,0⟩ fu cv).toList { F with glyphs:=L,axes:=[],regions:=[] }:=by
 refine ⟨SFont.old _ _ _ _ _ h.ra fun _ _ _=>Nat.zero_le _,?_⟩;have hI:I64 F.unit:=by
  obtain ⟨_,_,_,_,_,_,_,_,_,hu,_⟩:=h.rf;exact hu
 obtain ⟨-,h1,h2,h3,h4,h5,h6,h7,h8⟩:=h.rf.hds;have hG:SRows 9 SGlyph (fun _=>True) w (.slice ov n cw) L:=h.g.done (by decide) SGlyph.weak (fun _ _ _=>trivial) fun _ _=>trivial
 exact ⟨_,_,_,_,_,_,_,_,rfl,hI,hG.old (by decide) SGlyph.old fun _ _ _=>Nat.zero_le _,h2.old (by decide) SChar.old fun _ _ _=>Nat.zero_le _,h3.old (by decide) SLookup.old fun _ _ _=>Nat.zero_le _,h4.old (by decide) SFeature.old fun _ _ _=>Nat.zero_le _,(SRows.nil (S:=fun _=>True) w).old (by decide) SAxis.old fun _ _ _=>Nat.zero_le _,(SRows.nil (S:=fun _=>True) w).old (by decide) SRegion.old fun _ _ _=>Nat.zero_le _,h7.old (by decide) SCode.old fun _ _ _=>Nat.zero_le _,h8.old (by decide) SInt.old fun _ _ _=>Nat.zero_le _⟩
end Go.Proofs.Ytlkkhkbafahchaa
