/- LinePlain, HeapRow, HeapPush, HeapUp, HeapDown, HeapOps, LineSt, LineMk, PartsIt, LineDef, LineW, CompPlain. -/
import Derived.Test.YthheaflbbficgaaGreatGBase
import Derived.Test.YthheaflbbficgaaGreatGRing
import Derived.BigQuiet
import Derived.Deep.LoopGhost
import Derived.Deep.Cut
import Derived.IntWalk
import Derived.Test.YthheaflbbficgaaGreatGRf
import Derived.Test.YthheaflbbficgaaGreatGCl
import Derived.Test.YthheaflbbficgaaGreatGEa
import Derived.Sort.CutIn
set_option linter.all false
namespace Go.Proofs.YthheaflbbficgaaGreat
namespace Ln
def edges (P:Nat->List Nat) (n:Nat):List (Nat×Nat):=(List.range n).flatMap λg=>(P g).map λp=>(g,p)
theorem jE (P:Nat->List Nat) (n:Nat):edges P (n+1)=edges P n++(P n).map λp=>(n,p):=by
 unfold edges;rw [List.range_succ,List.flatMap_append];simp
def users (E:List (Nat×Nat)) (p:Nat):List Nat:=(E.filter λe=>decide (e.2=p)).map (·.1)
def missing (E:List (Nat×Nat)) (g:Nat):Nat:=E.countP λe=>decide (e.1=g)
theorem rP (E:List (Nat×Nat)) (g p q:Nat):missing (E++[(g,p)]) q=missing E q+if g=q then 1 else 0:=by
 unfold missing;rw [List.countP_append,List.countP_singleton];simp
theorem uZ (E:List (Nat×Nat)) (g p q:Nat):users (E++[(g,p)]) q=users E q++if p=q then [g] else []:=by
 unfold users;rw [List.filter_append,List.map_append]
 by_cases h:p=q <;> simp [h]
theorem iT (P:Nat->List Nat) (n g:Nat):missing (edges P n) g=if g<n then (P g).length else 0:=by
 induction n with
 | zero=>simp [edges,missing]
 | succ n ih =>
  rw [jE];unfold missing at ih ⊢;rw [List.countP_append,ih,List.countP_map]
  by_cases h:g=n
  ·subst h;rw [if_neg (Nat.lt_irrefl _),if_pos (Nat.lt_succ_self _),Nat.zero_add];rw [List.countP_eq_length.2];intro a _;simp
  ·rw [List.countP_eq_zero.2 (by intro a _;simp;exact λe=>h e.symm)]
   by_cases h2:g<n
   ·rw [if_pos h2,if_pos zo];rfl
   ·rw [if_neg h2,if_neg zo]
theorem jU (P:Nat->List Nat) (n u x:Nat):(users (edges P n) x).count u=if u<n then (P u).count x else 0:=by
 induction n with
 | zero=>simp [edges,users]
 | succ n ih =>
  rw [jE];unfold users at ih ⊢;rw [List.filter_append,List.map_append,List.count_append,ih]
  by_cases h:u=n
  ·subst h;rw [if_neg (Nat.lt_irrefl _),if_pos (Nat.lt_succ_self _),Nat.zero_add];have:∀ l:List Nat,List.count u (List.map (·.1) (List.filter (λe=>decide (e.2=x)) (l.map λp=>(u,p))))=l.count x:=by
    intro l
    induction l with
    | nil=>rfl
    | cons a r ih2 =>
     by_cases ha:a=x
     ·subst ha;simp [ih2]
     ·simp [ha,ih2]
   exact this _
  ·have:List.count u (List.map (·.1) (List.filter (λe=>decide (e.2=x)) ((P n).map λp=>(n,p))))=0:=by
    refine List.count_eq_zero.2 λhm=>?_
    obtain ⟨e,he,rfl⟩:=List.mem_map.1 hm;obtain ⟨p,_,rfl⟩:=List.mem_map.1 (List.mem_filter.1 he).1;exact h rfl
   rw [this]
   by_cases h2:u<n
   ·rw [if_pos h2,if_pos zo];rfl
   ·rw [if_neg h2,if_neg zo]
theorem sC {P:Nat->List Nat} {n x u:Nat} (h:u∈users (edges P n) x):u<n:=by
 have h1:=List.count_pos_iff.2 h;rw [jU] at h1
 by_cases h2:u<n
 ·exact h2
 ·rw [if_neg h2] at h1;omega
structure Ok (n:Nat) (P:Nat->List Nat) (L:List Nat):Prop where
 nodup:L.Nodup
 lt:∀ x∈L,x<n
 ahead:∀ a x b,L=a++x::b->∀ p∈P x,p∈a
 full:∀ g,g<n->(∀ p∈P g,p∈L)->g∈L
structure St (n:Nat) (P:Nat->List Nat) (L R:List Nat) (M:Nat->Nat):Prop where
 nodup:L.Nodup
 lt:∀ x∈L,x<n
 ahead:∀ a x b,L=a++x::b->∀ p∈P x,p∈a
 rnodup:R.Nodup
 ready:∀ g,g∈R↔g<n/\g ∉ L/\M g=0
 miss:∀ g,g<n->M g=(P g).countP λp=>decide (p ∉ L)
structure Mid (n:Nat) (P:Nat->List Nat) (L us R:List Nat) (M:Nat->Nat):Prop where
 nodup:L.Nodup
 lt:∀ x∈L,x<n
 ahead:∀ a x b,L=a++x::b->∀ p∈P x,p∈a
 rnodup:R.Nodup
 ready:∀ g,g∈R↔g<n/\g ∉ L/\M g=0
 miss:∀ g,g<n->M g=((P g).countP λp=>decide (p ∉ L))+us.count g
 ult:∀ u∈us,u<n
 free:∀ u∈us,u ∉ L
theorem St.perm {n:Nat} {P:Nat->List Nat} {L R R':List Nat} {M:Nat->Nat} (h:St n P L R M) (p:R.Perm R'):St n P L R' M :=
 ⟨h.nodup,h.lt,h.ahead,p.nodup_iff.1 h.rnodup,λg=>by rw [<- h.ready g];exact p.mem_iff.symm,h.miss⟩
theorem start (n:Nat) (P:Nat->List Nat):St n P [] ((List.range n).filter λg=>decide ((P g).length=0)) (missing (edges P n)) :=
 ⟨List.nodup_nil,by simp,by intro a x b h;simp at h,List.Pairwise.filter _ List.nodup_range,λg=>by
  rw [List.mem_filter,List.mem_range,iT];constructor
  ·rintro ⟨h1,h2⟩;rw [if_pos h1];exact ⟨h1,by simp,by simpa using h2⟩
  ·rintro ⟨h1,_,h2⟩;rw [if_pos h1] at h2;exact ⟨h1,by simpa using h2⟩,λg hg=>by
  rw [iT,if_pos hg];simp⟩
theorem uy {L l:List Nat} {x:Nat} (hx:x ∉ L):(l.countP λp=>decide (p ∉ L))=(l.countP λp=>decide (p ∉ L++[x]))+l.count x:=by
 induction l with
 | nil=>rfl
 | cons a r ih =>
  rw [List.countP_cons,List.countP_cons,List.count_cons,ih]
  by_cases ha:a=x
  ·subst ha;simp [hx];omega
  ·by_cases hL:a∈L
   ·simp [ha,hL]
   ·simp [ha,hL];omega
theorem St.pop {n:Nat} {P:Nat->List Nat} {L R R':List Nat} {M:Nat->Nat} {x:Nat} (h:St n P L R M) (p:R.Perm (x::R')):Mid n P (L++[x]) (users (edges P n) x) R' M:=by
 have h':=h.perm p;have hx:=(h'.ready x).1 zk;have hM:∀ q∈P x,q∈L:=λq hq=>by
  have h0:=h.miss x hx.1;rw [hx.2.2] at h0;have h1:=List.countP_eq_zero.1 h0.symm q hq;simpa using h1
 refine ⟨by rw [List.nodup_append];exact ⟨h.nodup,by simp,λa ha b hb=>by rw [mI.1 hb];exact λe=>hx.2.1 (e ▸ ha)⟩,λy hy=>?_,λa y b he=>?_,(List.nodup_cons.1 h'.rnodup).2,λg=>?_,λg hg=>?_,λu hu=>sC hu,λu hu hm=>?_⟩
 ·rcases List.mem_append.1 hy with hy | hy
  ·exact h.lt y hy
  ·rw [mI.1 hy];exact hx.1
 ·rcases List.eq_nil_or_concat b with rfl | ⟨b',z,rfl⟩
  ·have:=List.append_inj' he rfl;obtain ⟨rfl,h2⟩:=this;simp only [List.cons.injEq,and_true] at h2;subst h2;exact hM
  ·rw [List.concat_eq_append,show a++y::(b'++[z])=(a++y::b')++[z] by simp] at he;obtain ⟨h1,-⟩:=List.append_inj' he rfl;exact h.ahead a y b' h1
 ·constructor
  ·intro hg;have h1:=(h'.ready g).1 (List.mem_cons_of_mem _ hg);refine ⟨h1.1,λhm=>?_,h1.2.2⟩;rcases List.mem_append.1 hm with hm | hm
   ·exact h1.2.1 hm
   ·rw [mI.1 hm] at hg;exact (List.nodup_cons.1 h'.rnodup).1 hg
  ·rintro ⟨h1,h2,h3⟩;have h4:=(h'.ready g).2 ⟨h1,λhm=>h2 (List.mem_append_left _ hm),h3⟩;rcases List.mem_cons.1 h4 with h4 | h4
   ·exact absurd (by rw [h4];simp) h2
   ·exact h4
 ·rw [h.miss g hg,jU,if_pos hg];exact uy hx.2.1
 ·have h1:=List.count_pos_iff.2 hu;rw [jU,if_pos (sC hu)] at h1;have h2:=List.count_pos_iff.1 h1;rcases List.mem_append.1 hm with hm | hm
  ·obtain ⟨a,b,rfl⟩:=List.append_of_mem hm;exact hx.2.1 (List.mem_append_left _ (h.ahead a u b rfl x h2))
  ·rw [mI.1 hm] at h2;exact hx.2.1 (hM x h2)
theorem Mid.pos {n:Nat} {P:Nat->List Nat} {L us R:List Nat} {M:Nat->Nat} {u:Nat} (h:Mid n P L (u::us) R M):u<n/\0<M u:=by
 have h1:=h.ult u zk;refine ⟨h1,?_⟩;rw [h.miss u h1,List.count_cons_self];omega
theorem Mid.step {n:Nat} {P:Nat->List Nat} {L us R R':List Nat} {M M':Nat->Nat} {u:Nat} (h:Mid n P L (u::us) R M) (hM:∀ g,M' g=if g=u then M u - 1 else M g)
  (hR:R'.Perm (if M u=1 then u::R else R)):Mid n P L us R' M':=by
 obtain ⟨hu,hp⟩:=h.pos;have hur:u ∉ R:=λhm=>by have:=((h.ready u).1 hm).2.2;omega
 have huL:=h.free u zk;refine ⟨h.nodup,h.lt,h.ahead,hR.nodup_iff.2 ?_,λg=>?_,λg hg=>?_,λv hv=>h.ult v (List.mem_cons_of_mem _ hv),λv hv=>h.free v (List.mem_cons_of_mem _ hv)⟩
 ·split
  ·exact List.nodup_cons.2 ⟨hur,h.rnodup⟩
  ·exact h.rnodup
 ·rw [hR.mem_iff,hM g]
  by_cases hg:g=u
  ·subst hg;rw [if_pos rfl]
   split
   ·rename_i h1;simp [hu,huL,h1]
   ·rename_i h1;exact ⟨λhm=>absurd hm hur,λhm=>by have:=hm.2.2;omega⟩
  ·rw [if_neg hg,<- h.ready g]
   split
   ·simp [hg]
   ·exact Iff.rfl
 ·rw [hM g,h.miss g hg]
  by_cases hgu:g=u
  ·subst hgu;rw [if_pos rfl,h.miss g hg,List.count_cons_self];omega
  ·rw [if_neg hgu,List.count_cons_of_ne (λe=>hgu e.symm)]
theorem Mid.done {n:Nat} {P:Nat->List Nat} {L R:List Nat} {M:Nat->Nat} (h:Mid n P L [] R M):St n P L R M :=
 ⟨h.nodup,h.lt,h.ahead,h.rnodup,h.ready,λg hg=>by rw [h.miss g hg];simp⟩
theorem St.done {n:Nat} {P:Nat->List Nat} {L:List Nat} {M:Nat->Nat} (h:St n P L [] M):Ok n P L :=
 ⟨h.nodup,h.lt,h.ahead,λg hg hP=>by
  by_cases hL:g∈L
  ·exact hL
  ·have h1:M g=0:=by rw [h.miss g hg];exact List.countP_eq_zero.2 λp hp=>by simpa using hP p hp
   have h2:=(h.ready g).2 ⟨hg,hL,h1⟩
   cases h2⟩
theorem lx:∀ {n:Nat} {L:List Nat},L.Nodup->(∀ x∈L,x<n)->L.length<=n:=by
 intro n
 induction n with
 | zero=>intro L hn hl;cases L with
  | nil=>exact nR _
  | cons a r=>exact absurd (hl a zk) (Nat.not_lt_zero a)
 | succ n ih =>
  intro L hn hl;have h1:=ih (L:=L.erase n) (hn.erase n) λx hx=>by
   have h2:=hn.mem_erase_iff.1 hx;have h3:=hl x h2.2;have h4:=h2.1;omega
  by_cases hm:n∈L
  ·rw [List.length_erase_of_mem hm] at h1;omega
  ·rw [List.erase_of_not_mem hm] at h1;omega
theorem St.len {n:Nat} {P:Nat->List Nat} {L R:List Nat} {M:Nat->Nat} (h:St n P L R M):L.length+R.length<=n:=by
 have h1:(L++R).Nodup:=List.nodup_append.2 ⟨h.nodup,h.rnodup,λa ha b hb e=>((h.ready b).1 hb).2.1 (e ▸ ha)⟩;have h2:=lx (n:=n) h1 λx hx=>by
  rcases List.mem_append.1 hx with hx | hx
  ·exact h.lt x hx
  ·exact ((h.ready x).1 hx).1
 rwa [List.length_append] at h2
end Ln
set_option maxHeartbeats 8000000
open Go.RowKit
theorem C7 {w:World} {base g c n i:Nat} {e:TypeId} {xs:List Value} (h:w.ownsRow base e 1 (.slice (some ⟨g,0,none⟩) n c) n xs) (hi:i<n) (u:Value) :
  (w.setCell ⟨g,i,none⟩ u).ownsRow base e 1 (.slice (some ⟨g,0,none⟩) n c) n (xs.set i u):=by
 refine ⟨by rw [List.length_set];exact h.1,?_⟩;rcases h.2 with ⟨hv,-⟩ | ⟨g',cap,cur,hv,hb,hg,hc,hm,hs,ht⟩
 ·cases hv
 ·cases hv;refine .inr ⟨g,c,cur.setIfInBounds i u,rfl,hb,Blk.set (w:=w) hg i u,hc,hm,by rw [Array.size_setIfInBounds];exact hs,?_⟩;rw [Array.toList_setIfInBounds,List.take_set,ht]
theorem C8 {w:World} {base n k c:Nat} {oa:Option Addr} {e:TypeId} {xs:List Value} (h:w.ownsRow base e 1 (.slice oa n c) n xs) (hk:k<=n) :
  w.ownsRow base e 1 (.slice oa k c) k (xs.take k):=by
 have hl:=h.1;refine ⟨by rw [List.length_take];omega,?_⟩;rcases h.2 with ⟨hv,hn⟩ | ⟨g',cap,cur,hv,hb,hg,hc,hm,hs,ht⟩
 ·cases hv;obtain rfl:k=0:=zo;exact .inl ⟨rfl,rfl⟩
 ·cases hv;refine .inr ⟨g',c,cur,rfl,hb,hg,by omega,hm,hs,?_⟩;rw [<- ht,List.take_take]
  congr 1;omega
def ints (xs:List Int):List Value:=xs.map (Value.int .i64)
theorem ints_at {xs:List Int} {i:Nat} (hi:i<xs.length):(ints xs)[i]?=some (.int .i64 xs[i]):=by unfold ints;simp [hi]
theorem ints_set (xs:List Int) (i:Nat) (x:Int):(ints xs).set i (.int .i64 x)=ints (xs.set i x):=by unfold ints;rw [List.map_set]
theorem yS (xs:List Int) (k:Nat):(ints xs).take k=ints (xs.take k):=by unfold ints;rw [List.map_take]
structure dv (base rb:Nat) (w:World) (v:Value) (xs:List Int):Prop where
 box:Blk w rb #[v] 213
 row:w.ownsRow base 3 1 v xs.length (ints xs)
 apart:v.ownBlock≠some rb
 base:base<=w.heap.size
theorem dv.form {base rb:Nat} {w:World} {v:Value} {xs:List Int} (h:dv base rb w v xs):∃ oa c,v=.slice oa xs.length c:=eX h.row
theorem dv.ptr {base rb:Nat} {w:World} {v:Value} {xs:List Int} (h:dv base rb w v xs) (h0:0<xs.length):∃ g c,v=.slice (some ⟨g,0,none⟩) xs.length c/\g≠rb:=by
 rcases h.row.2 with ⟨rfl,hn⟩ | ⟨g,cap,cur,rfl,-⟩
 ·omega
 ·exact ⟨g,cap,rfl,λe=>h.apart (by rw [e];rfl)⟩
theorem dv.kept {base rb:Nat} {w w':World} {v:Value} {xs:List Int} {F:List Nat} (h:dv base rb w v xs) (m:Mod F w w') (h1:rb ∉ F) (h2:∀ b∈F,v.ownBlock≠some b):dv base rb w' v xs:=by
 refine ⟨h.box.kept m h1,⟨h.row.1,?_⟩,h.apart,nT h.base m.size⟩;rcases h.row.2 with hh | ⟨g,cap,cur,hv,hb,hg,h3⟩
 ·exact .inl hh
 ·refine .inr ⟨g,cap,cur,hv,hb,?_,h3⟩;rw [m.block g (h.row.lt g (by rw [hv];rfl)).2 (λhm=>h2 g hm (by rw [hv];rfl))];exact hg
theorem dv.mod {base rb:Nat} {w w':World} {v:Value} {xs:List Int} (h:dv base rb w v xs) (m:Mod [] w w'):dv base rb w' v xs:=h.kept m zk zk
theorem dv.cell {base rb g c n:Nat} {w:World} {xs:List Int} (h:dv base rb w (.slice (some ⟨g,0,none⟩) n c) xs) {i:Nat} (hi:i<xs.length) :
  w.cell? ⟨g,i,none⟩=some (.int .i64 xs[i]):=by
 rcases h.row.2 with ⟨hv,-⟩ | ⟨g',cap,cur,hv,hb,hg,hc,hm,hs,ht⟩
 ·cases hv
 ·cases hv;have hB:Blk w g cur 3:=hg;rw [hB.cell,<- ints_at hi,<- ht];rw [List.getElem?_take,if_pos zo];simp
theorem dv.frozen {base rb g c n:Nat} {w:World} {xs:List Int} (h:dv base rb w (.slice (some ⟨g,0,none⟩) n c) xs) (i:Nat):w.frozen? ⟨g,i,none⟩=false:=by
 rcases h.row.2 with ⟨hv,-⟩ | ⟨g',cap,cur,hv,hb,hg,hc,hm,hs,ht⟩
 ·cases hv
 ·cases hv;have hB:Blk w g cur 3:=hg;exact hB.frozen i
theorem dv.set {base rb g c n:Nat} {w:World} {xs:List Int} (h:dv base rb w (.slice (some ⟨g,0,none⟩) n c) xs) {i:Nat} (hi:i<xs.length) (x:Int) :
  dv base rb (w.setCell ⟨g,i,none⟩ (.int .i64 x)) (.slice (some ⟨g,0,none⟩) n c) (xs.set i x):=by
 have hn:n=xs.length:=by obtain ⟨_,_,he⟩:=h.form;cases he;rfl
 subst hn;refine ⟨h.box.other (a:=⟨g,i,none⟩) (λe=>h.apart (by rw [<- e];rfl)) _,?_,h.apart,by rw [fP];exact h.base⟩;have:=C7 h.row hi (.int .i64 x);rw [ints_set] at this;rw [List.length_set];exact this
theorem xH {xs:List Int} {i j:Nat} (hi:i<xs.length) (hj:j<xs.length):((xs.set i xs[j]).set j xs[i]).Perm xs:=by
 refine List.perm_iff_count.2 λa=>?_
 by_cases hij:i=j
 ·subst hij;simp
 ·rw [List.count_set (by simpa using hj),List.count_set hi,List.getElem_set_ne hij];have h1:xs[i]=a->0<xs.count a:=λe=>List.count_pos_iff.2 (e ▸ List.getElem_mem hi)
  have h2:xs[j]=a->0<xs.count a:=λe=>List.count_pos_iff.2 (e ▸ List.getElem_mem hj)
  by_cases e1:xs[i]=a <;> by_cases e2:xs[j]=a <;> simp [e1,e2] <;> (try have:=h1 e1) <;> (try have:=h2 e2) <;> omega
theorem oG {w : World} {b : Nat} {v : Value} (h : w.cell? ⟨b, 0, none⟩ = some v) : (method (355 + 1) 218 (.pointer (some ⟨b, 0, none⟩)) "Len").run Tryz.prog w = .ok (207, v) w := by
 have e : (method (355 + 1) 218 (.pointer (some ⟨b, 0, none⟩)) "Len").run Tryz.prog w = ((loadVar 213 ⟨b, 0, none⟩) >>= λv => pure ((207 : FuncId), v)).run Tryz.prog w :=zt;rw [e];simp [loadVar,go_sem,h]
theorem mj {w : World} {b : Nat} {v : Value} (h : w.cell? ⟨b, 0, none⟩ = some v) : (method (355 + 1) 218 (.pointer (some ⟨b, 0, none⟩)) "Less").run Tryz.prog w = .ok (208, v) w := by
 have e : (method (355 + 1) 218 (.pointer (some ⟨b, 0, none⟩)) "Less").run Tryz.prog w = ((loadVar 213 ⟨b, 0, none⟩) >>= λv => pure ((208 : FuncId), v)).run Tryz.prog w :=zt;rw [e];simp [loadVar,go_sem,h]
theorem jg {w : World} {b : Nat} {v : Value} (h : w.cell? ⟨b, 0, none⟩ = some v) : (method (355 + 1) 218 (.pointer (some ⟨b, 0, none⟩)) "Swap").run Tryz.prog w = .ok (209, v) w := by
 have e : (method (355 + 1) 218 (.pointer (some ⟨b, 0, none⟩)) "Swap").run Tryz.prog w = ((loadVar 213 ⟨b, 0, none⟩) >>= λv => pure ((209 : FuncId), v)).run Tryz.prog w :=zt;rw [e];simp [loadVar,go_sem,h]
theorem yH (w : World) (b : Nat) : (method (355 + 1) 218 (.pointer (some ⟨b, 0, none⟩)) "Push").run Tryz.prog w = .ok (211, .pointer (some ⟨b, 0, none⟩)) w := by
 kernel_rfl
theorem AY (w : World) (b : Nat) : (method (355 + 1) 218 (.pointer (some ⟨b, 0, none⟩)) "Pop").run Tryz.prog w = .ok (210, .pointer (some ⟨b, 0, none⟩)) w := by
 kernel_rfl
theorem rz (oa:Option Addr) (n c:Nat) (w:World):Calls Tryz.prog 207 #[.slice oa n c] w λe w'=>e=.returned (.int .i64 (n:Int))/\Mod [] w w':=by
 go_enter Tryz.func207,Tryz.ntmps207;go_wp2;go_ret;exact ⟨rfl,mR⟩
theorem Be {base rb:Nat} {w:World} {v:Value} {xs:List Int} (h:dv base rb w v xs) {i j:Nat} (hi:i<xs.length) (hj:j<xs.length) :
  Calls Tryz.prog 208 #[v,.int .i64 (i:Int),.int .i64 (j:Int)] w λe w'=>e=.returned (.bool (decide (xs[i]<xs[j])))/\Mod [] w w':=by
 obtain ⟨g,c,rfl,-⟩:=h.ptr zo;have c1:=h.cell hi;have c2:=h.cell hj;have k1:(0:Int)<=i:=zo;have k2:(i:Int)<xs.length:=zo;have k3:(0:Int)<=j:=zo;have k4:(j:Int)<xs.length:=zo;generalize xs[i]=x at *
 generalize xs[j]=y at *
 generalize xs.length=n at *
 clear h;go_enter Tryz.func208,Tryz.ntmps208;go_upto_region 1 with fail
 go_quiet (fail)
 go_wp2;go_ret;exact ⟨rfl,mR.drewN _⟩
theorem zX {base rb:Nat} {w:World} {v:Value} {xs:List Int} (h:dv base rb w v xs) {i j:Nat} (hi:i<xs.length) (hj:j<xs.length) :
  Calls Tryz.prog 209 #[v,.int .i64 (i:Int),.int .i64 (j:Int)] w λe w'=>e=.returned (.tuple #[])/\dv base rb w' v ((xs.set i xs[j]).set j xs[i])/\Mod v.ownBlock.toList w w':=by
 obtain ⟨g,c,rfl,-⟩:=h.ptr zo;have H:=Hi h;have HX:=Hi (And.intro hi hj);have C1:∀ W,Mod [] w W->W.cell? ⟨g,i,none⟩=some (.int .i64 xs[i]):=λW m=>(h.mod m).cell hi
 have C2:∀ W,Mod [] w W->W.cell? ⟨g,j,none⟩=some (.int .i64 xs[j]):=λW m=>(h.mod m).cell hj
 have k1:(0:Int)<=i:=zo;have k2:(i:Int)<xs.length:=zo;have k3:(0:Int)<=j:=zo;have k4:(j:Int)<xs.length:=zo;have HS:=Hi (λW (m:Mod [] w W)=>((h.mod m).set hi xs[j]).set (i:=j) (by simpa using hj) xs[i]);generalize xs[i]=x at *
 generalize xs[j]=y at *
 generalize hn:xs.length=n at *
 have HN:=Hi hn;clear h hi hj hn;go_enter Tryz.func209,Tryz.ntmps209;go_upto_region 0 with fail;refine nt [(13,2),(13,3)] _ zqj 13 [true,true,true,true,true,true,true,true,true,true,true,true,true] [] zt zt zk (λ_ _ d _ _ h=>by cases d <;> exact h) ?_;simp only [aQ]
 iterate 13
  refine sv ?_
 refine au ?_;refine aB (λw' hw' _=>?_);simp only [qS,qZ];have c1:=C1 w' hw';have c2:=C2 w' hw';have f1:=(H.o.mod hw').frozen i;have f2:=(H.o.mod hw').frozen j;have HW:=Hi hw';have c3:=((H.o.mod hw').set (by rw [HN.o];exact HX.o.1) y).cell (i:=j) (by rw [List.length_set,HN.o];exact HX.o.2);have f3:=((H.o.mod hw').set (by rw [HN.o];exact HX.o.1) y).frozen j;have HE:=Hi (HS.o w' hw');have HM:Hy (Mod [g] w ((w'.setCell ⟨g,i,none⟩ (.int .i64 y)).setCell ⟨g,j,none⟩ (.int .i64 x))):=((HW.o.more zk).setCell (p:=⟨g,i,none⟩) (λ_=>by simp) _).setCell (p:=⟨g,j,none⟩) (λ_=>by simp) _;generalize (xs.set i y)[j]'_=z at *
 clear C1 C2 hw' HS H HX;go_wp2_with fail;refine bodyPost_end (results_none rfl _ _ _) rfl ?_;exact ⟨rfl,HE.o,HM.o⟩
theorem xc {base b c:Nat} {t ty:TypeId} {v:Value} {xs:List Int} {w:World} {x:Int} (ht:Tryz.prog.underlying t=some (.slice 3)) (h:w.ownsRow base 3 1 v xs.length (ints xs)) (hB:Blk w b #[.int .i64 x] 3)
  (hn:xs.length<=1000000) (hbase:base<=w.heap.size):∃ v' w',(Builtin.append_ #[t,t] ty #[v,.slice (some ⟨b,0,none⟩) 1 c]).run Tryz.prog w=.ok v' w' /\
   w'.ownsRow base 3 1 v' (xs.length+1) (ints (xs++[x]))/\w.grownBy w' v.ownBlock/\(v'.ownBlock=v.ownBlock∨v'.ownBlock=some w.heap.size):=by
 obtain ⟨i0,hi,hz0,hz1,hz2⟩:=info_parts gN;have hnews:∀ (j:Nat) (u:Value),[Value.int .i64 x][j]?=some u->w.cell? ((⟨b,0,none⟩:Addr).add j)=some u:=λj u hu=>by
  have e1:(⟨b,0,none⟩:Addr).add j=⟨b,j,none⟩:=by unfold Addr.add;split <;> simp_all
  rw [e1,hB.cell,<- hu];simp
 have one:∀ u∈[Value.int .i64 x],u.oneCell'=true:=λu hu=>by rw [mI.1 hu];rfl
 obtain ⟨v',w',hr,h2,h3,_⟩:=run_append_own (P:=Tryz.prog) w base t ty 3 i0 _ 1 8 ht hi hz0 hz1 hz2 rfl zd v xs.length (ints xs) h ⟨b,0,none⟩ 1 c [.int .i64 x] rfl hnews one zqy zo hbase;have hbk:=fR (P:=Tryz.prog) t ty 3 i0 _ 1 8 ht hi hz0 hz1 hz2 rfl v xs.length (ints xs) h ⟨b,0,none⟩ 1 c [.int .i64 x] rfl hnews one zqy zo hr;refine ⟨v',w',hr,?_,h3,hbk⟩;have e:ints (xs++[x])=ints xs++[.int .i64 x]:=by unfold ints;simp
 rw [e];exact h2
theorem oE {base b c:Nat} {t:TypeId} {v:Value} {xs:List Int} {w:World} {y:Int} {o:Oper} {a:Act} {K:Act->World->Prop} {Q:Exit->Act->World->Prop} (hgd:o.guard=none) (s x:Operand)
  (ho:o.op=.call { callee:=.builtin .append,args:=#[s,x],argTypes:=#[t,t] }) (ht:Tryz.prog.underlying t=some (.slice 3)) (hs:a.eval s=v) (h:w.ownsRow base 3 1 v xs.length (ints xs))
  (hx:a.eval x=.slice (some ⟨b,0,none⟩) 1 c) (hB:Blk w b #[.int .i64 y] 3) (hn:xs.length<=1000000) (hbase:base<=w.heap.size)
  (hK:∀ v' w',w'.ownsRow base 3 1 v' (xs.length+1) (ints (xs++[y]))->w.grownBy w' v.ownBlock->(v'.ownBlock=v.ownBlock∨v'.ownBlock=some w.heap.size)->K (a.put o.dst v') w'):o.wp Tryz.prog a w K Q:=by
 obtain ⟨v',w',hr,h2,h3,h4⟩:=xc (ty:=o.type) (c:=c) ht h hB hn hbase;unfold Oper.wp execOp;simp only [ho,resolve,invoke,builtin,Sem.run_bind,Sem.run_pure,Result.andThen_ok,List.map_toArray,List.map_cons,List.map_nil,hs,hx,hr];exact hK v' w' h2 h3 h4
theorem kK {base b c:Nat} {t:TypeId} {v:Value} {xs:List Int} {w:World} {y:Int} {ops:Array Oper} {rest:List Oper} {o:Oper} {a:Act} {Q:Exit->Act->World->Prop} (hgd:o.guard=none) (s x:Operand)
  (ho:o.op=.call { callee:=.builtin .append,args:=#[s,x],argTypes:=#[t,t] }) (ht:Tryz.prog.underlying t=some (.slice 3)) (hs:a.eval s=v) (h:w.ownsRow base 3 1 v xs.length (ints xs))
  (hx:a.eval x=.slice (some ⟨b,0,none⟩) 1 c) (hB:Blk w b #[.int .i64 y] 3) (hn:xs.length<=1000000) (hbase:base<=w.heap.size)
  (hK:∀ v' w',w'.ownsRow base 3 1 v' (xs.length+1) (ints (xs++[y]))->w.grownBy w' v.ownBlock->(v'.ownBlock=v.ownBlock∨v'.ownBlock=some w.heap.size)->wpList Tryz.prog ops Q rest (a.put o.dst v') w'):wpList Tryz.prog ops Q (o::rest) a w:=by
 obtain ⟨v',w',hr,h2,h3,h4⟩:=xc (ty:=o.type) (c:=c) ht h hB hn hbase;refine wpList_plain hgd λK hKK=>?_
 unfold Oper.wp execOp;simp only [ho,resolve,invoke,builtin,Sem.run_bind,Sem.run_pure,Result.andThen_ok,List.map_toArray,List.map_cons,List.map_nil,hs,hx,hr];exact hKK _ _ (hK v' w' h2 h3 h4)
theorem Mod.dQ {w w':World} {row:Option Nat} (g:w.grownBy w' row):Mod row.toList w w' :=
 ⟨g.os,g.tape,g.output,g.size,λk hk hn=>g.block k hk (λhe=>hn (by rw [<- he];simp))⟩
def wW (base rb:Nat) (v:Value) (xs:List Int) (x:Int) (u:Value) (w:World):Prop:=(∃ b,u=.slice (some ⟨b,0,none⟩) 1 1/\Blk w b #[.int .i64 x] 3)/\dv base rb w v xs
theorem wW.stays {base rb:Nat} {v:Value} {xs:List Int} {x:Int} (u:Value):aG (wW base rb v xs x u):=λw w' ⟨⟨b,h0,h1⟩,h2⟩ m=>⟨⟨b,h0,h1.kept m zk⟩,h2.mod m⟩
def nP (base rb B:Nat) (v:Value) (xs:List Int) (x:Int) (u:Value) (w:World):Prop :=
 ∃ oa c,u=.slice oa (xs.length+1) c/\w.ownsRow base 3 1 u (xs.length+1) (ints (xs++[x]))/\Blk w rb #[v] 213/\u.ownBlock≠some rb/\(u.ownBlock=v.ownBlock∨∃ g,u.ownBlock=some g/\B<=g)/\base<=w.heap.size
theorem nP.stays {base rb B:Nat} {v:Value} {xs:List Int} {x:Int} (u:Value):aG (nP base rb B v xs x u):=λw w' ⟨oa,c,h0,h1,h2,h3,h4,h5⟩ m=>⟨oa,c,h0,gw h1 m,h2.kept m zk,h3,h4,nT h5 m.size⟩
theorem nP.make {base rb B:Nat} {v v':Value} {xs:List Int} {x:Int} {w w':World} (h:dv base rb w v xs) (hB:B<=w.heap.size) (hG:w'.ownsRow base 3 1 v' (xs.length+1) (ints (xs++[x]))) (g:w.grownBy w' v.ownBlock)
  (hb:v'.ownBlock=v.ownBlock∨v'.ownBlock=some w.heap.size):nP base rb B v xs x v' w':=by
 obtain ⟨oa,c,rfl⟩:=eX hG;refine ⟨oa,c,rfl,hG,h.box.kept (Mod.dQ g) (λhm=>h.apart zqq),λhe=>hb.elim (λq=>h.apart (q ▸ he)) (λq=>?_),hb.elim .inl (λq=>.inr ⟨_,q,hB⟩),nT h.base g.size⟩;have h8:=h.box.lt;rw [he] at q;injection q with q
 omega
set_option maxRecDepth 100000 in
theorem Au {base rb:Nat} {w:World} {v:Value} {xs:List Int} (x:Int) (h:dv base rb w v xs) (hn:xs.length<=1000000) :
  Calls Tryz.prog 211 #[.pointer (some ⟨rb,0,none⟩),.iface 3 (.int .i64 x)] w λe w'=>e=.returned (.tuple #[])/\Mod (rb::v.ownBlock.toList) w w'/\∃ v',dv base rb w' v' (xs++[x])/\(v'.ownBlock=v.ownBlock∨∃ g,v'.ownBlock=some g/\w.heap.size<=g):=by
 obtain ⟨oa,c,rfl⟩:=h.form;have H:=Hi h;have HN:=Hi hn;have hrb:rb ∉ (Value.slice oa xs.length c).ownBlock.toList:=by
  intro hm;exact h.apart zqq
 have HRB:=Hi hrb;have A0:∀ W,Mod (Value.slice oa xs.length c).ownBlock.toList w W->W.cell? ⟨rb,0,none⟩=some (.slice oa xs.length c):=λW m=>(h.box.kept m hrb).cell 0
 clear h hn hrb;go_enter Tryz.func211,Tryz.ntmps211;go_upto_region 0 with fail;refine Sw.aL (I:=Mod (Value.slice oa xs.length c).ownBlock.toList w) (F0:=(λW=>dv base rb W (.slice oa xs.length c) xs)) (λ_ _ h k=>h.then (k.more zk)) 8 [(0,none),(1,none),(2,none),(3,none),(4,none),(5,none),(6,some (wW base rb (.slice oa xs.length c) xs x)),(7,some (nP base rb w.heap.size (.slice oa xs.length c) xs x))] zt zt (Sq.aW zt) ?hTS72 (((Mod.refl [] w).drew).more zk) (λ_ _ h m=>h.mod m) (H.o.mod (mR.drew)) ?mainS72
 case hTS72 =>
  intro p hp T hT v;simp only [List.mem_cons,List.not_mem_nil,or_false] at hp;rcases hp with rfl | rfl | rfl | rfl | rfl | rfl | rfl | rfl <;> first | (cases hT;done) | (cases hT;first | exact nP.stays _ | exact wW.stays _)
 iterate 6 refine Sw.vv (w0:=w.drew) (((Mod.refl [] w).drew).more zk) ?_
 refine Sw.xx (λw' hw' hF K Q hK=>?_) (λkv hkv=>?_)
 ·go_wp2;exact hK _ _ (hw'.alloc _) ⟨⟨_,rfl,Blk.new _ _ _⟩,hF.mod (mR.alloc _)⟩
 obtain ⟨_,_,⟨nb,rfl,_⟩,_⟩:=hkv;refine Sw.xx (λw' hw' hF K Q hK=>?_) (λkv hkv=>?_)
 ·obtain ⟨⟨b9,he9,hB⟩,hO⟩:=hF;cases he9;refine oE (base:=base) (v:=.slice oa xs.length c) (xs:=xs) (y:=x) rfl _ _ rfl Tryz.underlying213 rfl hO.row rfl hB HN.o hO.base (λv' w'' hGP (hgr:w'.grownBy w'' (Value.slice oa xs.length c).ownBlock) hbk=>?_);exact hK _ _ (hw'.then (Mod.dQ hgr)) (nP.make hO hw'.size hGP hgr hbk)
 obtain ⟨_,_,ov',cv',rfl,_⟩:=hkv;refine Sw.bJ ?_;intro w' hw' hF;simp only [qS,qZ];obtain ⟨ov,cv,he,hR,hBx,hap,hob,hba⟩:=hF;cases he;have c0:=hBx.cell 0;have f0:=hBx.frozen 0;have HR:=Hi hR;have HBx:=Hi (And.intro hBx (And.intro hap (And.intro hob hba)));have HM:=Hi hw';clear hw' hR hBx hap hob hba A0;go_wp2_with fail;refine bodyPost_end (results_none rfl _ _ _) rfl ?_;refine ⟨rfl,?_,.slice ov' (xs.length+1) cv',?_,HBx.o.2.2.1⟩
 ·exact (HM.o.more (λx hx _=>List.mem_cons_of_mem _ hx)).setCell (p:=⟨rb,0,none⟩) (λ_=>by simp) _
 ·have e:(xs++[x]).length=xs.length+1:=by simp
  refine ⟨HBx.o.1.set 0 _,?_,HBx.o.2.1,by rw [fP];exact HBx.o.2.2.2⟩;rw [e];refine HR.o.kept (row:=some rb) ⟨rfl,rfl,rfl,by simp,λk hk hn=>Below.heap_setCell w' _ _ k (λhe=>hn (by rw [he]))⟩ (.inr HBx.o.2.1)
theorem Av {base rb:Nat} {w:World} {v:Value} {xs:List Int} (h:dv base rb w v xs) (hn:xs.length<=1000000) (h0:0<xs.length) :
  Calls Tryz.prog 210 #[.pointer (some ⟨rb,0,none⟩)] w λe w'=>e=.returned (.iface 3 (.int .i64 (xs.getD (xs.length - 1) 0)))/\Mod [rb] w w'/\∃ v',dv base rb w' v' (xs.take (xs.length - 1))/\v'.ownBlock=v.ownBlock:=by
 obtain ⟨g,c,rfl,hg⟩:=h.ptr h0;obtain ⟨k,hk⟩:∃ k,xs.length=k+1:=⟨xs.length - 1,by omega⟩
 have c1:=h.cell (i:=k) zo;have e1:xs.getD (xs.length - 1) 0=xs[k]'zo:=by rw [show xs.length - 1=k by omega,List.getD_eq_getElem?_getD,gE zo];rfl
 rw [e1];have HC:Hy ((xs.take (xs.length - 1)).length=k):=by show _=_;rw [List.length_take];omega
 have HR:Hy (w.ownsRow base 3 1 (.slice (some ⟨g,0,none⟩) k c) k (ints (xs.take (xs.length - 1)))):=by
  have:=C8 h.row (k:=k) zo;rw [yS] at this;rw [hk,Nat.add_sub_cancel];exact this
 generalize xs[k]'_=x at *
 generalize xs.take (xs.length - 1)=ys at *
 have c0:=h.box.cell 0;have f0:=h.box.frozen 0;have HB:=Hi (And.intro h.box (And.intro h.apart h.base));rw [hk] at c0 HB ⊢;have q1:IntKind.i64.wrap (((k+1:Nat):Int) - 1)=(k:Int):=by rw [Int.natCast_add];simp only [Int.natCast_one,Int.add_sub_cancel];exact IntWalk.i64_in _ zo
 have q5:wrap64 (k:Int)=(k:Int):=IntWalk.wrap64_in _ zo;have q2:(0:Int)<=k:=zo;have q3:(k:Int)<((k+1:Nat):Int):=zo;have q4:(k:Int)<=c:=by
  rcases h.row.2 with ⟨hv,-⟩ | ⟨g',cap,cur,hv,hb,hg,hc,hm,hs,ht⟩
  ·cases hv
  ·cases hv;omega
 simp only [gA,gZ] at c0;clear h hk e1 h0 hn;go_enter Tryz.func210,Tryz.ntmps210;go_wp2;go_ret;refine ⟨rfl,mR.setCell (p:=⟨rb,0,none⟩) (λ_=>by simp) _,.slice (some ⟨g,0,none⟩) k c,⟨HB.o.1.set 0 _,?_,HB.o.2.1,by rw [fP];exact HB.o.2.2⟩,rfl⟩;rw [HC.o];exact HR.o.kept (row:=some rb) ⟨rfl,rfl,rfl,by simp,λk hk hn=>Below.heap_setCell w _ _ k (λhe=>hn (by rw [he]))⟩ (.inr HB.o.2.1)
theorem dv.cell0 {base rb:Nat} {w:World} {v:Value} {xs:List Int} (h:dv base rb w v xs):w.cell? ⟨rb,0,none⟩=some v:=h.box.cell 0
theorem ji {base rb:Nat} {w:World} {v:Value} {xs:List Int} (h:dv base rb w v xs) {i j:Nat} (hi:i<xs.length) (hj:j<xs.length) :
  Calls Tryz.prog 208 #[v,.int .i64 (i:Int),.int .i64 (j:Int)] w λe w'=>∃ b,e=.returned (.bool b)/\Mod [] w w':=(Be h hi hj).mono λ_ _ q=>⟨_,q.1,q.2⟩
theorem jc {base rb:Nat} {w:World} {v:Value} {xs:List Int} (h:dv base rb w v xs) {i j:Nat} (hi:i<xs.length) (hj:j<xs.length) :
  Calls Tryz.prog 209 #[v,.int .i64 (i:Int),.int .i64 (j:Int)] w λe w'=>e=.returned (.tuple #[])/\Mod v.ownBlock.toList w w'/\∃ ys,dv base rb w' v ys/\ys.Perm xs:=(zX h hi hj).mono λ_ _ q=>⟨q.1,q.2.2,_,q.2.1,xH hi hj⟩
set_option maxRecDepth 100000 in
theorem DL {base rb:Nat} {w:World} {v:Value} {xs:List Int} (h:dv base rb w v xs) (hn:xs.length<=1000001) {j:Nat} (hj:j<xs.length) :
  Calls Tryz.prog 187 #[.iface 218 (.pointer (some ⟨rb,0,none⟩)),.int .i64 (j:Int)] w λe w'=>e=.returned (.tuple #[])/\Mod v.ownBlock.toList w w'/\∃ ys,dv base rb w' v ys/\ys.Perm xs:=by
 have H:=Hi h;have HN:=Hi hn;have HJ:=Hi hj;clear h hn hj;go_enter Tryz.func187,Tryz.ntmps187;go_wp2_with fail
 go_loopg [1] j (λgk v1 wr=>∃ (i:Nat) (ys:List Int),v1=.int .i64 (i:Int)/\Hy (i=gk)/\Hy (i<ys.length)/\Hy (dv base rb wr v ys)/\Hy (ys.Perm xs)/\Hy (Mod v.ownBlock.toList w wr))
 case atStart=>exact ⟨j,xs,rfl,rfl,HJ.o,H.o,List.Perm.refl _,mR⟩
 case round =>
  obtain ⟨i,ys,rfl,HG,HI,HH,HP,HM⟩:=hrel;clear H;rcases Nat.eq_zero_or_pos i with rfl | hi
  ·have q1:IntKind.i64.wrap ((0:Int) - 1)=-1:=zd;go_wp2_with fail;refine bodyPost_end (results_none rfl _ _ _) rfl ?_;exact ⟨rfl,HM.o,ys,HH.o,HP.o⟩
  ·have hp:=HH.o.cell0;have hL:=mj (w:=wr) (b:=rb) hp;simp only [Nat.reduceAdd] at hL;obtain ⟨k,rfl⟩:∃ k,i=k+1:=⟨i - 1,by omega⟩
   have hb:k<=1000001:=by have:=HI.o;have:=HP.o.length_eq;have:=HN.o;omega
   have q1:IntKind.i64.wrap (((k+1:Nat):Int) - 1)=(k:Int):=by rw [Int.natCast_add];simp only [Int.natCast_one,Int.add_sub_cancel];exact IntWalk.i64_in _ zo
   have q2:wrap64 (k:Int)=(k:Int):=IntWalk.wrap64_in _ zo;obtain ⟨p,hp2⟩:∃ p,p=k / 2:=⟨_,rfl⟩
   have hpk:p<=k:=zo;have e3:(k:Int).tdiv 2=(p:Int):=by rw [hp2];exact (Int.ofNat_tdiv k 2).symm
   have q4:wrap64 (p:Int)=(p:Int):=IntWalk.wrap64_in _ zo;have q5:IntKind.i64.wrap (p:Int)=(p:Int):=IntWalk.i64_in _ zo;have q6:=dF (p:=(p:Int)=(k:Int)+1) zo;have q7:((p:Int) == (k:Int)+1)=false:=by simp;omega
   have q9:¬ ((p:Int)=(k:Int)+1):=zo;have q8:=dF (p:=p=k+1) zo;have HPK:=Hi hpk;have HX:=Hi (ji HH.o (i:=k+1) (j:=p) HI.o (by have:=HI.o;omega));clear hp2 hpk hb hi;go_wp2_with fail;refine HX.o.mono ?_;rintro e w2 ⟨b,rfl,m2⟩;have HH2:=Hi (HH.o.mod m2);have HM2:=Hi (HM.o.then (m2.more zk));clear m2 HX HH HM hL hp;cases b with
   | false =>
    go_wp2_with fail;refine bodyPost_end (results_none rfl _ _ _) rfl ?_;exact ⟨rfl,HM2.o,ys,HH2.o,HP.o⟩
   | true =>
    have hp:=HH2.o.cell0;have hS:=jg (w:=w2) (b:=rb) hp;simp only [Nat.reduceAdd] at hS;have HX:=Hi (jc HH2.o (i:=p) (j:=k+1) (by have:=HI.o;have:=HPK.o;omega) HI.o);go_wp2_with fail;refine HX.o.mono ?_;rintro e w3 ⟨rfl,m3,zs,hz,hzp⟩;have HH3:=Hi hz;have HM3:=Hi (HM2.o.then m3);have HP3:=Hi (hzp.trans HP.o);have HL3:=Hi hzp.length_eq;clear m3 hz hzp hp hS HX HH2 HM2;go_wp2;go_roundg p
    case measure=>have:=HG.o;have:=HPK.o;omega
    case rel=>exact ⟨p,zs,rfl,rfl,by have:=HI.o;have:=HPK.o;have:=HL3.o;show p<zs.length;omega,HH3.o,HP3.o,HM3.o⟩
set_option maxRecDepth 100000 in
theorem tH {base rb:Nat} {w:World} {v:Value} {xs:List Int} (h:dv base rb w v xs) (hn:xs.length<=1000001) {i0 n:Nat} (hi0:i0<=1000001) (hnx:n<=xs.length) :
  Calls Tryz.prog 186 #[.iface 218 (.pointer (some ⟨rb,0,none⟩)),.int .i64 (i0:Int),.int .i64 (n:Int)] w λe w'=>(∃ b,e=.returned (.bool b))/\Mod v.ownBlock.toList w w'/\∃ ys,dv base rb w' v ys/\ys.Perm xs:=by
 have H:=Hi h;have HN:=Hi (And.intro hn (And.intro hi0 hnx));clear h hn hi0 hnx;go_enter Tryz.func186,Tryz.ntmps186;go_wp2_with fail
 go_loopg [7] (n - i0) (λgk v7 wr=>∃ (i:Nat) (ys:List Int),v7=.int .i64 (i:Int)/\Hy (n - i=gk)/\Hy (i<=1000001)/\Hy (dv base rb wr v ys)/\Hy (ys.Perm xs)/\Hy (Mod v.ownBlock.toList w wr))
 case atStart=>exact ⟨i0,xs,rfl,rfl,HN.o.2.1,H.o,List.Perm.refl _,mR⟩
 case round =>
  obtain ⟨i,ys,rfl,HG,HI,HH,HP,HM⟩:=hrel;clear H;have hp:=HH.o.cell0;have hL:=mj (w:=wr) (b:=rb) hp;simp only [Nat.reduceAdd] at hL;obtain ⟨m,hm⟩:∃ m,m=2*i:=⟨_,rfl⟩
  obtain ⟨j1,hj1⟩:∃ j,j=m+1:=⟨_,rfl⟩
  obtain ⟨j2,hj2⟩:∃ j,j=j1+1:=⟨_,rfl⟩
  have hii:=HI.o;have e0:(2:Int)*(i:Int)=(m:Int):=zo;have e1:IntKind.i64.wrap (m:Int)=(m:Int):=IntWalk.i64_in _ zo;have e2:wrap64 (m:Int)=(m:Int):=IntWalk.wrap64_in _ zo;have e3:(m:Int)+1=(j1:Int):=zo;have e4:IntKind.i64.wrap (j1:Int)=(j1:Int):=IntWalk.i64_in _ zo;have e5:wrap64 (j1:Int)=(j1:Int):=IntWalk.wrap64_in _ zo;have e6:(j1:Int)+1=(j2:Int):=zo;have e7:IntKind.i64.wrap (j2:Int)=(j2:Int):=IntWalk.i64_in _ zo;have e8:wrap64 (j2:Int)=(j2:Int):=IntWalk.wrap64_in _ zo;have HJ:Hy (i<j1/\j2=j1+1/\j2<=2000010):=⟨by omega,hj2,by omega⟩
  clear hm hj1 hj2 hii
  by_cases hA:n<=j1
  ·have k1:=dT (p:=(n:Int)<=j1) zo;have k2:=dT (p:=n<=j1) hA;clear hA;go_wp2;go_ret;exact ⟨⟨_,rfl⟩,HM.o,ys,HH.o,HP.o⟩
  have k1:=dF (p:=(n:Int)<=j1) zo;have k2:=dF (p:=n<=j1) hA;have k3:=dF (p:=(j1:Int)<0) zo;have HA:Hy (j1<n):=by show j1<n;omega
  clear hA
  by_cases hB:j2<n
  ·have k4:=dT (p:=(j2:Int)<n) zo;have k5:=dT (p:=j2<n) hB;have HX:=Hi (ji HH.o (i:=j2) (j:=j1) (by have:=HP.o.length_eq;have:=HN.o.2.2;omega) zqi);have HB:=Hi hB;clear hB;go_wp2_with fail;refine HX.o.mono ?_;rintro e w1 ⟨b,rfl,m1⟩;have HH1:=Hi (HH.o.mod m1);have HM1:=Hi (HM.o.then (m1.more zk));clear m1 HX HH HM hL hp;have hp:=HH1.o.cell0;have hL:=mj (w:=w1) (b:=rb) hp;simp only [Nat.reduceAdd] at hL;cases b with
   | true =>
    have HX:=Hi (ji HH1.o (i:=j2) (j:=i) (by have:=HP.o.length_eq;have:=HN.o.2.2;have:=HB.o;omega) zqd);go_wp2_with fail;refine HX.o.mono ?_;rintro e w2 ⟨c,rfl,m2⟩;have HH2:=Hi (HH1.o.mod m2);have HM2:=Hi (HM1.o.then (m2.more zk));clear m2 HX HH1 HM1 hL hp;cases c with
    | false =>
     go_wp2;go_ret;exact ⟨⟨_,rfl⟩,HM2.o,ys,HH2.o,HP.o⟩
    | true =>
     have hp:=HH2.o.cell0;have hS:=jg (w:=w2) (b:=rb) hp;simp only [Nat.reduceAdd] at hS;have HX:=Hi (jc HH2.o (i:=i) (j:=j2) zqd (by have:=HP.o.length_eq;have:=HN.o.2.2;have:=HB.o;omega));go_wp2_with fail;refine HX.o.mono ?_;rintro e w3 ⟨rfl,m3,zs,hz,hzp⟩;have HH3:=Hi hz;have HM3:=Hi (HM2.o.then m3);have HP3:=Hi (hzp.trans HP.o);clear m3 hz hzp hp hS HX HH2 HM2;go_wp2;go_roundg (n - j2)
     case measure=>have:=HG.o;have:=HA.o;have:=HJ.o;omega
     case rel=>exact ⟨j2,zs,rfl,rfl,by have:=HB.o;have:=HN.o;show j2<=1000001;omega,HH3.o,HP3.o,HM3.o⟩
   | false =>
    have HX:=Hi (ji HH1.o (i:=j1) (j:=i) zqi zqd);go_wp2_with fail;refine HX.o.mono ?_;rintro e w2 ⟨c,rfl,m2⟩;have HH2:=Hi (HH1.o.mod m2);have HM2:=Hi (HM1.o.then (m2.more zk));clear m2 HX HH1 HM1 hL hp;cases c with
    | false =>
     go_wp2;go_ret;exact ⟨⟨_,rfl⟩,HM2.o,ys,HH2.o,HP.o⟩
    | true =>
     have hp:=HH2.o.cell0;have hS:=jg (w:=w2) (b:=rb) hp;simp only [Nat.reduceAdd] at hS;have HX:=Hi (jc HH2.o (i:=i) (j:=j1) zqd zqi);go_wp2_with fail;refine HX.o.mono ?_;rintro e w3 ⟨rfl,m3,zs,hz,hzp⟩;have HH3:=Hi hz;have HM3:=Hi (HM2.o.then m3);have HP3:=Hi (hzp.trans HP.o);clear m3 hz hzp hp hS HX HH2 HM2;go_wp2;go_roundg (n - j1)
     case measure=>have:=HG.o;have:=HA.o;have:=HJ.o;omega
     case rel=>exact ⟨j1,zs,rfl,rfl,by have:=HA.o;have:=HN.o;show j1<=1000001;omega,HH3.o,HP3.o,HM3.o⟩
  ·have k4:=dF (p:=(j2:Int)<n) zo;have k5:=dF (p:=j2<n) hB;clear hB;have HX:=Hi (ji HH.o (i:=j1) (j:=i) zqi zqd);go_wp2_with fail;refine HX.o.mono ?_;rintro e w2 ⟨c,rfl,m2⟩;have HH2:=Hi (HH.o.mod m2);have HM2:=Hi (HM.o.then (m2.more zk));clear m2 HX HH HM hL hp;cases c with
   | false =>
    go_wp2;go_ret;exact ⟨⟨_,rfl⟩,HM2.o,ys,HH2.o,HP.o⟩
   | true =>
    have hp:=HH2.o.cell0;have hS:=jg (w:=w2) (b:=rb) hp;simp only [Nat.reduceAdd] at hS;have HX:=Hi (jc HH2.o (i:=i) (j:=j1) zqd zqi);go_wp2_with fail;refine HX.o.mono ?_;rintro e w3 ⟨rfl,m3,zs,hz,hzp⟩;have HH3:=Hi hz;have HM3:=Hi (HM2.o.then m3);have HP3:=Hi (hzp.trans HP.o);clear m3 hz hzp hp hS HX HH2 HM2;go_wp2;go_roundg (n - j1)
    case measure=>have:=HG.o;have:=HA.o;have:=HJ.o;omega
    case rel=>exact ⟨j1,zs,rfl,rfl,by have:=HA.o;have:=HN.o;show j1<=1000001;omega,HH3.o,HP3.o,HM3.o⟩
set_option maxRecDepth 100000 in
theorem Bn {base rb:Nat} {w:World} {v:Value} {xs:List Int} (h:dv base rb w v xs) (hn:xs.length<=1000000) :
  Calls Tryz.prog 178 #[.iface 218 (.pointer (some ⟨rb,0,none⟩))] w λe w'=>e=.returned (.tuple #[])/\Mod v.ownBlock.toList w w'/\∃ ys,dv base rb w' v ys/\ys.Perm xs:=by
 have H:=Hi h;have HN:=Hi hn;obtain ⟨oa,c,he⟩:=h.form;have HX:=Hi (rz oa xs.length c w);rw [<- he] at HX;have HE:=Hi he;have hp:=h.cell0;have hL:=oG (w:=w) (b:=rb) hp;simp only [Nat.reduceAdd] at hL;obtain ⟨n,hn2⟩:∃ n,n=xs.length:=⟨_,rfl⟩
 rw [<- hn2] at HX;obtain ⟨p,hp2⟩:∃ p,p=n / 2:=⟨_,rfl⟩
 have e1:(n:Int).tdiv 2=(p:Int):=by rw [hp2];exact (Int.ofNat_tdiv n 2).symm
 have e2:IntKind.i64.wrap (p:Int)=(p:Int):=IntWalk.i64_in _ zo;have e3:wrap64 (p:Int)=(p:Int):=IntWalk.wrap64_in _ zo;have HP:Hy (p<=1000000/\n=xs.length):=⟨by omega,hn2⟩
 clear h hn he hn2 hp2;go_enter Tryz.func178,Tryz.ntmps178;go_wp2_with fail;refine HX.o.mono ?_;rintro e w1 ⟨rfl,m1⟩;have H1:=Hi (H.o.mod m1);have HM1:Hy (Mod v.ownBlock.toList w w1):=m1.more zk;clear m1 HX H hL hp;obtain ⟨i0,hi0⟩:∃ i0:Int,i0=(p:Int) - 1:=⟨_,rfl⟩
 have e4:(p:Int) - 1=i0:=hi0.symm;have hpp:=HP.o.1;have e5:IntKind.i64.wrap i0=i0:=IntWalk.i64_in _ zo;have e6:wrap64 i0=i0:=IntWalk.wrap64_in _ zo;have HI:=Hi hi0;clear hi0 hpp;go_wp2_with fail
 go_loopg [3] p (λgk v3 wr=>∃ (i:Int) (ys:List Int),v3=.int .i64 i/\Hy (i=(gk:Int) - 1/\gk<=1000000)/\Hy (dv base rb wr v ys)/\Hy (ys.Perm xs)/\Hy (Mod v.ownBlock.toList w wr))
 case atStart=>exact ⟨i0,xs,rfl,⟨HI.o,HP.o.1⟩,H1.o,List.Perm.refl _,HM1.o⟩
 case round =>
  clear e4 e5 e6 HI H1 HM1 e1 e2 e3;obtain ⟨i,ys,rfl,HG,HH,HPm,HM⟩:=hrel;rcases Nat.eq_zero_or_pos gk with hg | hg
  ·obtain rfl:i=-1:=by have:=HG.o.1;omega
   have k1:decide ((0:Int)<=-1)=false:=zd;clear hg;go_wp2_with fail;refine bodyPost_end (results_none rfl _ _ _) rfl ?_;exact ⟨rfl,HM.o,ys,HH.o,HPm.o⟩
  ·obtain ⟨q,rfl⟩:∃ q:Nat,i=(q:Int):=⟨gk - 1,by have:=HG.o.1;omega⟩
   have HQ:Hy (gk=q+1):=by have:=HG.o.1;show gk=q+1;omega
   have k1:=dT (p:=(0:Int)<=q) zo;have hb:=HG.o.2;have hq:=HQ.o;obtain ⟨j,hj⟩:∃ j:Int,j=(q:Int) - 1:=⟨_,rfl⟩
   have e4:(q:Int) - 1=j:=hj.symm;have e5:IntKind.i64.wrap j=j:=IntWalk.i64_in _ zo;have e6:wrap64 j=j:=IntWalk.wrap64_in _ zo;have HJ:=Hi hj;have HX:=Hi (tH HH.o (i0:=q) (n:=n) (by have:=HPm.o.length_eq;have:=HP.o.2;have:=HN.o;omega) zo (by have:=HPm.o.length_eq;have:=HP.o.2;omega));clear hg hb hq hj;go_wp2_with fail;refine HX.o.mono ?_;rintro e w2 ⟨⟨b,rfl⟩,m2,zs,hz,hzp⟩;have HH2:=Hi hz;have HM2:=Hi (HM.o.then m2);have HP2:=Hi (hzp.trans HPm.o);clear m2 hz hzp HX HH HM;go_wp2;go_roundg q
   case measure=>have:=HQ.o;omega
   case rel=>exact ⟨j,zs,rfl,⟨HJ.o,by have:=HG.o.2;have:=HQ.o;omega⟩,HH2.o,HP2.o,HM2.o⟩
theorem yw {zs:List Int} (h:0<zs.length):zs.Perm (zs.getD (zs.length - 1) 0::zs.take (zs.length - 1)):=by
 have e:zs=zs.take (zs.length - 1)++[zs.getD (zs.length - 1) 0]:=by
  have h1:zs.length - 1<zs.length:=zo;rw [List.getD_eq_getElem?_getD,gE h1];have:=List.take_succ_eq_append_getElem h1;rw [show zs.length - 1+1=zs.length by omega,List.take_length] at this;exact this
 exact (List.Perm.of_eq e).trans (List.perm_append_comm)
set_option maxRecDepth 100000 in
theorem Bt {base rb:Nat} {w:World} {v:Value} {xs:List Int} (h:dv base rb w v xs) (hn:xs.length<=1000000) (h0:0<xs.length) :
  Calls Tryz.prog 179 #[.iface 218 (.pointer (some ⟨rb,0,none⟩))] w λe w'=>∃ x,e=.returned (.iface 3 (.int .i64 x))/\Mod (rb::v.ownBlock.toList) w w'/\∃ v' ys,dv base rb w' v' ys/\v'.ownBlock=v.ownBlock/\xs.Perm (x::ys):=by
 have H:=Hi h;have HN:=Hi (And.intro hn h0);obtain ⟨oa,c,he⟩:=h.form;have HX:=Hi (rz oa xs.length c w);rw [<- he] at HX;have hp:=h.cell0;have hL:=oG (w:=w) (b:=rb) hp;simp only [Nat.reduceAdd] at hL;obtain ⟨k,hk⟩:∃ k,xs.length=k+1:=⟨xs.length - 1,by omega⟩
 rw [hk] at HX;have HK:=Hi hk;have e1:((k+1:Nat):Int) - 1=(k:Int):=zo;have e2:IntKind.i64.wrap (k:Int)=(k:Int):=IntWalk.i64_in _ zo;have e3:wrap64 (k:Int)=(k:Int):=IntWalk.wrap64_in _ zo;clear h hn h0 he hk;go_enter Tryz.func179,Tryz.ntmps179;go_wp2_with fail;refine HX.o.mono ?_;rintro e w1 ⟨rfl,m1⟩;have H1:=Hi (H.o.mod m1);have HM1:Hy (Mod v.ownBlock.toList w w1):=m1.more zk;clear m1 HX H hL hp;have hp:=H1.o.cell0;have hS:=jg (w:=w1) (b:=rb) hp;simp only [Nat.reduceAdd] at hS;have HX:=Hi (jc H1.o (i:=0) (j:=k) zqw zqw);go_wp2_with fail;refine HX.o.mono ?_;rintro e w2 ⟨rfl,m2,ys,hz,hzp⟩;have H2:=Hi hz;have HM2:=Hi (HM1.o.then m2);have HP2:=Hi hzp;clear m2 hz hzp HX H1 HM1 hS hp;have HX:=Hi (tH H2.o (i0:=0) (n:=k) (by have:=HP2.o.length_eq;have:=HN.o.1;omega) zo (by have:=HP2.o.length_eq;have:=HK.o;omega));go_wp2_with fail;refine HX.o.mono ?_;rintro e w3 ⟨⟨b,rfl⟩,m3,zs,hz,hzp⟩;have H3:=Hi hz;have HM3:=Hi (HM2.o.then m3);have HP3:=Hi (hzp.trans HP2.o);clear m3 hz hzp HX H2 HM2 HP2;have hS:=AY w3 rb;simp only [Nat.reduceAdd] at hS;have hl:=HP3.o.length_eq;have HX:=Hi (Av H3.o (by have:=HN.o.1;omega) zqw);have HL:=Hi (HP3.o.symm.trans (yw (zs:=zs) zqw));clear hl;generalize zs.getD (zs.length - 1) 0=x at *
 generalize zs.take (zs.length - 1)=ts at *
 go_wp2_with fail;refine HX.o.mono ?_;rintro e w4 ⟨rfl,m4,v',hz,hob⟩;have H4:=Hi hz;have HM4:Hy (Mod (rb::v.ownBlock.toList) w w4):=(HM3.o.more (λx hx _=>List.mem_cons_of_mem _ hx)).then (m4.more (λx hx _=>by rw [mI.1 hx];exact List.mem_cons_self))
 have HO:=Hi hob;clear m4 hz hob HX H3 HM3 hS;go_wp2;go_ret;exact ⟨x,rfl,HM4.o,v',ts,H4.o,HO.o,HL.o⟩
set_option maxRecDepth 100000 in
theorem yW {base rb:Nat} {w:World} {v:Value} {xs:List Int} (x:Int) (h:dv base rb w v xs) (hn:xs.length<=1000000) :
  Calls Tryz.prog 180 #[.iface 218 (.pointer (some ⟨rb,0,none⟩)),.iface 3 (.int .i64 x)] w λe w'=>e=.returned (.tuple #[])/\∃ v' ys,dv base rb w' v' ys/\(v'.ownBlock=v.ownBlock∨∃ g,v'.ownBlock=some g/\w.heap.size<=g)/\Mod (rb::v.ownBlock.toList) w w'/\ys.Perm (x::xs):=by
 have H:=Hi h;have HN:=Hi hn;have HX:=Hi (Au x h hn);have hS:=yH w rb;simp only [Nat.reduceAdd] at hS;clear h hn;go_enter Tryz.func180,Tryz.ntmps180;go_wp2_with fail;refine HX.o.mono ?_;rintro e w1 ⟨rfl,m1,v',hz,hob⟩;have H1:=Hi hz;have HM1:=Hi m1;have HO:=Hi hob;have hp:=H1.o.cell0;obtain ⟨oa,c,he⟩:=hz.form;have HX:=Hi (rz oa (xs++[x]).length c w1);rw [<- he] at HX;have hL:=oG (w:=w1) (b:=rb) hp;simp only [Nat.reduceAdd] at hL;obtain ⟨k,hk⟩:∃ k,k=xs.length:=⟨_,rfl⟩
 have hkl:(xs++[x]).length=k+1:=by rw [hk];simp
 rw [hkl] at HX;have HK:=Hi (And.intro hk hkl);have hkn:=HN.o;have e1:((k+1:Nat):Int) - 1=(k:Int):=zo;have e2:IntKind.i64.wrap (k:Int)=(k:Int):=IntWalk.i64_in _ zo;have e3:wrap64 (k:Int)=(k:Int):=IntWalk.wrap64_in _ zo;clear m1 hz hob he hk hkl hkn H hS;go_wp2_with fail;refine HX.o.mono ?_;rintro e w2 ⟨rfl,m2⟩;have H2:=Hi (H1.o.mod m2);have HM2:=Hi (HM1.o.then (m2.more zk));clear m2 HX H1 HM1 hp hL;have HX:=Hi (DL H2.o (j:=k) (by have:=HK.o.1;have:=HK.o.2;have:=HN.o;omega) (by have:=HK.o.2;omega));go_wp2_with fail;refine HX.o.mono ?_;rintro e w3 ⟨rfl,m3,ys,hz,hzp⟩;have H3:=Hi hz;have HM3:=Hi m3;have HP3:=Hi hzp;clear m3 hz hzp HX;go_wp2_with fail;refine bodyPost_end (results_none rfl _ _ _) rfl ?_;refine ⟨rfl,v',ys,H3.o,HO.o,HM2.o.trans HM3.o λb hb hlt=>?_,HP3.o.trans List.perm_append_comm⟩;rcases HO.o with ho | ⟨g,ho,hg⟩
 ·rw [ho] at hb;exact List.mem_cons_of_mem _ hb
 ·rw [ho] at hb;obtain rfl:b=g:=by simpa using hb
  omega
open Go.RowKit Go.MapKept
theorem eG:Gm.gP Tryz.prog 3 (Value.int .i64) :=
 Gm.gP.plain (d:=.int .i64) Tryz.underlying3 (λ_=>rfl) (λa b h=>by cases h;rfl) (λw k=>by simp [Instr.keyThatStays,Instr.sameBits])
theorem Gm.ly {β:Type} [DecidableEq β] (m:List (β×Value)) (k q:β) (v:Value):Gm.look (Gm.put m k v) q=if q=k then some v else Gm.look m q:=by
 unfold Gm.look Gm.put
 by_cases h:(m.find? λp=>decide (p.1=k)).isSome=true
 ·rw [if_pos h];obtain ⟨p,hp⟩:=Option.isSome_iff_exists.1 h;clear h
  induction m with
  | nil=>cases hp
  | cons a r ih =>
   rw [List.find?_cons] at hp;rw [List.map_cons,List.find?_cons,List.find?_cons]
   by_cases ha:a.1=k
   ·rw [if_pos ha]
    by_cases hq:q=k
    ·subst hq;simp
    ·rw [if_neg hq,dF (λe=>hq e.symm),dF (λe=>hq (by rw [<- e];exact ha))];simp only;have:∀ l:List (β×Value),((l.map λp=>if p.1=k then (k,v) else p).find? λp=>decide (p.1=q)).map (·.2)=(l.find? λp=>decide (p.1=q)).map (·.2):=by
      intro l
      induction l with
      | nil=>rfl
      | cons b s ih2 =>
       rw [List.map_cons,List.find?_cons,List.find?_cons]
       by_cases hb:b.1=k
       ·rw [if_pos hb,dF (λe=>hq e.symm),dF (λe=>hq (by rw [<- e];exact hb))];exact ih2
       ·rw [if_neg hb];cases decide (b.1=q) with
        | true=>rfl
        | false=>exact ih2
     exact this r
   ·rw [if_neg ha];rw [dF ha] at hp;have:=ih hp;cases hd:decide (a.1=q) with
    | true =>
     have hq:q≠k:=λe=>ha (by rw [<- e];exact of_decide_eq_true hd)
     simp [hq]
    | false=>simpa using this
 ·rw [if_neg h,List.find?_append];have hn:m.find? (λp=>decide (p.1=k))=none:=by
   cases hh:m.find? (λp=>decide (p.1=k)) with
   | none=>rfl
   | some p=>rw [hh] at h;exact absurd rfl h
  by_cases hq:q=k
  ·subst hq;rw [hn];simp
  ·rw [if_neg hq];cases m.find? (λp=>decide (p.1=q)) with
   | none=>simp [show ¬ k=q from λe=>hq e.symm]
   | some p=>simp
abbrev Ix:=Int ⊕ Bool
def rup {α:Type} (f:Ix->α) (i:Ix) (x:α):Ix->α:=λj=>if j=i then x else f j
theorem cO {α:Type} (f:Ix->α) (i:Ix) (x:α):rup f i x i=x:=if_pos rfl
theorem aX {α:Type} (f:Ix->α) {i j:Ix} (x:α) (h:j≠i):rup f i x j=f j:=if_neg h
structure Fam (base:Nat) (w:World) (val:Ix->Value) (row:Ix->List Int) (X:List Nat):Prop where
 own:∀ i,w.ownsRow base 3 1 (val i) (row i).length (ints (row i))
 ne:∀ i j,i≠j->(val i).ownBlock=none∨(val i).ownBlock≠(val j).ownBlock
 o:∀ i,∀ b∈X,(val i).ownBlock≠some b
 old:∀ b∈X,b<w.heap.size
 base:base<=w.heap.size
section
variable {base:Nat} {w w':World} {val:Ix->Value} {row:Ix->List Int} {X X':List Nat}
theorem Fam.start (h:base<=w.heap.size):Fam base w (λ_=>.slice none 0 0) (λ_=>[]) [] :=
 ⟨λ_=>World.ownsRow_nil w base 3 1,λ_ _ _=>.inl rfl,λ_ _ hb=>(by cases hb),λ_ hb=>(by cases hb),h⟩
theorem Fam.set {F:List Nat} (h:Fam base w val row X) (i:Ix) {v':Value} {r':List Int} (m:Mod F w w') (hF:∀ b∈F,b<w.heap.size->b<base∨b∈X∨(val i).ownBlock=some b)
  (ho:w'.ownsRow base 3 1 v' r'.length (ints r')) (hb:v'.ownBlock=(val i).ownBlock∨∃ g,v'.ownBlock=some g/\w.heap.size<=g):Fam base w' (rup val i v') (rup row i r') X:=by
 refine ⟨λj=>?_,λj k hjk=>?_,λj b hbX=>?_,λb hbX=>Nat.lt_of_lt_of_le (h.old b hbX) m.size,nT h.base m.size⟩
 ·by_cases hj:j=i
  ·subst hj;rw [cO,cO];exact ho
  ·rw [aX _ _ hj,aX _ _ hj];have hoj:=h.own j;refine ⟨hoj.1,?_⟩;rcases hoj.2 with hh | ⟨g,cap,cur,hv,hbg,hg,h3⟩
   ·exact .inl hh
   ·refine .inr ⟨g,cap,cur,hv,hbg,?_,h3⟩;have hob:(val j).ownBlock=some g:=by rw [hv];rfl
    have hlt:=(hoj.lt g hob).2;rw [m.block g hlt λhm=>?_]
    ·exact hg
    ·rcases hF g hm hlt with h1 | h1 | h1
     ·omega
     ·exact h.o j g h1 hob
     ·rcases h.ne j i hj with h2 | h2
      ·rw [hob] at h2;cases h2
      ·exact h2 (by rw [hob,h1])
 ·have lt:∀ j g,(val j).ownBlock=some g->g<w.heap.size:=λj g hg=>((h.own j).lt g hg).2
  by_cases hj:j=i
  ·subst hj;rw [cO,aX _ _ (λe=>hjk e.symm)];rcases hb with hb | ⟨g,hb,hg⟩
   ·rw [hb];exact h.ne j k hjk
   ·right;rw [hb];intro e;have:=lt k g e.symm;omega
  ·rw [aX _ _ hj]
   by_cases hk:k=i
   ·subst hk;rw [cO];rcases hb with hb | ⟨g,hb,hg⟩
    ·rw [hb];exact h.ne j k hjk
    ·right;rw [hb];intro e;have:=lt j g e;omega
   ·rw [aX _ _ hk];exact h.ne j k hjk
 ·by_cases hj:j=i
  ·subst hj;rw [cO];rcases hb with hb | ⟨g,hb,hg⟩
   ·rw [hb];exact h.o j b hbX
   ·rw [hb];intro e;injection e with e;have:=h.old b hbX;omega
  ·rw [aX _ _ hj];exact h.o j b hbX
theorem Fam.keep {F:List Nat} (h:Fam base w val row X) (m:Mod F w w') (hF:∀ b∈F,b<w.heap.size->b<base∨b∈X):Fam base w' val row X:=by
 refine ⟨λj=>?_,h.ne,h.o,λb hbX=>Nat.lt_of_lt_of_le (h.old b hbX) m.size,nT h.base m.size⟩;have hoj:=h.own j;refine ⟨hoj.1,?_⟩;rcases hoj.2 with hh | ⟨g,cap,cur,hv,hbg,hg,h3⟩
 ·exact .inl hh
 ·refine .inr ⟨g,cap,cur,hv,hbg,?_,h3⟩;have hob:(val j).ownBlock=some g:=by rw [hv];rfl
  have hlt:=(hoj.lt g hob).2;rw [m.block g hlt λhm=>?_]
  ·exact hg
  ·rcases hF g hm hlt with h1 | h1
   ·omega
   ·exact h.o j g h1 hob
theorem Fam.mod (h:Fam base w val row X) (m:Mod [] w w'):Fam base w' val row X:=h.keep m zk
theorem Fam.more {Y:List Nat} (h:Fam base w val row X) (m:Mod [] w w') (hY:∀ b∈Y,w.heap.size<=b/\b<w'.heap.size):Fam base w' val row (Y++X):=by
 have h3:=h.mod m;refine ⟨h3.own,h3.ne,λi c hc=>?_,λc hc=>?_,h3.base⟩
 ·rcases List.mem_append.1 hc with hc | hc
  ·intro e;have:=((h.own i).lt c e).2;have:=(hY c hc).1;omega
  ·exact h.o i c hc
 ·rcases List.mem_append.1 hc with hc | hc
  ·exact (hY c hc).2
  ·exact h3.old c hc
theorem Fam.less (h:Fam base w val row X) (hX:∀ b∈X',b∈X):Fam base w val row X':=⟨h.own,h.ne,λi b hb=>h.o i b (hX b hb),λb hb=>h.old b (hX b hb),h.base⟩
theorem Fam.to {val':Ix->Value} {row':Ix->List Int} (h:Fam base w val row X) (h1:∀ i,val' i=val i) (h2:∀ i,row' i=row i):Fam base w val' row' X:=by
 obtain rfl:val'=val:=funext h1;obtain rfl:row'=row:=funext h2;exact h
end
def nats (l:List Nat):List Int:=l.map λ(x:Nat)=>(x:Int)
theorem bj (l:List Nat):(nats l).length=l.length:=by unfold nats;simp
def lrow (U:Nat->List Nat) (R T:List Nat):Ix->List Int
 | .inl p=>if 0<=p then nats (U p.toNat) else []
 | .inr true=>nats R
 | .inr false=>nats T
structure LS (W:World) (N:Nat) (fc:Array Value) (M:Nat->Nat) (U:Nat->List Nat) (R T:List Nat) (X:List Nat) (rv:Value) (uv:Int->Value) (val:Ix->Value) (w:World):Prop where
 hN:N=W.heap.size
 mod:Mod [] W w
 font:Blk w N fc 32
 mbx:Blk w (N+2) #[.map (some (N+1))] 211
 ubx:Blk w (N+4) #[.map (some (N+3))] 212
 rbx:Blk w (N+5) #[rv] 213
 miss:∃ m,Gm.cJ (Value.int .i64) w (N+1) m/\∀ g:Nat,(Gm.look m (g:Int)).getD (.int .i64 0)=.int .i64 (M g:Int)
 users:∃ m,Gm.cJ (Value.int .i64) w (N+3) m/\∀ p:Int,(Gm.look m p).getD (.slice none 0 0)=uv p
 fam:Fam (N+6) w val (lrow U R T) X
section
variable {W:World} {N:Nat} {fc:Array Value} {M:Nat->Nat} {U:Nat->List Nat} {R T:List Nat} {X:List Nat} {rv:Value} {uv:Int->Value} {val:Ix->Value} {w w':World}
theorem LS.keep {F:List Nat} (h:LS W N fc M U R T X rv uv val w) (m:Mod F w w') (hF:∀ b∈F,N+6<=b) (hX:∀ b∈F,b<w.heap.size->b∈X):LS W N fc M U R T X rv uv val w':=by
 have nin:∀ k,k<N+6->k ∉ F:=λk hk hm=>by have:=hF k hm;omega
 obtain ⟨m1,hm1,hm2⟩:=h.miss;obtain ⟨m3,hm3,hm4⟩:=h.users;have hN:=h.hN
 exact ⟨h.hN,h.mod.trans m (λb hb hlt=>by have:=hF b hb;omega),h.font.kept m (nin _ zo),h.mbx.kept m (nin _ zo),h.ubx.kept m (nin _ zo),h.rbx.kept m (nin _ zo),
  ⟨m1,hm1.mod m (nin _ zo),hm2⟩,⟨m3,hm3.mod m (nin _ zo),hm4⟩,h.fam.keep m λb hb hlt=>.inr (hX b hb hlt)⟩
theorem LS.step (h:LS W N fc M U R T X rv uv val w) (m:Mod [] w w'):LS W N fc M U R T X rv uv val w':=h.keep m zk zk
theorem LS.stays:aG (LS W N fc M U R T X rv uv val):=λ_ _ h m=>h.step m
theorem LS.more {Y:List Nat} (h:LS W N fc M U R T X rv uv val w) (m:Mod [] w w') (hY:∀ b∈Y,w.heap.size<=b/\b<w'.heap.size):LS W N fc M U R T (Y++X) rv uv val w':=by
 have h3:=h.step m;exact ⟨h3.hN,h3.mod,h3.font,h3.mbx,h3.ubx,h3.rbx,h3.miss,h3.users,h.fam.more m hY⟩
theorem LS.less {X':List Nat} (h:LS W N fc M U R T X rv uv val w) (hX:∀ b∈X',b∈X):LS W N fc M U R T X' rv uv val w :=
 ⟨h.hN,h.mod,h.font,h.mbx,h.ubx,h.rbx,h.miss,h.users,h.fam.less hX⟩
theorem LS.count (h:LS W N fc M U R T X rv uv val w) (g:Nat) (x:Nat) {m:List (Int×Value)} (hm:Gm.cJ (Value.int .i64) w (N+1) m/\∀ g:Nat,(Gm.look m (g:Int)).getD (.int .i64 0)=.int .i64 (M g:Int))
  (hG:Gm.cJ (Value.int .i64) w' (N+1) (Gm.put m (g:Int) (.int .i64 (x:Int)))) (k:Mod [N+1] w w'):LS W N fc (λq=>if q=g then x else M q) U R T X rv uv val w':=by
 obtain ⟨m3,hm3,hm4⟩:=h.users;have hN:=h.hN;refine ⟨h.hN,h.mod.trans k (λb hb hlt=>by simp at hb;omega),h.font.kept k zk,h.mbx.kept k zk,h.ubx.kept k zk,h.rbx.kept k zk,⟨_,hG,λq=>?_⟩,⟨m3,hm3.mod k zk,hm4⟩,h.fam.keep k λb hb _=>.inl (by simp at hb;omega)⟩;rw [Gm.ly]
 by_cases hq:q=g
 ·rw [if_pos hq,if_pos (by rw [hq])];rfl
 ·rw [if_neg hq,if_neg zo];exact hm.2 q
theorem LS.user {F:List Nat} (h:LS W N fc M U R T X rv uv val w) (p g:Nat) {v':Value} (k:Mod F w w') (hF:∀ b∈F,(val (.inl (p:Int))).ownBlock=some b)
  (ho:w'.ownsRow (N+6) 3 1 v' (nats (U p++[g])).length (ints (nats (U p++[g])))) (hb:v'.ownBlock=(val (.inl (p:Int))).ownBlock∨∃ g,v'.ownBlock=some g/\w.heap.size<=g) :
  LS W N fc M (λq=>if q=p then U p++[g] else U q) R T X rv uv (rup val (.inl (p:Int)) v') w':=by
 have hN:=h.hN;have ge:∀ b∈F,N+6<=b:=λb hb=>((h.fam.own (.inl (p:Int))).lt b (hF b hb)).1
 have nin:∀ k,k<N+6->k ∉ F:=λk hk hm=>by have:=ge k hm;omega
 obtain ⟨m1,hm1,hm2⟩:=h.miss;obtain ⟨m3,hm3,hm4⟩:=h.users
 refine ⟨h.hN,h.mod.trans k (λb hb hlt=>by have:=ge b hb;omega),h.font.kept k (nin _ zo),h.mbx.kept k (nin _ zo),h.ubx.kept k (nin _ zo),h.rbx.kept k (nin _ zo),
  ⟨m1,hm1.mod k (nin _ zo),hm2⟩,⟨m3,hm3.mod k (nin _ zo),hm4⟩,(h.fam.set (.inl (p:Int)) k (λb hb _=>.inr (.inr (hF b hb))) ho hb).to (λ_=>rfl) λi=>?_⟩
 rcases i with q | b
 ·by_cases hq:q=(p:Int)
  ·subst hq;rw [cO];simp [lrow]
  ·rw [aX _ _ (λe=>hq (Sum.inl.inj e))];show (if 0<=q then nats ((λq=>if q=p then U p++[g] else U q) q.toNat) else [])=if 0<=q then nats (U q.toNat) else []
   by_cases h0:0<=q
   ·rw [if_pos h0,if_pos h0];simp only;rw [if_neg zo]
   ·rw [if_neg h0,if_neg h0]
 ·rw [aX _ _ zk];cases b <;> rfl
theorem LS.held (h:LS W N fc M U R T X rv uv val w) (p:Nat) {v':Value} {m:List (Int×Value)} (hm:Gm.cJ (Value.int .i64) w (N+3) m/\∀ p:Int,(Gm.look m p).getD (.slice none 0 0)=uv p)
  (hG:Gm.cJ (Value.int .i64) w' (N+3) (Gm.put m (p:Int) v')) (k:Mod [N+3] w w'):LS W N fc M U R T X rv (λq=>if q=(p:Int) then v' else uv q) val w':=by
 obtain ⟨m1,hm1,hm2⟩:=h.miss;have hN:=h.hN;refine ⟨h.hN,h.mod.trans k (λb hb hlt=>by simp at hb;omega),h.font.kept k zk,h.mbx.kept k zk,h.ubx.kept k zk,h.rbx.kept k zk,⟨m1,hm1.mod k zk,hm2⟩,⟨_,hG,λq=>?_⟩,h.fam.keep k λb hb _=>.inl (by simp at hb;omega)⟩;rw [Gm.ly]
 by_cases hq:q=(p:Int)
 ·rw [if_pos hq,if_pos hq];rfl
 ·rw [if_neg hq,if_neg hq];exact hm.2 q
theorem LS.other {F:List Nat} (h:LS W N fc M U R T X rv uv val w) {rv':Value} (b:Bool) (L:List Nat) {v':Value} (k:Mod F w w') (hF:∀ x∈F,x=N+5∨(val (.inr b)).ownBlock=some x) (hr:Blk w' (N+5) #[rv'] 213)
  (ho:w'.ownsRow (N+6) 3 1 v' (nats L).length (ints (nats L))) (hb:v'.ownBlock=(val (.inr b)).ownBlock∨∃ g,v'.ownBlock=some g/\w.heap.size<=g) :
  LS W N fc M U (if b=true then L else R) (if b=true then T else L) X rv' uv (rup val (.inr b) v') w':=by
 have hN:=h.hN;have ge:∀ x∈F,x=N+5∨N+6<=x:=λx hx=>(hF x hx).imp id λe=>((h.fam.own (.inr b)).lt x e).1
 have nin:∀ k,k<N+5->k ∉ F:=λk hk hm=>by have:=ge k hm;omega
 obtain ⟨m1,hm1,hm2⟩:=h.miss;obtain ⟨m3,hm3,hm4⟩:=h.users
 refine ⟨h.hN,h.mod.trans k (λx hx hlt=>by have:=ge x hx;omega),h.font.kept k (nin _ zo),h.mbx.kept k (nin _ zo),h.ubx.kept k (nin _ zo),hr,
  ⟨m1,hm1.mod k (nin _ zo),hm2⟩,⟨m3,hm3.mod k (nin _ zo),hm4⟩,(h.fam.set (.inr b) k (λx hx _=>(hF x hx).elim (λe=>.inl zo) λe=>.inr (.inr e)) ho hb).to (λ_=>rfl) λi=>?_⟩
 rcases i with q | c
 ·rw [aX _ _ zk];rfl
 ·by_cases hc:c=b
  ·subst hc;rw [cO];cases c <;> rfl
  ·rw [aX _ _ (λe=>hc (Sum.inr.inj e))];cases b <;> cases c <;> first | rfl | exact absurd rfl hc
theorem LS.heap (h:LS W N fc M U R T X (val (.inr true)) uv val w):dv (N+6) (N+5) w (val (.inr true)) (nats R) :=
 ⟨h.rbx,h.fam.own (.inr true),λe=>by have:=((h.fam.own (.inr true)).lt _ e).1;omega,h.fam.base⟩
end
def marks (Ds:List Nat):List Deferred:=Ds.map λD=>{ target:=.collected D,args:=#[] }
def tJ (Ds:List Nat) (w:World):World:=Ds.foldl (λw D=>w.putObj D (.deferred none)) w
structure Mks (Ds:List Nat) (w:World):Prop where
 nodup:Ds.Nodup
 dsf:∀ D∈Ds,w.heap[D]?=some (.deferred (some []))
theorem Mks.nil (w:World):Mks [] w:=⟨List.nodup_nil,λ_ h=>by cases h⟩
theorem Mks.lt {Ds:List Nat} {w:World} (h:Mks Ds w):∀ D∈Ds,D<w.heap.size:=λD hD=>(Array.getElem?_eq_some_iff.1 (h.dsf D hD)).1
theorem Mks.kept {Ds F:List Nat} {w w':World} (h:Mks Ds w) (m:Mod F w w') (hF:∀ D∈Ds,D ∉ F):Mks Ds w':=⟨h.nodup,λD hD=>(m.block D (h.lt D hD) (hF D hD)).trans (h.dsf D hD)⟩
theorem Mks.stays {Ds:List Nat}:aG (Mks Ds):=λ_ _ h m=>h.kept m zk
theorem Mks.cons {Ds:List Nat} {w:World} {D:Nat} (h:Mks Ds w) (hD:w.heap[D]?=some (.deferred (some []))) (hn:D ∉ Ds):Mks (D::Ds) w :=
 ⟨List.nodup_cons.2 ⟨hn,h.nodup⟩,λx hx=>by rcases List.mem_cons.1 hx with rfl | hx;exact hD;exact h.dsf x hx⟩
theorem jJ {F:List Nat} {w0:World}:∀ (Ds:List Nat) (w:World),Mod F w0 w->(∀ D∈Ds,D<w0.heap.size->D∈F)->Mod F w0 (tJ Ds w)
 | [],w,m,_=>m
 | D::Ds,w,m,h=>jJ Ds _ (Rf.Mod.putObj m (h D zk) _) λx hx=>h x (List.mem_cons_of_mem _ hx)
theorem Mks.leaves {P:Program} {fn:Func} {tmps:Array Value} {R:Ending->World->Prop}:∀ {Ds:List Nat} {w:World},Mks Ds w->LeavesIn Fence.wide 1 P fn tmps R [] .returning (tJ Ds w)->LeavesInM Fence.wide 1 P fn tmps R (marks Ds) .returning w
 | [],w,_,hl=>hl
 | D::Ds,w,h,hl=>by
  refine ⟨by simp,.inl ⟨D,w.putObj D (.deferred none),rfl,run_takeDeferred (h.dsf D zk),Mks.leaves ⟨(List.nodup_cons.1 h.nodup).2,λx hx=>?_⟩ hl⟩⟩;have hne:x≠D:=λe=>(List.nodup_cons.1 h.nodup).1 (e ▸ hx)
  exact (World.putObj_heap_other hne).trans (h.dsf x (List.mem_cons_of_mem _ hx))
attribute [local go_sem] Oper.semAt_some
def eU (n:Nat) (g:Int):Bool:=decide (0<=g) && decide (g<n)
theorem qg (u:Int) (fg fc fl ff fx fr fn fv:Hd) (g:Int) (w:World):Calls Tryz.prog 185 #[.agg (af u fg fc fl ff fx fr fn fv),.int .i64 g] w λe w'=>e=.returned (.bool (eU fg.n g))/\Mod [] w w':=by
 have T:=Hi (own1 w (af u fg fc fl ff fx fr fn fv) 32);unfold af at T ⊢;have a1:=(T.o.at 0 rfl).cell 1;simp only [gA,gZ,gS] at a1
 by_cases h:0<=g
 ·have k1:=dT (p:=(0:Int)<=g) h;have e:eU fg.n g=decide (g<(fg.n:Int)):=by unfold eU;rw [k1,Bool.true_and]
  rw [e];clear h e;go_enter Tryz.func185,Tryz.ntmps185;go_wp2;go_ret;exact ⟨rfl,T.o.mod⟩
 ·have k1:=dF (p:=(0:Int)<=g) h;have e:eU fg.n g=false:=by unfold eU;rw [k1,Bool.false_and]
  rw [e];clear h e;go_enter Tryz.func185,Tryz.ntmps185;go_wp2;go_ret;exact ⟨rfl,T.o.mod⟩
theorem qv (u:Int) (fg fc fl ff fx fr fn fv:Hd) (g:Int) (w:World):Calls Tryz.prog 177 #[.agg (af u fg fc fl ff fx fr fn fv),.int .i64 g] w λe w' =>
  (∃ b2 b3,e=.returned (.func (.func 184) #[] #[.pointer (some ⟨b2,0,none⟩),.pointer (some ⟨b3,0,none⟩)])/\Blk w' b2 (af u fg fc fl ff fx fr fn fv) 32/\Blk w' b3 #[.int .i64 g] 3/\w.heap.size<=b2/\w.heap.size<=b3)/\Mod [] w w':=by
 have T:=Hi (own2 w (af u fg fc fl ff fx fr fn fv) 32 #[.int .i64 g] 3);unfold af at T ⊢;go_enter Tryz.func177,Tryz.ntmps177;go_wp2;go_ret;exact ⟨⟨_,_,rfl,T.o.at 0 rfl,T.o.at 1 rfl,T.o.ge 0 rfl,T.o.ge 1 rfl⟩,T.o.mod⟩
set_option maxRecDepth 100000 in
theorem o9 {J:Nat->World->Prop} {u:Int} {fg fc fl ff fx fr fn fv:Hd} {gl:List av} {x:av} {g b2 b3 l B:Nat} (w0 w:World) (hg:gl[g]?=some x) (hr:Rows 9 aI B w0 (.slice fg.a fg.n fg.c) gl)
  (h3:Blk w b3 #[.int .i64 (g:Int)] 3) (hS:∀ k,aG (J k)) (hB:∀ k W,J k W->Blk W b2 (af u fg fc fl ff fx fr fn fv) 32)
  (hM:∀ k W,J k W->Mod [] w0 W)
  (hN:∀ k W p,x.parts[k]?=some p->eU fg.n p.glyph=false->J k W->J (k+1) W)
  (hY:∀ k W p,x.parts[k]?=some p->eU fg.n p.glyph=true->J k W->YieldAt Fence.wide 0 Tryz.prog l #[.agg #[.int .i64 p.glyph,.int .i64 p.x,.int .i64 p.y]] W λe W'=>e=.returned (.bool true)/\J (k+1) W')
  (h0:J 0 w) :
  Calls Tryz.prog 184 #[.func (.yield l) #[] #[],.pointer (some ⟨b2,0,none⟩),.pointer (some ⟨b3,0,none⟩)] w λe w'=>e=.returned (.tuple #[])/\J x.parts.length w':=by
 have hgl:g<gl.length:=(gI.1 hg).1;have hgx:gl[g]=x:=(gI.1 hg).2;have hng:fg.n=gl.length:=by obtain ⟨_,_,he,-⟩:=hr.form;injection he with _ h _
 obtain ⟨a,haa,-,cs,-,hc0,hcj,hx⟩:=(hr.mod aI.stay (hM 0 w h0)).at g hgl;rw [hgx] at hx;obtain ⟨v3,v4,v5,v6,v7,v8,rfl,-,-,y3,y4,y5,y6,y7,y8⟩:=hx;obtain ⟨o5,d5,rfl,hml⟩:=y5.form;have c5:=hcj 5 zd zd;simp only [gZ,gS] at c5;have y5':Rows 3 eE B w0 (.slice o5 x.parts.length d5) x.parts:=by
  obtain ⟨a2,ha2,-,cs2,-,hc2,hcj2,hx2⟩:=hr.at g hgl;rw [hgx] at hx2;obtain ⟨w3,w4,w5,w6,w7,w8,rfl,-,-,z3,z4,z5,z6,z7,z8⟩:=hx2;have c5':=hcj2 5 zd zd;have c6:=hcj 5 zd zd;simp only [gZ,gS] at c5' c6;obtain rfl:a2=a:=by rw [haa] at ha2;injection ha2 with e;exact e.symm
  have c7:=aj (hM 0 w h0) c5';rw [c6] at c7;injection c7 with c7
  rw [c7];exact z5
 have HP:=Hi (λk W (h:J k W)=>y5'.mod eE.stay (hM k W h));clear y5';have HB:=Hi hB;have HS:=Hi hS;have HN:=Hi hN;have HY:=Hi hY;have HL:=Hi (show x.parts.length<=9223372036854775807 from hml);have H0:=Hi h0;have z2:=hB 0 w h0;have z3:=h3.cell 0;unfold af at z2;have a1:=z2.cell 1;simp only [gA,gZ,gS] at a1 z3;have k1:(0:Int)<=g:=zo;have k2:(g:Int)<fg.n:=zo;clear hg hgx hng hr h3 hS hB hM hN hY h0 y3 y4 y5 y6 y7 y8 hc0 hcj hml z2 hgl;rw [haa] at a1;clear haa;obtain ⟨n,hn⟩:∃ n,n=x.parts.length:=⟨_,rfl⟩
 rw [<- hn] at HL c5 HP ⊢;have HNL:=Hi hn;clear hn;go_enter Tryz.func184,Tryz.ntmps184;go_wp2_with fail
 go_loopg [13] n (λgk v13 wr=>∃ k:Nat,v13=.int .i64 (k:Int)/\Hy (k+gk=n)/\Hy (J k wr))
 case atStart=>exact ⟨0,rfl,by show 0+n=n;omega,H0.o⟩
 case round =>
  obtain ⟨k,rfl,hi,HJ⟩:=hrel;clear H0
  by_cases hin:k<n
  case neg =>
   obtain rfl:k=n:=by have:=hi.o;omega
   have q1:=dF (p:=(k:Int)<k) zo;go_wp2_with fail
   go_end0
   exact ⟨rfl,HJ.o⟩
  have q1:=dT (p:=(k:Int)<n) zo;have q2:(0:Int)<=k:=zo;have q3:(k:Int)<n:=zo;have q4:=dT (p:=k<n) hin;have hin':k<x.parts.length:=by rw [<- HNL.o];exact hin
  obtain ⟨a',rfl,-,cs,-,hd0,hdj,hx⟩:=(HP.o k wr HJ.o).at k hin';have hk:x.parts[k]?=some x.parts[k]:=gE hin';generalize x.parts[k]=pt at *
  obtain ⟨rfl,-,-,-⟩:=hx;have d0:=hd0 zd;have d1:=hdj 1 zd zd;have d2:=hdj 2 zd zd;simp only [gZ,gS] at d0 d1 d2;have ei:IntKind.i64.wrap ((k:Int)+1)=(k:Int)+1:=IntWalk.i64_in _ zqc;have HK:=Hi (And.intro hk hin);clear hk hin hin' hd0 hdj;go_upto_region 3 with fail;have BX:=Hi (Blk.new wr #[.int .i64 pt.glyph,.int .i64 pt.x,.int .i64 pt.y] 69);have HJ1:=Hi (HS.o k _ _ HJ.o ((Mod.refl [] wr).alloc (.cells #[.int .i64 pt.glyph,.int .i64 pt.x,.int .i64 pt.y] 69)));generalize wr.alloc (.cells #[.int .i64 pt.glyph,.int .i64 pt.x,.int .i64 pt.y] 69)=w1 at *
  generalize wr.heap.size=pb at *
  have z2:=HB.o k _ HJ1.o;unfold af at z2;have f0:=z2.cell 0;have f1:=z2.cell 1;have f2:=z2.cell 2;have f3:=z2.cell 3;have f4:=z2.cell 4;have f5:=z2.cell 5;have f6:=z2.cell 6;have f7:=z2.cell 7;have f8:=z2.cell 8;have p0:=BX.o.cell 0;have p1:=BX.o.cell 1;have p2:=BX.o.cell 2;simp only [gA,gZ,gS] at f0 f1 f2 f3 f4 f5 f6 f7 f8 p0 p1 p2;have HX:=Hi (qg u fg fc fl ff fx fr fn fv pt.glyph w1);obtain ⟨b,hb⟩:∃ b,eU fg.n pt.glyph=b:=⟨_,rfl⟩
  rw [hb] at HX;unfold af at HX;have HI:=Hi hb;clear HJ z2 hb d0 d1 d2;cases b with
  | false =>
   go_wp2_with fail;refine HX.o.mono ?_;rintro e w2 ⟨rfl,m2⟩;have HJ2:=Hi (HN.o k _ pt HK.o.1 HI.o (HS.o k _ _ HJ1.o m2));clear m2 HX HJ1 f0 f1 f2 f3 f4 f5 f6 f7 f8 p0 p1 p2 BX;go_wp2;go_roundg (gk - 1)
   case measure=>have:=hi.o;have:=HK.o.2;omega
   case rel=>exact ⟨k+1,by rw [Int.natCast_add];rfl,by have:=hi.o;have:=HK.o.2;show k+1+(gk - 1)=n;omega,HJ2.o⟩
  | true =>
   refine (wpIn_wide (n:=1)).1 ?_
   gi_wp2
   refine ⟨trivial,callsIn_wide.2 (HX.o.mono ?_)⟩;rintro e w2 ⟨rfl,m2⟩;have HJ2:=Hi (HS.o k _ _ HJ1.o m2);have BX2:=Hi (BX.o.kept m2 zk);clear m2 HX HJ1 f0 f1 f2 f3 f4 f5 f6 f7 f8 p0 p1 p2 BX;have p0:=BX2.o.cell 0;have p1:=BX2.o.cell 1;have p2:=BX2.o.cell 2;simp only [gA,gZ,gS] at p0 p1 p2;obtain ⟨fn',tmps',as',bo',hy,hR⟩:=HY.o k w2 pt HK.o.1 HI.o HJ2.o
   gi_wp2
   refine hR.mono ?_;rintro e w3 ⟨rfl,hr⟩;have HJ3:=Hi hr;clear hr hy hR p0 p1 p2 BX2 HJ2
   gi_wp2
   go_wp2;go_roundg (gk - 1)
   case measure=>have:=hi.o;have:=HK.o.2;omega
   case rel=>exact ⟨k+1,by rw [Int.natCast_add];rfl,by have:=hi.o;have:=HK.o.2;show k+1+(gk - 1)=n;omega,HJ3.o⟩
namespace Ln
def here (n:Nat) (l:List cK):List Nat:=(l.filter λp=>eU n p.glyph).map λp=>p.glyph.toNat
def partsOf (gl:List av) (g:Nat):List Nat:=match gl[g]? with | some x=>here gl.length x.parts | none=>[]
theorem jy {gl:List av} {g:Nat} {x:av} (h:gl[g]?=some x):partsOf gl g=here gl.length x.parts:=by unfold partsOf;rw [h]
theorem qD {n k:Nat} {l:List cK} {p:cK} (h:l[k]?=some p):here n (l.take (k+1))=here n (l.take k)++if eU n p.glyph=true then [p.glyph.toNat] else []:=by
 have hk:k<l.length:=(gI.1 h).1;have e:l[k]=p:=(gI.1 h).2;unfold here;rw [List.take_succ_eq_append_getElem hk,List.filter_append,List.map_append,e]
 congr 1
 by_cases hp:eU n p.glyph=true
 ·rw [if_pos hp];simp [hp]
 ·rw [if_neg hp];simp [hp]
theorem mV (n:Nat) (l:List cK):(here n l).length<=l.length:=by unfold here;rw [List.length_map];exact List.length_filter_le _ _
def upto (gl:List av) (i:Nat) (l:List cK):List (Nat×Nat):=edges (partsOf gl) i++(here gl.length l).map λp=>(i,p)
theorem xB (gl:List av) (i:Nat):upto gl i []=edges (partsOf gl) i:=by unfold upto here;simp
theorem zT {gl:List av} {i:Nat} {x:av} (h:gl[i]?=some x):upto gl i x.parts=edges (partsOf gl) (i+1):=by unfold upto;rw [jE,jy h]
theorem Cq {gl:List av} {i k:Nat} {l:List cK} {p:cK} (h:l[k]?=some p) (hp:eU gl.length p.glyph=true):upto gl i (l.take (k+1))=upto gl i (l.take k)++[(i,p.glyph.toNat)]:=by
 unfold upto;rw [qD h,if_pos hp,List.map_append,List.append_assoc];rfl
theorem zS {gl:List av} {i k:Nat} {l:List cK} {p:cK} (h:l[k]?=some p) (hp:eU gl.length p.glyph=false):upto gl i (l.take (k+1))=upto gl i (l.take k):=by
 unfold upto;rw [qD h,if_neg (by rw [hp];simp),List.append_nil]
theorem lM {P:Nat->List Nat} {c:Nat} (hP:∀ g,(P g).length<=c) (n:Nat):(edges P n).length<=n*c:=by
 induction n with
 | zero=>simp [edges]
 | succ n ih=>rw [jE,List.length_append,List.length_map,Nat.add_mul,Nat.one_mul];have:=hP n;omega
theorem vV (E:List (Nat×Nat)) (g:Nat):missing E g<=E.length:=List.countP_le_length
theorem nY (E:List (Nat×Nat)) (p:Nat):(users E p).length<=E.length:=by unfold users;rw [List.length_map];exact List.length_filter_le _ _
theorem kN {gl:List av} {c:Nat} (h:∀ x∈gl,x.parts.length<=c) (g:Nat):(partsOf gl g).length<=c:=by
 unfold partsOf;cases hx:gl[g]? with
 | none=>exact Nat.zero_le _
 | some x=>exact nT (mV _ _) (h x (List.mem_of_getElem? hx))
theorem tT {gl:List av} {c i:Nat} {l:List cK} (h:∀ x∈gl,x.parts.length<=c) (hl:l.length<=c):(upto gl i l).length<=(i+1)*c:=by
 unfold upto;rw [List.length_append,List.length_map,Nat.add_mul,Nat.one_mul];have h1:=lM (kN h) i;have h2:=mV gl.length l;omega
theorem qH (P:Nat->List Nat) (i:Nat):(List.range (i+1)).filter (λg=>decide ((P g).length=0))=(List.range i).filter (λg=>decide ((P g).length=0))++if (P i).length=0 then [i] else []:=by
 rw [List.range_succ,List.filter_append]
 congr 1
 by_cases h:(P i).length=0
 ·rw [if_pos h];simp [List.length_eq_zero_iff.1 h]
 ·rw [if_neg h];simp [show ¬ P i=[] from λe=>h (List.length_eq_zero_iff.2 e)]
end Ln
def nK:Value:=.slice none 0 0
theorem LS.start (w:World) (fc:Array Value):LS w w.heap.size fc (Ln.missing (Ln.edges (λ_=>[]) 0)) (Ln.users (Ln.edges (λ_=>[]) 0)) [] [] [] nK (λ_=>nK) (λ_=>nK)
  ((((((w.alloc (.cells fc 32)).alloc (.map #[] 0)).alloc (.cells #[.map (some (w.heap.size+1))] 211)).alloc (.map #[] 0)).alloc (.cells #[.map (some (w.heap.size+3))] 212)).alloc (.cells #[.slice none 0 0] 213)):=by
 have b0:=Blk.new w fc 32;have m0:Mod [] w (w.alloc (.cells fc 32)):=(Mod.refl [] w).alloc _;have s0:(w.alloc (.cells fc 32)).heap.size=w.heap.size+1:=by simp
 generalize w.alloc (.cells fc 32)=w0 at *
 have b1:=Gm.cJ.new (Value.int .i64) w0;have m1:Mod [] w0 (w0.alloc (.map #[] 0)):=(Mod.refl [] w0).alloc _;have s1:(w0.alloc (.map #[] 0)).heap.size=w.heap.size+2:=by simp;omega
 generalize w0.alloc (.map #[] 0)=w1 at *
 have b2:=Blk.new w1 #[.map (some (w.heap.size+1))] 211;have m2:Mod [] w1 (w1.alloc (.cells #[.map (some (w.heap.size+1))] 211)):=(Mod.refl [] w1).alloc _;have s2:(w1.alloc (.cells #[.map (some (w.heap.size+1))] 211)).heap.size=w.heap.size+3:=by simp;omega
 generalize w1.alloc (.cells #[.map (some (w.heap.size+1))] 211)=w2 at *
 have b3:=Gm.cJ.new (Value.int .i64) w2;have m3:Mod [] w2 (w2.alloc (.map #[] 0)):=(Mod.refl [] w2).alloc _;have s3:(w2.alloc (.map #[] 0)).heap.size=w.heap.size+4:=by simp;omega
 generalize w2.alloc (.map #[] 0)=w3 at *
 have b4:=Blk.new w3 #[.map (some (w.heap.size+3))] 212;have m4:Mod [] w3 (w3.alloc (.cells #[.map (some (w.heap.size+3))] 212)):=(Mod.refl [] w3).alloc _;have s4:(w3.alloc (.cells #[.map (some (w.heap.size+3))] 212)).heap.size=w.heap.size+5:=by simp;omega
 generalize w3.alloc (.cells #[.map (some (w.heap.size+3))] 212)=w4 at *
 have b5:=Blk.new w4 #[.slice none 0 0] 213;have m5:Mod [] w4 (w4.alloc (.cells #[.slice none 0 0] 213)):=(Mod.refl [] w4).alloc _;have s5:(w4.alloc (.cells #[.slice none 0 0] 213)).heap.size=w.heap.size+6:=by simp;omega
 generalize w4.alloc (.cells #[.slice none 0 0] 213)=w5 at *
 have z:∀ {a b c:World},Mod [] a b->Mod [] b c->Mod [] a c:=λh k=>h.then k
 rw [s0] at b1;rw [s1] at b2;rw [s2] at b3;rw [s3] at b4;rw [s4] at b5
 refine ⟨rfl,z m0 (z m1 (z m2 (z m3 (z m4 m5)))),b0.kept (z m1 (z m2 (z m3 (z m4 m5)))) zk,b2.kept (z m3 (z m4 m5)) zk,b4.kept m5 zk,b5,
  ⟨[],b1.mod (z m2 (z m3 (z m4 m5))) zk,λg=>by simp [Gm.look,Ln.missing,Ln.edges]⟩,⟨[],b3.mod (z m4 m5) zk,λp=>by simp [Gm.look,nK]⟩,(Fam.start zo).to (λ_=>rfl) λi=>?_⟩
 rcases i with p | b
 ·simp [lrow,Ln.users,Ln.edges,nats]
 ·cases b <;> rfl
theorem j4 (l:List Nat) (x:Nat):nats (l++[x])=nats l++[(x:Int)]:=by unfold nats;simp
section
variable {W:World} {N:Nat} {fc:Array Value} {M:Nat->Nat} {U:Nat->List Nat} {R T:List Nat} {X:List Nat} {rv:Value} {uv:Int->Value} {val:Ix->Value} {w w':World}
theorem LS.urow (h:LS W N fc M U R T X rv uv val w) (q:Nat):w.ownsRow (N+6) 3 1 (val (.inl (q:Int))) (nats (U q)).length (ints (nats (U q))):=by
 have h1:=h.fam.own (.inl (q:Int));have e:lrow U R T (.inl (q:Int))=nats (U q):=by
  show (if 0<=(q:Int) then nats (U (q:Int).toNat) else [])=_;rw [if_pos zo,Int.toNat_natCast]
 rw [e] at h1;exact h1
theorem LS.Co (h:LS W N fc M U R T X rv uv val w) (q i:Nat) {v':Value} (hG:w'.ownsRow (N+6) 3 1 v' ((nats (U q)).length+1) (ints (nats (U q)++[(i:Int)]))) (g:w.grownBy w' (val (.inl (q:Int))).ownBlock)
  (hb:v'.ownBlock=(val (.inl (q:Int))).ownBlock∨v'.ownBlock=some w.heap.size):LS W N fc M (λy=>if y=q then U q++[i] else U y) R T X rv uv (rup val (.inl (q:Int)) v') w':=by
 refine h.user q i (Mod.dQ g) (λb hb=>by simpa using hb) ?_ (hb.imp id λe=>⟨_,e,nR _⟩);rw [j4,List.length_append];exact hG
theorem LS.Dx {vp:Value} {q:Nat} (h:LS W N fc M U R T X rv uv val w) (hv:vp=val (.inl (q:Int))):w.ownsRow (N+6) 3 1 vp (nats (U q)).length (ints (nats (U q))):=by
 rw [hv];exact h.urow q
theorem LS.zR {vp:Value} {q:Nat} (h:LS W N fc M U R T X rv uv val w) (hv:vp=val (.inl (q:Int))) (i:Nat) {v':Value} (hG:w'.ownsRow (N+6) 3 1 v' ((nats (U q)).length+1) (ints (nats (U q)++[(i:Int)]))) (g:w.grownBy w' vp.ownBlock)
  (hb:v'.ownBlock=vp.ownBlock∨v'.ownBlock=some w.heap.size):LS W N fc M (λy=>if y=q then U q++[i] else U y) R T X rv uv (rup val (.inl (q:Int)) v') w':=by
 rw [hv] at g hb;exact h.Co q i hG g hb
theorem LS.notin (h:LS W N fc M U R T X rv uv val w) (i:Ix) {b:Nat} (hb:b<N+6∨b∈X):b ∉ (val i).ownBlock.toList:=by
 intro hm;have e:(val i).ownBlock=some b:=by simpa using hm
 rcases hb with hb | hb
 ·have:=((h.fam.own i).lt b e).1;omega
 ·exact h.fam.o i b hb e
end
abbrev LSM (W:World) (N:Nat) (fc:Array Value) (M:Nat->Nat) (U:Nat->List Nat) (R T X:List Nat) (val:Ix->Value) (w:World):Prop :=
 LS W N fc M U R T X (val (.inr true)) (λp=>val (.inl p)) val w
abbrev LSE (W:World) (N:Nat) (fc:Array Value) (E:List (Nat×Nat)) (R T X:List Nat) (val:Ix->Value) (w:World):Prop :=
 LSM W N fc (Ln.missing E) (Ln.users E) R T X val w
theorem LSE.edge {W:World} {N:Nat} {fc:Array Value} {E:List (Nat×Nat)} {R T X:List Nat} {val:Ix->Value} {w:World} {i q mc:Nat} {kv:Value} (hmc:mc=Ln.missing E i)
  (h:LS W N fc (λy=>if y=i then mc+1 else Ln.missing E y) (λy=>if y=q then Ln.users E q++[i] else Ln.users E y) R T X (val (.inr true)) (λy=>if y=(q:Int) then kv else val (.inl y)) (rup val (.inl (q:Int)) kv) w) :
  LSE W N fc (E++[(i,q)]) R T X (rup val (.inl (q:Int)) kv) w:=by
 have e1:(λy=>if y=i then mc+1 else Ln.missing E y)=Ln.missing (E++[(i,q)]):=funext λy=>by
  rw [Ln.rP]
  by_cases hy:y=i
  ·rw [if_pos hy,if_pos hy.symm,hy,hmc]
  ·rw [if_neg hy,if_neg (λe=>hy e.symm)];rfl
 have e2:(λy=>if y=q then Ln.users E q++[i] else Ln.users E y)=Ln.users (E++[(i,q)]):=funext λy=>by
  rw [Ln.uZ]
  by_cases hy:y=q
  ·rw [if_pos hy,if_pos hy.symm,hy]
  ·rw [if_neg hy,if_neg (λe=>hy e.symm),List.append_nil]
 have e3:(λy=>if y=(q:Int) then kv else val (.inl y))=λp=>rup val (.inl (q:Int)) kv (.inl p):=funext λy=>by
  by_cases hy:y=(q:Int)
  ·rw [if_pos hy,hy,cO]
  ·rw [if_neg hy,aX _ _ (λe=>hy (Sum.inl.inj e))]
 have e4:val (.inr true)=rup val (.inl (q:Int)) kv (.inr true):=(aX _ _ zk).symm;rw [e1,e2,e3,e4] at h;exact h
section
variable {W:World} {N:Nat} {fc:Array Value} {M:Nat->Nat} {U:Nat->List Nat} {R T X:List Nat} {val:Ix->Value} {w w':World}
theorem LSM.rrow (h:LSM W N fc M U R T X val w):w.ownsRow (N+6) 3 1 (val (.inr true)) (nats R).length (ints (nats R)):=h.fam.own (.inr true)
theorem LSM.trow (h:LSM W N fc M U R T X val w):w.ownsRow (N+6) 3 1 (val (.inr false)) (nats T).length (ints (nats T)):=h.fam.own (.inr false)
theorem LSM.other {F:List Nat} (h:LSM W N fc M U R T X val w) (L:List Nat) {v':Value} (k:Mod F w w') (hF:∀ x∈F,x=N+5∨(val (.inr true)).ownBlock=some x) (hr:Blk w' (N+5) #[v'] 213)
  (ho:w'.ownsRow (N+6) 3 1 v' (nats L).length (ints (nats L))) (hb:v'.ownBlock=(val (.inr true)).ownBlock∨∃ g,v'.ownBlock=some g/\w.heap.size<=g):LSM W N fc M U L T X (rup val (.inr true) v') w':=by
 have h1:=LS.other h true L k hF hr ho hb;have e1:v'=rup val (.inr true) v' (.inr true):=(cO _ _ _).symm;have e2:(λp=>val (.inl p))=λp=>rup val (.inr true) v' (.inl p):=funext λp=>(aX _ _ zk).symm
 unfold LSM;rw [<- e1,<- e2];exact h1
theorem LSM.told {F:List Nat} (h:LSM W N fc M U R T X val w) (L:List Nat) {v':Value} (k:Mod F w w') (hF:∀ x∈F,(val (.inr false)).ownBlock=some x)
  (ho:w'.ownsRow (N+6) 3 1 v' (nats L).length (ints (nats L))) (hb:v'.ownBlock=(val (.inr false)).ownBlock∨∃ g,v'.ownBlock=some g/\w.heap.size<=g):LSM W N fc M U R L X (rup val (.inr false) v') w':=by
 have h1:=LS.other h false L k (λx hx=>.inr (hF x hx)) (h.rbx.kept k λhm=>by have:=((h.fam.own (.inr false)).lt _ (hF _ hm)).1;omega) ho hb;have e1:val (.inr true)=rup val (.inr false) v' (.inr true):=(aX _ _ zk).symm;have e2:(λp=>val (.inl p))=λp=>rup val (.inr false) v' (.inl p):=funext λp=>(aX _ _ zk).symm
 unfold LSM;rw [<- e1,<- e2];exact h1
theorem AD {base:Nat} {v:Value} {n:Nat} {xs:List Value} {b:Nat} {u:Value} (h:w.ownsRow base 3 1 v n xs) (hb:v.ownBlock≠some b):(w.setCell ⟨b,0,none⟩ u).ownsRow base 3 1 v n xs :=
 h.kept (row:=some b) ⟨rfl,rfl,rfl,by simp,λk hk hn=>Below.heap_setCell w _ _ k (λhe=>hn (by rw [he]))⟩ (.inr hb)
theorem LSM.heap (h:LSM W N fc M U R T X val w):dv (N+6) (N+5) w (val (.inr true)) (nats R):=LS.heap h
theorem LSM.heaped (h:LSM W N fc M U R T X val w) {R':List Nat} {v':Value} (m:Mod ((N+5)::(val (.inr true)).ownBlock.toList) w w') (hp:dv (N+6) (N+5) w' v' (nats R'))
  (hb:v'.ownBlock=(val (.inr true)).ownBlock∨∃ g,v'.ownBlock=some g/\w.heap.size<=g):LSM W N fc M U R' T X (rup val (.inr true) v') w' :=
 LSM.other h R' m (λx hx=>by
  rcases List.mem_cons.1 hx with rfl | hx
  ·exact .inl rfl
  ·exact .inr (by simpa using hx)) hp.box hp.row hb
theorem LSM.tell (h:LSM W N fc M U R T X val w) (i:Nat) {v':Value} (hG:w'.ownsRow (N+6) 3 1 v' ((nats T).length+1) (ints (nats T++[(i:Int)]))) (g:w.grownBy w' (val (.inr false)).ownBlock)
  (hb:v'.ownBlock=(val (.inr false)).ownBlock∨v'.ownBlock=some w.heap.size):LSM W N fc M U R (T++[i]) X (rup val (.inr false) v') w':=by
 refine LSM.told h (T++[i]) (Mod.dQ g) (λx hx=>by simpa using hx) ?_ (hb.imp id λe=>⟨_,e,nR _⟩);rw [j4,List.length_append];exact hG
theorem LSM.add (h:LSM W N fc M U R T X val w) (i:Nat) {v':Value} (hG:w'.ownsRow (N+6) 3 1 v' ((nats R).length+1) (ints (nats R++[(i:Int)]))) (g:w.grownBy w' (val (.inr true)).ownBlock)
  (hb:v'.ownBlock=(val (.inr true)).ownBlock∨v'.ownBlock=some w.heap.size):LSM W N fc M U (R++[i]) T X (rup val (.inr true) v') (w'.setCell ⟨N+5,0,none⟩ v'):=by
 have h5:=h.rbx.lt;have hbx:=h.rbx.kept (Mod.dQ g) (h.notin (.inr true) (.inl zo));have hne:v'.ownBlock≠some (N+5):=λe=>by
  rcases hb with hb | hb
  ·exact h.notin (.inr true) (b:=N+5) (.inl zo) (by rw [<- hb,e];simp)
  ·rw [hb] at e;injection e with e;omega
 refine h.other (F:=(N+5)::(val (.inr true)).ownBlock.toList) (R++[i]) (((Mod.dQ g).more λx hx _=>List.mem_cons_of_mem _ hx).setCell (p:=⟨N+5,0,none⟩) (λ_=>by simp) v') (λx hx=>?_) (hbx.set 0 v') ?_ (hb.imp id λe=>⟨_,e,nR _⟩)
 ·rcases List.mem_cons.1 hx with rfl | hx
  ·exact .inl rfl
  ·exact .inr (by simpa using hx)
 ·rw [j4,List.length_append];exact AD hG hne
end
theorem Fam.drop {base:Nat} {w:World} {val:Ix->Value} {row:Ix->List Int} {X:List Nat} (h:Fam base w val row X) (i:Ix):Fam base w (rup val i nK) (rup row i []) X:=by
 refine ⟨λj=>?_,λj k hjk=>?_,λj b hb=>?_,h.old,h.base⟩
 ·by_cases hj:j=i
  ·subst hj;rw [cO,cO];exact World.ownsRow_nil w base 3 1
  ·rw [aX _ _ hj,aX _ _ hj];exact h.own j
 ·by_cases hj:j=i
  ·subst hj;rw [cO];exact .inl rfl
  ·rw [aX _ _ hj]
   by_cases hk:k=i
   ·subst hk;rw [cO];cases hv:(val j).ownBlock with
    | none=>exact .inl rfl
    | some g=>right;intro e;cases e
   ·rw [aX _ _ hk];exact h.ne j k hjk
 ·by_cases hj:j=i
  ·subst hj;rw [cO];intro e;cases e
  ·rw [aX _ _ hj];exact h.o j b hb
theorem LSM.fresh {W:World} {N:Nat} {fc:Array Value} {M:Nat->Nat} {U:Nat->List Nat} {R T X:List Nat} {val:Ix->Value} {w:World} (h:LSM W N fc M U R T X val w):LSM W N fc M U R [] X (rup val (.inr false) nK) w:=by
 have e1:val (.inr true)=rup val (.inr false) nK (.inr true):=(aX _ _ zk).symm;have e2:(λp=>val (.inl p))=λp=>rup val (.inr false) nK (.inl p):=funext λp=>(aX _ _ zk).symm
 have h1:LS W N fc M U R T X (val (.inr true)) (λp=>val (.inl p)) val w:=h;unfold LSM;rw [<- e1,<- e2];refine ⟨h1.hN,h1.mod,h1.font,h1.mbx,h1.ubx,h1.rbx,h1.miss,h1.users,(h1.fam.drop (.inr false)).to (λ_=>rfl) λi=>?_⟩;rcases i with p | b
 ·rw [aX _ _ zk];rfl
 ·cases b
  ·rw [cO];rfl
  ·rw [aX _ _ zk];rfl
theorem uP {w:World} {base g n c:Nat} {e:TypeId} {xs:List Value} (h:w.ownsRow base e 1 (.slice (some ⟨g,0,none⟩) n c) n xs) {i:Nat} (hi:i<n):w.cell? ⟨g,i,none⟩=xs[i]?:=by
 rcases h.2 with ⟨hv,-⟩ | ⟨g',cap,cur,hv,hb,hg,hc,hm,hs,ht⟩
 ·cases hv
 ·cases hv;have hB:Blk w g cur e:=hg;rw [hB.cell,<- ht,List.getElem?_take,if_pos zo];simp
theorem mh {ys:List Int} {R:List Nat} (h:ys.Perm (nats R)):∃ R',ys=nats R'/\R'.Perm R:=by
 have h0:∀ y∈ys,0<=y:=λy hy=>by
  obtain ⟨x,-,rfl⟩:=List.mem_map.1 (h.mem_iff.1 hy);omega
 refine ⟨ys.map Int.toNat,?_,?_⟩
 ·unfold nats;rw [List.map_map];exact (List.map_id ys).symm.trans (List.map_congr_left λy hy=>by simp [Int.toNat_of_nonneg (h0 y hy)])
 ·have h1:=h.map Int.toNat;have h2:(nats R).map Int.toNat=R:=by
   unfold nats;rw [List.map_map];exact (List.map_congr_left λy hy=>by simp).trans (List.map_id R)
  rw [h2] at h1;exact h1
def Eu (N:Nat) (X Ds:List Nat):Prop:=∀ D∈Ds,D∈X/\N+6<=D
attribute [local go_sem] Oper.semAt_some
set_option maxRecDepth 100000 in
theorem sX (u:Int) (fg fc fl ff fx fr fn fv:Hd) (gl:List av) (B cg:Nat) (og:Option Addr) (w:World) (hr:Rows 9 aI B w (.slice fg.a fg.n fg.c) gl)
  (hgs:Rows 1 bn B w (.slice og gl.length cg) (nats (List.range gl.length))) (hn:gl.length<=1000) (hp:∀ x∈gl,x.parts.length<=100) :
  Calls Tryz.prog 168 #[.agg (af u fg fc fl ff fx fr fn fv),.slice og gl.length cg] w λe w'=>∃ v L,e=.returned v/\Ln.Ok gl.length (Ln.partsOf gl) L/\w'.ownsRow w.heap.size 3 1 v L.length (ints (nats L))/\Mod [] w w':=by
 have HR:=Hi hr;have HN:=Hi (And.intro hn hp);have HNG:Hy (fg.n=gl.length):=by obtain ⟨_,_,he,-⟩:=hr.form;injection he with _ h _
 have HLS:=Hi (LS.start w (af u fg fc fl ff fx fr fn fv));unfold af at HLS ⊢;obtain ⟨n,hnn⟩:∃ n,n=gl.length:=⟨_,rfl⟩
 rw [<- hnn] at hgs HNG HN ⊢;have HNN:=Hi hnn;have HGS:=Hi hgs;clear hr hgs hn hp hnn;have hm1:∀ W:World,(Instr.makeMap 211 none).run Tryz.prog W=.ok (.map (some W.heap.size)) (W.alloc (.map #[] 0)):=λW=>by kernel_rfl
 have hm2:∀ W:World,(Instr.makeMap 212 none).run Tryz.prog W=.ok (.map (some W.heap.size)) (W.alloc (.map #[] 0)):=λW=>by kernel_rfl
 refine Rf.fT Tryz.func168 rfl ?_;simp only [Tryz.ntmps168,List.size_toArray,List.length_cons,List.length_nil,Nat.reduceAdd,Nat.reduceSub,Array.replicate_succ,Array.replicate_zero,List.push_toArray,List.append_toArray,List.nil_append,List.cons_append];go_upto_region 4 with fail;clear hm1 hm2;obtain ⟨N,hN⟩:∃ N,N=w.heap.size:=⟨_,rfl⟩
 rw [<- hN] at HLS ⊢;simp only [Nat.add_assoc,Nat.reduceAdd] at HLS ⊢;generalize ((((((w.alloc (.cells #[.int .i64 u,.slice fg.a fg.n fg.c,.slice fc.a fc.n fc.c,.slice fl.a fl.n fl.c,.slice ff.a ff.n ff.c,.slice fx.a fx.n fx.c,.slice fr.a fr.n fr.c,.slice fn.a fn.n fn.c,.slice fv.a fv.n fv.c] 32)).alloc (.map #[] 0)).alloc (.cells #[.map (some (N+1))] 211)).alloc (.map #[] 0)).alloc (.cells #[.map (some (N+3))] 212)).alloc (.cells #[.slice none 0 0] 213))=w0 at *
 have HNW:=Hi hN;clear hN;go_wp2_with fail;refine wp_loop_ghost_k (λgk a W=>∃ (i:Nat) (X Ds:List Nat) (val:Ix->Value) (u9 u10 u20 u21 u22 u23 u24 u25 u26 u27 u28 u29 u30 u31 u32 u33 u34 u35 u36 u37 u38 u39 u40 u41 u42 u43 u44 u45 u46 u47 u48 u49:Value),(Hy (i+gk=n)/\Hy (LSE w N #[.int .i64 u,.slice fg.a fg.n fg.c,.slice fc.a fc.n fc.c,.slice fl.a fl.n fl.c,.slice ff.a ff.n ff.c,.slice fx.a fx.n fx.c,.slice fr.a fr.n fr.c,.slice fn.a fn.n fn.c,.slice fv.a fv.n fv.c] (Ln.edges (Ln.partsOf gl) i) ((List.range i).filter λg=>decide ((Ln.partsOf gl g).length=0)) [] X val W)/\Hy (Mks Ds W)/\Hy (Eu N X Ds))/\a=⟨List.toArray (.agg #[.int .i64 u,.slice fg.a fg.n fg.c,.slice fc.a fc.n fc.c,.slice fl.a fl.n fl.c,.slice ff.a ff.n ff.c,.slice fx.a fx.n fx.c,.slice fr.a fr.n fr.c,.slice fn.a fn.n fn.c,.slice fv.a fv.n fv.c]::.slice og n cg::.pointer (some ⟨N,0,none⟩)::undef::.slice none 0 0::.pointer (some ⟨N+2,0,none⟩)::.pointer (some ⟨N+4,0,none⟩)::.pointer (some ⟨N+5,0,none⟩)::undef::u9::u10::undef::undef::undef::undef::.map (some (N+1))::.map (some (N+3))::.slice og n cg::.int .i64 (n:Int)::.int .i64 (i:Int)::u20::u21::u22::u23::u24::u25::u26::u27::u28::u29::u30::u31::u32::u33::u34::u35::u36::u37::u38::u39::u40::u41::u42::u43::u44::u45::u46::u47::u48::u49::undef::undef::undef::undef::undef::undef::undef::undef::undef::undef::undef::undef::undef::undef::undef::undef::undef::undef::undef::undef::undef::undef::undef::undef::undef::undef::undef::undef::undef::undef::undef::undef::undef::undef::[]),marks Ds⟩) n ⟨0,[],[],λ_=>nK,undef,undef,undef,undef,undef,undef,undef,undef,undef,undef,undef,undef,undef,undef,undef,undef,undef,undef,undef,undef,undef,undef,undef,undef,undef,undef,undef,undef,undef,undef,undef,undef,⟨by show 0+n=n;omega,HLS.o,Mks.nil _,λD hD=>(by cases hD)⟩,rfl⟩ ?_;rintro gk _ wr ⟨i,X,Ds,val,u9,u10,u20,u21,u22,u23,u24,u25,u26,u27,u28,u29,u30,u31,u32,u33,u34,u35,u36,u37,u38,u39,u40,u41,u42,u43,u44,u45,u46,u47,u48,u49,⟨hi,HS,HM,HI⟩,rfl⟩;clear HLS
 try dsimp only
 intro J1 K1 hJ1 hK1
 by_cases hin:i<n
 case neg =>
  obtain rfl:n=i:=by have:=hi.o;omega
  have k1:=dF (p:=(n:Int)<n) zo;clear HGS hi;obtain ⟨E,hE⟩:∃ E,E=Ln.edges (Ln.partsOf gl) n:=⟨_,rfl⟩
  rw [<- hE] at HS;have HEE:=Hi hE;obtain ⟨R1,hR1⟩:∃ R1,R1=(List.range n).filter λg=>decide ((Ln.partsOf gl g).length=0):=⟨_,rfl⟩
  rw [<- hR1] at HS;have HST:Hy (Ln.St n (Ln.partsOf gl) [] R1 (Ln.missing E)):=by rw [hR1,hE];exact Ln.start n _
  have hEL:E.length<=100000:=by
   rw [hE];have h1:=Ln.lM (Ln.kN HN.o.2) n;have h2:n*100<=1000*100:=Nat.mul_le_mul_right _ HN.o.1;omega
  have HEL:=Hi hEL;have HRL:Hy ((nats R1).length<=1000000):=by
   show _<=_;rw [bj];have h1:=HST.o.len;have h2:=HN.o.1;omega
  clear hE hR1 hEL;have HX:=Hi (Bn (LSM.heap HS.o) HRL.o);go_wp2_with fail;refine HX.o.mono ?_;rintro e w1 ⟨rfl,m1,ys,hp,hpm⟩;obtain ⟨R2,rfl,hR2⟩:=mh hpm;have S1:=Hi (LSM.fresh (LSM.heaped HS.o (m1.more λx hx _=>List.mem_cons_of_mem _ hx) hp (.inl rfl)));have M1:=Hi (HM.o.kept m1 (λD hD hm=>LS.notin HS.o (.inr true) (.inr (HI.o D hD).1) hm));have ST1:=Hi (HST.o.perm hR2.symm);clear m1 hp hpm hR2 HS HM HST HX HRL;go_wp2_with fail
  go_loopg [11] n (λgk v11 wr=>∃ (L R:List Nat) (M:Nat->Nat) (val:Ix->Value),Hy (v11=val (.inr false))/\Hy (L.length+gk=n)/\Hy (Ln.St n (Ln.partsOf gl) L R M)/\Hy (LSM w N #[.int .i64 u,.slice fg.a fg.n fg.c,.slice fc.a fc.n fc.c,.slice fl.a fl.n fl.c,.slice ff.a ff.n ff.c,.slice fx.a fx.n fx.c,.slice fr.a fr.n fr.c,.slice fn.a fn.n fn.c,.slice fv.a fv.n fv.c] M (Ln.users E) R L X val wr)/\Hy (Mks Ds wr))
  case atStart=>exact ⟨[],R2,Ln.missing E,_,(cO _ _ _).symm,by show 0+n=n;omega,ST1.o,S1.o,M1.o⟩
  case round =>
   obtain ⟨L,R,M,val2,HV,HL,ST,S2,M2⟩:=hrel;clear S1 M1 ST1;obtain ⟨orr,cr,hvr⟩:=eX (LSM.rrow S2.o);have c6:=(LS.rbx S2.o).cell 0;simp only [gA,gZ] at c6;rw [hvr] at c6;obtain ⟨rn,hrn⟩:∃ rn,rn=(nats R).length:=⟨_,rfl⟩
   rw [<- hrn] at c6;have HRN:=Hi hrn;clear hvr;rcases Nat.eq_zero_or_pos rn with h0 | h0
   ·have k1:=dF (p:=(0:Int)<rn) zo;have k2:=dF (p:=0<rn) zo;have HZ:=Hi h0;clear h0 hrn;go_wp2_with fail;have hR0:R=[]:=by have h1:=HRN.o;rw [bj] at h1;have h2:=HZ.o;exact List.eq_nil_of_length_eq_zero zo
    rw [hR0] at ST;have hmc:=jJ (F:=Ds) Ds wr mR (λD hD _=>hD);have hfam:=(LS.fam S2.o).keep hmc (λb hb _=>.inr (HI.o b hb).1);refine M2.o.leaves ?_;refine ⟨_,?_,u11,L,rfl,ST.o.done,?_,?_⟩
    ·simp [results,Tryz.f168,go_sem]
    ·have h1:=hfam.own (.inr false);rw [HV.o];have h2:=pg h1 (B':=w.heap.size) (by have:=(LS.hN S2.o);omega);have h3:(lrow (Ln.users E) R L (.inr false)).length=L.length:=bj L;rw [h3] at h2;exact h2
    ·exact (LS.mod S2.o).trans hmc (λD hD hlt=>by have h1:=(HI.o D hD).2;have h2:=LS.hN S2.o;omega)
   ·have k1:=dT (p:=(0:Int)<rn) zo;have k2:=dT (p:=0<rn) h0;have hrl:(nats R).length<=1000000:=by
     rw [bj];have h1:=ST.o.len;have h2:=HN.o.1;omega
    have HX:=Hi (Bt (LSM.heap S2.o) hrl (by rw [<- hrn];exact h0));clear hrl hrn;have HP:=Hi h0;clear h0;go_wp2_with fail;refine HX.o.mono ?_;rintro e w3 ⟨x0,rfl,m3,v',ys,hp,hob,hpm⟩;obtain ⟨Rz,hz,hzp⟩:=mh hpm.symm;cases Rz with
    | nil=>cases hz
    | cons x R3 =>
     have hx0:x0=(x:Int):=(List.cons.inj hz).1;have hys:ys=nats R3:=(List.cons.inj hz).2;rw [hys] at hp;subst hx0;have S3:=Hi (LSM.heaped S2.o m3 hp (.inl hob))
     have M3:=Hi (M2.o.kept m3 (λD hD hm=>by
      have h7:=HI.o D hD;rcases List.mem_cons.1 hm with e | hm
      ·omega
      ·exact LS.notin S2.o (.inr true) (.inr h7.1) hm))
     have HMD:=Hi (ST.o.pop hzp.symm);have HV3:Hy (u11=rup val2 (.inr true) v' (.inr false)):=by show _=_;rw [aX _ _ zk];exact HV.o
     have HLL:Hy ((nats L).length<=1000000/\L.length<n):=by
      have h1:=ST.o.len;have h2:=HN.o.1;have h3:=HP.o;have h4:=HRN.o;rw [bj] at h4 ⊢;exact ⟨by omega,by omega⟩
     clear hz hzp hys hpm hp hob m3 S2 M2 HX c6 ST HV;generalize rup val2 (.inr true) v'=val3 at *
     have HO5:=Hi (gw (LSM.trow S3.o) ((Mod.refl [] w3).alloc (.cells #[.int .i64 (x:Int)] 3)));rw [<- HV3.o] at HO5;have HB5:=Hi (Blk.new w3 #[.int .i64 (x:Int)] 3);have S4:=Hi (LS.step S3.o ((Mod.refl [] w3).alloc (.cells #[.int .i64 (x:Int)] 3)));have M4:=Hi (Mks.stays _ _ M3.o ((Mod.refl [] w3).alloc (.cells #[.int .i64 (x:Int)] 3)));clear S3 M3;have hta:∀ W:World,(Instr.typeAssert (.iface 3 (.int .i64 (x:Int))) 20 3 false).run Tryz.prog W=.ok (.int .i64 (x:Int)) W:=λW=>by kernel_rfl
     go_wp2_with (at_builtin;refine kK (base:=N+6) (v:=u11) (xs:=nats L) (y:=(x:Int)) rfl _ _ rfl Tryz.underlying22 rfl HO5.o rfl HB5.o HLL.o.1 S4.o.fam.base ?_);intro v9 w9 hG9 hg9 hb9;rw [HV3.o] at hg9 hb9;have S5:=Hi (LSM.tell S4.o x hG9 hg9 zpf);have M5:=Hi (M4.o.kept (Mod.dQ hg9) (λD hD hm=>LS.notin S4.o (.inr false) (.inr (HI.o D hD).1) hm));have HV5:Hy (v9=rup val3 (.inr false) v9 (.inr false)):=(cO _ _ _).symm;clear hG9 hg9 hb9 S4 M4 HO5 HB5 HV3;obtain ⟨val4,hval4⟩:∃ v,v=rup val3 (.inr false) v9:=⟨_,rfl⟩
     rw [<- hval4] at S5 HV5;clear hval4;have c5:=(LS.ubx S5.o).cell 0;simp only [gA,gZ] at c5;obtain ⟨ou,cu,hvu⟩:=eX (LS.urow S5.o x);obtain ⟨un,hun⟩:∃ un,un=(nats (Ln.users E x)).length:=⟨_,rfl⟩
     have A4:(Instr.lookup 212 (.map (some (N+3))) (.int .i64 (x:Int)) false).run Tryz.prog w9=.ok (.slice ou un cu) w9:=by
      obtain ⟨m3,hm3,hv3⟩:=LS.users S5.o;have h6:=Gm.cH eG hm3 Tryz.underlying212 (z:=.slice none 0 0) zt (x:Int) false;simp only [Bool.false_eq_true,if_false] at h6;rw [h6,hv3,hvu,hun]
     have HVU:Hy (val4 (.inl (x:Int))=.slice ou un cu):=by rw [hun];exact hvu
     have HUN:=Hi hun;clear hvu hun;go_wp2_with fail;clear A4 c5 hta;have HUE:Hy (Ln.users E x=Ln.users (Ln.edges (Ln.partsOf gl) n) x):=by show _=_;rw [HEE.o]
     rw [<- HUE.o] at HMD
     go_loopg [66] un (λgk v66 wr=>∃ (j:Nat) (M3:Nat->Nat) (R4:List Nat) (val5:Ix->Value),v66=.int .i64 (j:Int)/\Hy (j+gk=un)/\Hy (Ln.Mid n (Ln.partsOf gl) (L++[x]) ((Ln.users E x).drop j) R4 M3)/\Hy (LSM w N #[.int .i64 u,.slice fg.a fg.n fg.c,.slice fc.a fc.n fc.c,.slice fl.a fl.n fl.c,.slice ff.a ff.n ff.c,.slice fx.a fx.n fx.c,.slice fr.a fr.n fr.c,.slice fn.a fn.n fn.c,.slice fv.a fv.n fv.c] M3 (Ln.users E) R4 (L++[x]) X val5 wr)/\Hy (Mks Ds wr)/\Hy (v9=val5 (.inr false))/\Hy (val5 (.inl (x:Int))=.slice ou un cu))
     case atStart=>exact ⟨0,M,R3,val4,rfl,by show 0+un=un;omega,HMD.o,S5.o,M5.o,HV5.o,HVU.o⟩
     case round =>
      obtain ⟨j,M3,R4,val5,rfl,hj,HMJ,S6,M6,HV6,HVU6⟩:=hrel;clear HMD S5 M5 HV5 HVU
      by_cases hjn:j<un
      case neg =>
       obtain rfl:un=j:=by have:=hj.o;omega
       have k3:=dF (p:=(un:Int)<un) zo;have hdr:(Ln.users E x).drop un=[]:=List.drop_eq_nil_of_le (by have h1:=HUN.o;rw [bj] at h1;omega);rw [hdr] at HMJ;have HST2:=Hi HMJ.o.done;clear hdr hjn hj;go_wp2;go_roundg (n - (L.length+1))
       case measure=>have:=HL.o;have:=HLL.o.2;omega
       case rel=>exact ⟨L++[x],R4,M3,val5,HV6.o,by have:=HL.o;have:=HLL.o.2;show (L++[x]).length+(n - (L.length+1))=n;rw [List.length_append];simp;omega,HST2.o,S6.o,M6.o⟩
      have k3:=dT (p:=(j:Int)<un) zo;have k4:(0:Int)<=j:=zo;have k5:(j:Int)<un:=zo;have k6:=dT (p:=j<un) hjn;have hju:j<(Ln.users E x).length:=by have h1:=HUN.o;rw [bj] at h1;omega
      obtain ⟨y,hy⟩:∃ y,y=(Ln.users E x)[j]:=⟨_,rfl⟩
      have hdr:(Ln.users E x).drop j=y::(Ln.users E x).drop (j+1):=by rw [hy];exact (List.drop_eq_getElem_cons hju)
      rw [hdr] at HMJ;have hrow:=LS.urow S6.o x;rw [HVU6.o,<- HUN.o] at hrow;obtain ⟨g,rfl⟩:∃ g,ou=some ⟨g,0,none⟩:=by
       rcases hrow.2 with ⟨h1,h2⟩ | ⟨g,cap,cur,h1,-⟩
       ·omega
       ·exact ⟨g,(Value.slice.inj h1).1⟩
      have cy:=uP hrow hjn;have hyv:(ints (nats (Ln.users E x)))[j]?=some (.int .i64 (y:Int)):=by
       unfold ints nats;rw [List.getElem?_map,List.getElem?_map,gE hju,hy];rfl
      rw [hyv] at cy;obtain ⟨m1,hm1⟩:=LS.miss S6.o;have hz:∀ W:World,(zeroValue 3).run Tryz.prog W=.ok (.int .i64 0) W:=λW=>by kernel_rfl
      have hlk:=Gm.cH eG hm1.1 Tryz.underlying211 (hz wr) (y:Int) false;simp only [Bool.false_eq_true,if_false] at hlk;rw [hm1.2 y] at hlk;obtain ⟨hyn,hyp⟩:=HMJ.o.pos;obtain ⟨mu,hmu⟩:∃ mu,M3 y=mu+1:=⟨M3 y - 1,by omega⟩
      have hmb:mu+1<=300000:=by
       have h1:=HMJ.o.miss y hyn;have h2:((Ln.partsOf gl y).countP λp=>decide (p ∉ L++[x]))<=(Ln.partsOf gl y).length:=List.countP_le_length;have h3:=Ln.kN HN.o.2 y;have h4:(y::(Ln.users E x).drop (j+1)).count y<=(y::(Ln.users E x).drop (j+1)).length:=List.count_le_length;rw [<- hdr,List.length_drop] at h4;rw [<- hdr] at h1;have h5:=Ln.nY E x;have h6:=HEL.o;omega
      rw [hmu] at hlk;obtain ⟨mA,hmA⟩:∃ mA:Int,mA=((mu+1:Nat):Int):=⟨_,rfl⟩
      rw [<- hmA] at hlk;obtain ⟨mB,hmB⟩:∃ mB:Int,mB=(mu:Int):=⟨_,rfl⟩
      have e1:mA - 1=mB:=zo;have e2:IntKind.i64.wrap mB=mB:=IntWalk.i64_in _ zo;have e3:wrap64 mB=mB:=IntWalk.wrap64_in _ zo;obtain ⟨W4,hup,hG4,o1,o2,o3,o4,o5⟩:=Gm.iE eG hm1.1 Tryz.underlying211 (y:Int) (.int .i64 mB);have kk4:Mod [N+1] wr W4:=⟨o1,o2,o3,by rw [o4];exact nR _,λq _ hn=>o5 q (λe=>hn (by rw [e];simp))⟩
      have S7:=Hi (LS.count S6.o y mu hm1 (by rw [hmB] at hG4;exact hG4) kk4)
      have M7:=Hi (M6.o.kept kk4 (λD hD hm=>by
       have e:=mI.1 hm;have h7:=(HI.o D hD).2
       omega))
      have hlk2:=Gm.cH eG hG4 Tryz.underlying211 (hz W4) (y:Int) false;simp only [Bool.false_eq_true,if_false] at hlk2;rw [Gm.ly,if_pos rfl,Option.getD_some] at hlk2;have c5:=(LS.mbx S6.o).cell 0;have c6:=(LS.mbx S7.o).cell 0;simp only [gA,gZ] at c5 c6;have HMU:=Hi (And.intro hmu (And.intro hmB hjn));clear hyv hrow hdr hy hju hm1 hz hyn hyp hmb hmA hG4 o1 o2 o3 o4 o5 kk4 hjn
      have ej:IntKind.i64.wrap ((j:Int)+1)=(j:Int)+1:=IntWalk.i64_in _ (by
       have h1:=HUN.o;rw [bj] at h1;have h2:=Ln.nY E x;have h3:=HEL.o;have h4:=HMU.o.2.2
       omega)
      rcases Nat.eq_zero_or_pos mu with h0 | h0
      ·obtain rfl:mB=0:=zo;have HZ:=Hi h0;have hrl:(nats R4).length<=1000000:=by
        rw [bj];have h1:=HMJ.o.rnodup;have h2:=Ln.lx h1 (n:=n) (λz hz=>((HMJ.o.ready z).1 hz).1);have h3:=HN.o.1;omega
       have HX:=Hi (yW (y:Int) (LSM.heap S7.o) hrl);clear h0 hmu hmB hrl;go_wp2_with fail;refine HX.o.mono ?_;rintro e w5 ⟨rfl,v7,ys,hp,hob,m5,hpm⟩;obtain ⟨R5,rfl,hR5⟩:=mh (R:=y::R4) hpm;have S8:=Hi (LSM.heaped S7.o m5 hp hob)
       have M8:=Hi (M7.o.kept m5 (λD hD hm=>by
        have h7:=HI.o D hD;rcases List.mem_cons.1 hm with e | hm
        ·omega
        ·exact LS.notin S7.o (.inr true) (.inr h7.1) hm))
       have HMS:=Hi (HMJ.o.step (M':=λq=>if q=y then mu else M3 q) (R':=R5) (λq=>by rw [HMU.o.1];rfl) (by rw [HMU.o.1,HZ.o,if_pos rfl];exact hR5));have HV8:Hy (v9=rup val5 (.inr true) v7 (.inr false)):=by show _=_;rw [aX _ _ zk];exact HV6.o
       have HU8:Hy (rup val5 (.inr true) v7 (.inl (x:Int))=.slice (some ⟨g,0,none⟩) un cu):=by show _=_;rw [aX _ _ zk];exact HVU6.o
       clear hpm hR5 hp hob m5 HX S7 M7 S6 M6 hlk hlk2 hup c5 c6;go_wp2;go_roundg (un - (j+1))
       case measure=>have:=hj.o;have:=HMU.o.2.2;omega
       case rel=>exact ⟨j+1,_,R5,_,by rw [Int.natCast_add];rfl,by have:=HMU.o.2.2;show j+1+(un - (j+1))=un;omega,HMS.o,S8.o,M8.o,HV8.o,HU8.o⟩
      ·have k7:=dF (p:=mB=0) zo;have k8:(mB == 0)=false:=by simp;omega
       have HMS:=Hi (HMJ.o.step (M':=λq=>if q=y then mu else M3 q) (R':=R4) (λq=>by rw [HMU.o.1];rfl) (by rw [HMU.o.1,if_neg zo]));clear h0 hmu hmB;go_wp2;go_roundg (un - (j+1))
       case measure=>have:=hj.o;have:=HMU.o.2.2;omega
       case rel=>exact ⟨j+1,_,R4,val5,by rw [Int.natCast_add];rfl,by have:=HMU.o.2.2;show j+1+(un - (j+1))=un;omega,HMS.o,S7.o,M7.o,HV6.o,HVU6.o⟩
 have q1:=dT (p:=(i:Int)<n) zo;have q2:(0:Int)<=i:=zo;have q3:(i:Int)<n:=zo;have q4:=dT (p:=i<n) hin;obtain ⟨a,rfl,-,cs,-,hc0,-,hx⟩:=(HGS.o.mod bn.stay HS.o.mod).at i (by rw [bj,List.length_range];exact hin);have hxi:(nats (List.range n))[i]'(by rw [bj,List.length_range];exact hin)=(i:Int):=by unfold nats;simp
 rw [hxi] at hx;obtain ⟨rfl,-⟩:=hx;have c0:=hc0 zd;simp only [gZ,Nat.mul_one] at c0;have B9:=Hi (Blk.new wr #[.int .i64 (i:Int)] 3);have al:Mod [] wr (wr.alloc (.cells #[.int .i64 (i:Int)] 3)):=(Mod.refl [] wr).alloc _;have HS1:=Hi (HS.o.more (Y:=[wr.heap.size]) al (λb hb=>by rw [mI.1 hb];exact ⟨nR _,by simp⟩));have HM1:=Hi (Mks.stays _ _ HM.o al);have HIN:=Hi hin;clear hxi hc0 al hin;go_upto_region 7 with fail;clear c0;generalize wr.alloc (.cells #[.int .i64 (i:Int)] 3)=w1 at *
 generalize wr.heap.size=b9 at *
 have g0:=B9.o.cell 0;have f0:=HS1.o.font.cell 0;have f1:=HS1.o.font.cell 1;have f2:=HS1.o.font.cell 2;have f3:=HS1.o.font.cell 3;have f4:=HS1.o.font.cell 4;have f5:=HS1.o.font.cell 5;have f6:=HS1.o.font.cell 6;have f7:=HS1.o.font.cell 7;have f8:=HS1.o.font.cell 8;simp only [gA,gZ,gS] at f0 f1 f2 f3 f4 f5 f6 f7 f8 g0;have HX:=Hi (qv u fg fc fl ff fx fr fn fv (i:Int) w1);unfold af at HX;go_wp2_with fail;refine HX.o.mono ?_;rintro e w2 ⟨⟨b2,b3,rfl,hb2,hb3,hg2,hg3⟩,m2⟩
 have HS2:=Hi (HS1.o.more (Y:=[b2,b3]) m2 (λb hb=>by
  simp only [List.mem_cons,List.not_mem_nil,or_false] at hb;rcases hb with rfl | rfl
  ·exact ⟨hg2,hb2.lt⟩
  ·exact ⟨hg3,hb3.lt⟩))
 have HM2:=Hi (Mks.stays _ _ HM1.o m2);have B92:=Hi (B9.o.kept m2 zk);have BB:=Hi (And.intro hb2 hb3);clear m2 hb2 hb3 hg2 hg3 f0 f1 f2 f3 f4 f5 f6 f7 f8 g0 HX HS1 HM1 B9 HS HM;go_wp2_with fail;have hxg:i<gl.length:=by rw [<- HNN.o];exact HIN.o
 obtain ⟨x,hx⟩:∃ x,gl[i]?=some x:=⟨_,gE hxg⟩
 have HXG:=Hi hx;have HXP:Hy (x.parts.length<=100):=HN.o.2 x (List.mem_of_getElem? hx);clear hxg hx;refine Rf.lm (α:=cK) (gf:=184) (lb:=#[.pointer (some ⟨b2,0,none⟩),.pointer (some ⟨b3,0,none⟩)]) (encs:=λp=>#[.agg #[.int .i64 p.glyph,.int .i64 p.x,.int .i64 p.y]])
  (λW p a' W'=>W'=W.alloc (.cells #[.int .i64 p.glyph,.int .i64 p.x,.int .i64 p.y] 69)/\a'=⟨List.toArray (.agg #[.int .i64 u,.slice fg.a fg.n fg.c,.slice fc.a fc.n fc.c,.slice fl.a fl.n fl.c,.slice ff.a ff.n ff.c,.slice fx.a fx.n fx.c,.slice fr.a fr.n fr.c,.slice fn.a fn.n fn.c,.slice fv.a fv.n fv.c]::.slice (some a) n cg::.pointer (some ⟨N,0,none⟩)::undef::.slice none 0 0::.pointer (some ⟨N+2,0,none⟩)::.pointer (some ⟨N+4,0,none⟩)::.pointer (some ⟨N+5,0,none⟩)::undef::.pointer (some ⟨b9,0,none⟩)::.pointer (some ⟨W.heap.size,0,none⟩)::undef::undef::undef::undef::.map (some (N+1))::.map (some (N+3))::.slice (some a) n cg::.int .i64 (n:Int)::.int .i64 (i:Int)::.bool true::.pointer (some (a.add i))::.int .i64 (i:Int)::.agg #[.int .i64 u,.slice fg.a fg.n fg.c,.slice fc.a fc.n fc.c,.slice fl.a fl.n fl.c,.slice ff.a ff.n ff.c,.slice fx.a fx.n fx.c,.slice fr.a fr.n fr.c,.slice fn.a fn.n fn.c,.slice fv.a fv.n fv.c]::.int .i64 (i:Int)::.func (.func 184) #[] #[.pointer (some ⟨b2,0,none⟩),.pointer (some ⟨b3,0,none⟩)]::.agg #[.int .i64 p.glyph,.int .i64 p.x,.int .i64 p.y]::u27::u28::u29::u30::u31::u32::u33::u34::u35::u36::u37::u38::u39::u40::u41::u42::u43::u44::u45::u46::u47::u48::u49::undef::undef::undef::undef::undef::undef::undef::undef::undef::undef::undef::undef::undef::undef::undef::undef::undef::undef::undef::undef::undef::undef::undef::undef::undef::undef::undef::undef::undef::undef::undef::undef::undef::undef::[]),[]⟩)
  rfl (λargs w=>by kernel_rfl) (λ_=>rfl) ?assign ?main
 case assign =>
  intro l p W KK hK
  gi_wp2
  try exact hK _ _ ⟨rfl,rfl⟩
 case main =>
  intro rec l D W1 hD hl hs hm hR hround;have HLD:Hy (D=w2.heap.size/\l=w2.heap.size+1/\W1.heap.size=w2.heap.size+2):=⟨hD,hl,hs⟩
  have HS3:=Hi (HS2.o.more (Y:=[D,l]) hm (λb hb=>by
   simp only [List.mem_cons,List.not_mem_nil,or_false] at hb
   rcases hb with rfl | rfl <;> omega))
  have HM3:=Hi (Mks.stays _ _ HM2.o hm);have B93:=Hi (B92.o.kept hm zk);have BB3:=Hi (And.intro (BB.o.1.kept hm zk) (BB.o.2.kept hm zk));have HRD:=Hi hround;have HRC:=Hi hR;have HX1:Hy (N+6<=w2.heap.size/\N=w.heap.size):=⟨HS2.o.fam.base,HS2.o.hN⟩
  clear hm hD hl hs hround hR;obtain ⟨X1,hX1⟩:∃ X1,X1=[D,l]++([b2,b3]++([b9]++X)):=⟨_,rfl⟩
  rw [<- hX1] at HS3;have HXX:=Hi hX1;clear hX1;obtain ⟨R0,hR0⟩:∃ R0,R0=(List.range i).filter λg=>decide ((Ln.partsOf gl g).length=0):=⟨_,rfl⟩
  rw [<- hR0] at HS3;have HR0:=Hi hR0;clear hR0
  have HJ:Hy (∀ k W,(∃ val',LSE w N #[.int .i64 u,.slice fg.a fg.n fg.c,.slice fc.a fc.n fc.c,.slice fl.a fl.n fl.c,.slice ff.a ff.n ff.c,.slice fx.a fx.n fx.c,.slice fr.a fr.n fr.c,.slice fn.a fn.n fn.c,.slice fv.a fv.n fv.c] (Ln.upto gl i (x.parts.take k)) R0 [] X1 val' W/\Rf.Rec rec l D .ready none W/\Mks Ds W/\Blk W b9 #[.int .i64 (i:Int)] 3/\Blk W b2 #[.int .i64 u,.slice fg.a fg.n fg.c,.slice fc.a fc.n fc.c,.slice fl.a fl.n fl.c,.slice ff.a ff.n ff.c,.slice fx.a fx.n fx.c,.slice fr.a fr.n fr.c,.slice fn.a fn.n fn.c,.slice fv.a fv.n fv.c] 32)->∀ W',Mod [] W W' ->
    ∃ val',LSE w N #[.int .i64 u,.slice fg.a fg.n fg.c,.slice fc.a fc.n fc.c,.slice fl.a fl.n fl.c,.slice ff.a ff.n ff.c,.slice fx.a fx.n fx.c,.slice fr.a fr.n fr.c,.slice fn.a fn.n fn.c,.slice fv.a fv.n fv.c] (Ln.upto gl i (x.parts.take k)) R0 [] X1 val' W'/\Rf.Rec rec l D .ready none W'/\Mks Ds W'/\Blk W' b9 #[.int .i64 (i:Int)] 3/\Blk W' b2 #[.int .i64 u,.slice fg.a fg.n fg.c,.slice fc.a fc.n fc.c,.slice fl.a fl.n fl.c,.slice ff.a ff.n ff.c,.slice fx.a fx.n fx.c,.slice fr.a fr.n fr.c,.slice fn.a fn.n fn.c,.slice fv.a fv.n fv.c] 32) :=
   λk W ⟨val',h1,h2,h3,h4,h5⟩ W' m=>⟨val',h1.step m,h2.kept m zk zk,Mks.stays _ _ h3 m,h4.kept m zk,h5.kept m zk⟩
  refine (o9 (J:=λk W=>∃ val',LSE w N #[.int .i64 u,.slice fg.a fg.n fg.c,.slice fc.a fc.n fc.c,.slice fl.a fl.n fl.c,.slice ff.a ff.n ff.c,.slice fx.a fx.n fx.c,.slice fr.a fr.n fr.c,.slice fn.a fn.n fn.c,.slice fv.a fv.n fv.c] (Ln.upto gl i (x.parts.take k)) R0 [] X1 val' W/\Rf.Rec rec l D .ready none W/\Mks Ds W/\Blk W b9 #[.int .i64 (i:Int)] 3/\Blk W b2 #[.int .i64 u,.slice fg.a fg.n fg.c,.slice fc.a fc.n fc.c,.slice fl.a fl.n fl.c,.slice ff.a ff.n ff.c,.slice fx.a fx.n fx.c,.slice fr.a fr.n fr.c,.slice fn.a fn.n fn.c,.slice fv.a fv.n fv.c] 32)
   (u:=u) (fg:=fg) (fc:=fc) (fl:=fl) (ff:=ff) (fx:=fx) (fr:=fr) (fn:=fn) (fv:=fv) (g:=i) w W1 HXG.o HR.o BB3.o.2 (λk W W' h m=>HJ.o k W h W' m) (λk W ⟨_,_,_,_,_,h⟩=>h) (λk W ⟨_,h,_⟩=>h.mod) ?hN ?hY ?h0).mono ?after
  case h0=>exact ⟨val,by rw [List.take_zero,Ln.xB];exact HS3.o,HRC.o,HM3.o,B93.o,BB3.o.1⟩
  case hN =>
   rintro k W p hk hp ⟨val',h1,h2⟩;exact ⟨val',by rw [Ln.zS hk (by rw [<- HNN.o,<- HNG.o];exact hp)];exact h1,h2⟩
  case hY =>
   rintro k W p hk hp ⟨val',h1,h2,h3,h4,h5⟩;refine HRD.o p W _ h2 ?_;rintro a' W' ⟨rfl,rfl⟩;have al:Mod [] W (W.alloc (.cells #[.int .i64 p.glyph,.int .i64 p.x,.int .i64 p.y] 69)):=(Mod.refl [] W).alloc _;refine ⟨h2.kept al zk zk,λhbusy=>?_⟩;have hbl:W.heap.size<(W.alloc (.cells #[.int .i64 p.glyph,.int .i64 p.x,.int .i64 p.y] 69)).heap.size:=by simp
   have s1:=h1.more (Y:=[W.heap.size]) al (λb hb=>by rw [mI.1 hb];exact ⟨nR _,hbl⟩);have hlX:l∈X1:=by rw [HXX.o];simp
   have hDX:D∈X1:=by rw [HXX.o];simp
   have h9X:b9∈X1:=by rw [HXX.o];simp
   have h2X:b2∈X1:=by rw [HXX.o];simp
   have hll:=HLD.o;have hxx:=HX1.o;have k3:Mod [l] (W.alloc (.cells #[.int .i64 p.glyph,.int .i64 p.x,.int .i64 p.y] 69)) ((W.alloc (.cells #[.int .i64 p.glyph,.int .i64 p.x,.int .i64 p.y] 69)).putObj l (.loop (rec .busy none))):=Rf.Mod.putObj mR (λ_=>by simp) _;have B10:=Hi ((Blk.new W #[.int .i64 p.glyph,.int .i64 p.x,.int .i64 p.y] 69).kept k3 (by have:=h2.ltl;simp;omega));have S4:=Hi (s1.keep k3 (λb hb=>by rw [mI.1 hb];omega) (λb hb _=>by rw [mI.1 hb];exact List.mem_append_right _ hlX));have M4:=Hi ((Mks.stays _ _ h3 al).kept k3 (λb hb hm=>by have e:=mI.1 hm;have h6:=h3.dsf b hb;rw [e,h2.lp] at h6;cases h6));have B94:=Hi ((h4.kept al zk).kept k3 (by rw [mI];intro e;have:=h4;unfold Blk at this;rw [e,h2.lp] at this;cases this));have B24:=Hi ((h5.kept al zk).kept k3 (by rw [mI];intro e;have:=h5;unfold Blk at this;rw [e,h2.lp] at this;cases this));have HB4:=Hi hbusy;have HK:=Hi (And.intro hk hp);have hlt:=h2.ltl;have hltD:=h2.ltD;have h9lt:=h4.lt;have HBK:=Hi (show l<W.heap.size/\D<W.heap.size/\b9<W.heap.size/\l≠D from ⟨hlt,hltD,h9lt,by omega⟩);have HXM:=Hi (show l∈X1/\D∈X1/\b9∈X1/\b2∈X1 from ⟨hlX,hDX,h9X,h2X⟩);clear al hbusy hbl s1 hlX hDX h9X h2X hll hxx k3 h1 h2 h3 h4 h5 hk hp hlt hltD h9lt;generalize (W.alloc (.cells #[.int .i64 p.glyph,.int .i64 p.x,.int .i64 p.y] 69)).putObj l (.loop (rec .busy none))=W3 at *
   generalize W.heap.size=b10 at *
   obtain ⟨E,hE⟩:∃ E,E=Ln.upto gl i (x.parts.take k):=⟨_,rfl⟩
   rw [<- hE] at S4;have HE:=Hi hE;clear hE;obtain ⟨m1,hm1⟩:=S4.o.miss;have HMM:=Hi hm1;have hz:∀ W:World,(zeroValue 3).run Tryz.prog W=.ok (.int .i64 0) W:=λW=>by kernel_rfl
   have hlk:=Gm.cH eG hm1.1 Tryz.underlying211 (hz W3) (i:Int) false;simp only [Bool.false_eq_true,if_false] at hlk;rw [hm1.2 i] at hlk;obtain ⟨mc,hmc⟩:∃ mc,mc=Ln.missing E i:=⟨_,rfl⟩
   rw [<- hmc] at hlk
   have HMC:Hy (mc=Ln.missing E i/\E.length<=200000):=⟨hmc,by
    rw [HE.o];have h6:=Ln.tT (i:=i) (l:=x.parts.take k) HN.o.2 (by rw [List.length_take];have:=HXP.o;omega);have h7:=HIN.o;have h8:=HN.o.1;have h9:(i+1)*100<=1000*100:=Nat.mul_le_mul_right _ zo
    omega⟩
   have hmb:mc<=200000:=by rw [hmc];exact nT (Ln.vV E i) HMC.o.2
   have e1:IntKind.i64.wrap ((mc:Int)+1)=(mc:Int)+1:=IntWalk.i64_in _ zo;have c5:=S4.o.mbx.cell 0;have g9:=B94.o.cell 0;simp only [gA,gZ] at c5 g9;obtain ⟨W4,hmu,hG4,o1,o2,o3,o4,o5⟩:=Gm.iE eG hm1.1 Tryz.underlying211 (i:Int) (.int .i64 ((mc:Int)+1));have HG4:=Hi hG4;have HO4:Hy (Mod [N+1] W3 W4):=⟨o1,o2,o3,by rw [o4];exact nR _,λq _ hn=>o5 q (λe=>hn (by rw [e];simp))⟩
   clear hm1 hz hmc hmb hG4 o1 o2 o3 o4 o5
   gi_upto_region 10 with fail
   clear hlk hmu c5 g9;have S5:=Hi (S4.o.count i (mc+1) HMM.o (by rw [Int.natCast_add];exact HG4.o) HO4.o);have hbk:=HBK.o;have hxm:=HXM.o;have hx1:=HX1.o;have hb10:N+6<=b10:=by have:=HLD.o;omega
   have B105:=Hi (B10.o.kept HO4.o zqa);have h95:b9≠N+1:=λe=>by have h6:=S4.o.miss;obtain ⟨_,⟨es,cl,h7,_⟩,_⟩:=h6;have h8:=B94.o;unfold Blk at h8;rw [e,h7] at h8;cases h8
   have h25:b2≠N+1:=λe=>by have h6:=S4.o.miss;obtain ⟨_,⟨es,cl,h7,_⟩,_⟩:=h6;have h8:=B24.o;unfold Blk at h8;rw [e,h7] at h8;cases h8
   have B95:=Hi (B94.o.kept HO4.o (by simp;exact h95));have B25:=Hi (B24.o.kept HO4.o (by simp;exact h25));have hld:=HLD.o;have HB5:=Hi (HB4.o.kept HO4.o zqa zqa)
   have M5:=Hi (M4.o.kept HO4.o (λb hb hm=>by
    have e:=mI.1 hm;obtain ⟨_,⟨es,cl,h7,_⟩,_⟩:=S4.o.miss;have h6:=M4.o.dsf b hb;rw [e,h7] at h6
    cases h6))
   obtain ⟨q,hq⟩:∃ q:Nat,p.glyph=(q:Int):=⟨p.glyph.toNat,by
    have h6:=HK.o.2;unfold eU at h6;simp only [Bool.and_eq_true,decide_eq_true_eq] at h6
    omega⟩
   have HQ:=Hi hq;rw [hq] at B105;rw [hq];obtain ⟨vp,hvp⟩:∃ vp,vp=val' (.inl (q:Int)):=⟨_,rfl⟩
   have HVP:=Hi hvp;have nin:∀ b,(b<N+6∨b∈[b10]++X1)->b ∉ vp.ownBlock.toList:=λb hb=>by rw [hvp];exact S5.o.notin _ hb
   have A1:∀ W,Mod vp.ownBlock.toList W4 W->W.cell? ⟨N+4,0,none⟩=some (.map (some (N+3))):=λW m=>(S5.o.ubx.kept m (nin _ (.inl zo))).cell 0
   have A2:∀ W,Mod vp.ownBlock.toList W4 W->W.cell? ⟨b10,0,none⟩=some (.int .i64 (q:Int)):=λW m=>(B105.o.kept m (nin _ (.inr zk))).cell 0
   have A3:∀ W,Mod vp.ownBlock.toList W4 W->W.cell? ⟨b9,0,none⟩=some (.int .i64 (i:Int)):=λW m=>(B95.o.kept m (nin _ (.inr (List.mem_append_right _ hxm.2.2.1)))).cell 0
   have A4:∀ W,Mod vp.ownBlock.toList W4 W->(Instr.lookup 212 (.map (some (N+3))) (.int .i64 (q:Int)) false).run Tryz.prog W=.ok vp W:=λW m=>by
    obtain ⟨m3,hm3,hv3⟩:=S5.o.users;have h6:=Gm.cH eG (hm3.mod m (nin _ (.inl zo))) Tryz.underlying212 (z:=.slice none 0 0) zt (q:Int) false;simp only [Bool.false_eq_true,if_false] at h6;rw [h6,hv3,hvp]
   have HNI:=Hi nin;have HUL:Hy ((nats (Ln.users E q)).length<=1000000):=by
    show _<=_;rw [bj];exact nT (Ln.nY E q) (by have:=HMC.o.2;omega)
   clear hbk hxm hx1 hb10 h95 h25 hld hq hvp nin e1 S4 B10 B94 B24 HB4 M4 HG4 HO4 HMM;refine Sw.eJ (I:=Mod vp.ownBlock.toList W4) (F0:=(λW=>LS w N #[.int .i64 u,.slice fg.a fg.n fg.c,.slice fc.a fc.n fc.c,.slice fl.a fl.n fl.c,.slice ff.a ff.n ff.c,.slice fx.a fx.n fx.c,.slice fr.a fr.n fr.c,.slice fn.a fn.n fn.c,.slice fv.a fv.n fv.c] (λy=>if y=i then mc+1 else Ln.missing E y) (Ln.users E) R0 [] ([b10]++X1) (val' (.inr true)) (λp=>val' (.inl p)) val' W)) (λ_ _ h k=>h.then (k.more zk)) 10 [(0,none),(1,none),(2,none),(3,none),(4,none),(5,none),(6,none),(7,none),(8,some ((λkx W=>(∃ b,kx=.slice (some ⟨b,0,none⟩) 1 1/\Blk W b #[.int .i64 (i:Int)] 3)/\LS w N #[.int .i64 u,.slice fg.a fg.n fg.c,.slice fc.a fc.n fc.c,.slice fl.a fl.n fl.c,.slice ff.a ff.n ff.c,.slice fx.a fx.n fx.c,.slice fr.a fr.n fr.c,.slice fn.a fn.n fn.c,.slice fv.a fv.n fv.c] (λy=>if y=i then mc+1 else Ln.missing E y) (Ln.users E) R0 [] ([b10]++X1) (val' (.inr true)) (λp=>val' (.inl p)) val' W))),(9,some ((λkx W=>LS w N #[.int .i64 u,.slice fg.a fg.n fg.c,.slice fc.a fc.n fc.c,.slice fl.a fl.n fl.c,.slice ff.a ff.n ff.c,.slice fx.a fx.n fx.c,.slice fr.a fr.n fr.c,.slice fn.a fn.n fn.c,.slice fv.a fv.n fv.c] (λy=>if y=i then mc+1 else Ln.missing E y) (λy=>if y=q then Ln.users E q++[i] else Ln.users E y) R0 [] ([b10]++X1) (val' (.inr true)) (λp=>val' (.inl p)) (rup val' (.inl (q:Int)) kx) W)))] zt zt (Sq.aW zt) ?hTS492 (((Mod.refl [] W4).drew).more zk) LS.stays (S5.o.step (mR.drew)) ?mainS492
   case hTS492 =>
    intro p hp T hT v;simp only [List.mem_cons,List.not_mem_nil,or_false] at hp;rcases hp with rfl | rfl | rfl | rfl | rfl | rfl | rfl | rfl | rfl | rfl <;> first | (cases hT;done) | (cases hT;first | exact (λW W' ⟨⟨b,h0,h1⟩,h2⟩ m=>⟨⟨b,h0,h1.kept m zk⟩,h2.step m⟩) | exact LS.stays)
   iterate 8 refine Sw.vv (w0:=W4.drew) (((Mod.refl [] W4).drew).more zk) ?_
   refine Sw.xx (λw' hw' hF K Q hK=>?_) (λkv hkv=>?_)
   ·go_wp2;exact hK _ _ (hw'.alloc _) ⟨⟨_,rfl,Blk.new _ _ _⟩,hF.step (mR.alloc _)⟩
   obtain ⟨_,_,⟨nb,rfl,_⟩,_⟩:=hkv;refine Sw.xx (λw' hw' hF K Q hK=>?_) (λkv hkv=>?_)
   ·obtain ⟨⟨b8,he8,hB⟩,hO⟩:=hF;cases he8;refine oE (base:=N+6) (v:=vp) (xs:=nats (Ln.users E q)) (y:=(i:Int)) rfl _ _ rfl Tryz.underlying22 rfl (hO.Dx HVP.o) rfl hB HUL.o hO.fam.base (λv' w'' hGP (hgr:w'.grownBy w'' vp.ownBlock) hbk=>?_);exact hK _ _ (hw'.then (Mod.dQ hgr)) (hO.zR HVP.o i hGP hgr hbk)
   skip
   refine Sw.bJ ?_;intro w' hw' hF;simp only [qS,qZ];obtain ⟨m3,hm3⟩:=hF.users;obtain ⟨W5,hmu,hG5,o1,o2,o3,o4,o5⟩:=Gm.iE eG hm3.1 Tryz.underlying212 (q:Int) kv;have k5:Mod [N+3] w' W5:=⟨o1,o2,o3,by rw [o4];exact nR _,λq _ hn=>o5 q (λe=>hn (by rw [e];simp))⟩
   have S6:=Hi (LSE.edge HMC.o.1 (hF.held q hm3 hG5 k5));have hxm:=HXM.o;have hbk:=HBK.o;have hld:=HLD.o;have hx1:=HX1.o;have n3:∀ (b:Nat) (cs:Array Value) (t:TypeId),Blk w' b cs t->b≠N+3:=λb cs t h e=>by
    obtain ⟨es,cl,h7,_⟩:=hm3.1;unfold Blk at h;rw [e,h7] at h;cases h
   have B96:=B95.o.kept hw' (HNI.o _ (.inr (List.mem_append_right _ hxm.2.2.1)));have B26:=B25.o.kept hw' (HNI.o _ (.inr (List.mem_append_right _ hxm.2.2.2)));have B97:=Hi (B96.kept k5 (by simp;exact n3 _ _ _ B96));have B27:=Hi (B26.kept k5 (by simp;exact n3 _ _ _ B26));have HB6:=HB5.o.kept hw' (HNI.o _ (.inr (List.mem_append_right _ hxm.1))) (HNI.o _ (.inr (List.mem_append_right _ hxm.2.1)));have HB7:=Hi (HB6.kept k5 zqa zqa);have hdm:∀ D'∈Ds,D' ∉ vp.ownBlock.toList:=λD' hD' hm=>by
    have e:vp.ownBlock=some D':=by simpa using hm
    rcases (S5.o.Dx HVP.o).2 with ⟨h6,-⟩ | ⟨g,cap,cur,h6,-,h7,-⟩
    ·rw [h6] at e;cases e
    ·rw [h6] at e;have h8:g=D':=by injection e
     have h9:=M5.o.dsf D' hD';rw [<- h8,h7] at h9;cases h9
   have M6:=M5.o.kept hw' hdm
   have M7:=Hi (M6.kept k5 (λD' hD' hm=>by
    have e:=mI.1 hm;obtain ⟨es,cl,h7,_⟩:=hm3.1;have h6:=M6.dsf D' hD';rw [e,h7] at h6
    cases h6))
   clear hm3 hG5 o1 o2 o3 o4 o5 k5 n3 B96 B26 HB6 hdm M6 hF hw' A1 A2 A3 A4 hkv B105 B95 B25 HB5 M5 S5 HUL hxm hbk hld hx1;go_wp2_with fail;have hld:=HLD.o;have hx1:=HX1.o;have hxm:=HXM.o;have k6:Mod [l] W5 (W5.putObj l (.loop (rec .ready none))):=Rf.Mod.putObj mR (λ_=>by simp) _;have nl:∀ (b:Nat) (cs:Array Value) (t:TypeId),Blk W5 b cs t->b ∉ [l]:=λb cs t h hm=>by
    have e:=mI.1 hm;have h7:=HB7.o.lp;unfold Blk at h;rw [e,h7] at h;cases h
   refine ⟨HB7.o,rfl,rup val' (.inl (q:Int)) kv,?_,HB7.o.put zo .ready none,M7.o.kept k6 (λD' hD' hm=>by
    have e:=mI.1 hm;have h7:=M7.o.dsf D' hD';rw [e,HB7.o.lp] at h7
    cases h7),B97.o.kept k6 (nl _ _ _ B97.o),B27.o.kept k6 (nl _ _ _ B27.o)⟩
   have hin2:eU gl.length p.glyph=true:=by rw [<- HNN.o,<- HNG.o];exact HK.o.2
   rw [Ln.Cq HK.o.1 hin2,<- HE.o,HQ.o,Int.toNat_natCast];exact (S6.o.less (λb hb=>List.mem_append_right _ hb)).keep k6 (λb hb=>by rw [mI.1 hb];omega) (λb hb _=>by rw [mI.1 hb];exact hxm.1)
  case after =>
   rintro e W' ⟨rfl,val',h1,h2,h3,h4,h5⟩;refine ⟨_,rfl,.inl ⟨h2,?_⟩⟩;rintro W4 hW4 hdf;have k6:Mod [l] W' W4:=by rw [hW4];exact Rf.Mod.putObj mR (λ_=>by simp) _
   have hld:=HLD.o;have hx1:=HX1.o;have nl:∀ (b:Nat) (cs:Array Value) (t:TypeId),Blk W' b cs t->b ∉ [l]:=λb cs t h hm=>by
    have e:=mI.1 hm;have h7:=h2.lp;unfold Blk at h;rw [e,h7] at h;cases h
   rw [List.take_length,Ln.zT HXG.o] at h1;have S7:=Hi (h1.keep k6 (λb hb=>by rw [mI.1 hb];omega) (λb hb _=>by rw [mI.1 hb,HXX.o];simp))
   have M7:=h3.kept k6 (λD' hD' hm=>by
    have e:=mI.1 hm;have h7:=h3.dsf D' hD';rw [e,h2.lp] at h7
    cases h7)
   have M8:=Hi (M7.cons hdf (λhm=>by have:=HM2.o.lt D hm;omega));have B97:=Hi (h4.kept k6 (nl _ _ _ h4));have HI7:Hy (Eu N X1 (D::Ds)):=λD' hD'=>by
    rcases List.mem_cons.1 hD' with rfl | hD'
    ·exact ⟨by rw [HXX.o];simp,by omega⟩
    ·have:=HI.o D' hD';exact ⟨by rw [HXX.o];exact List.mem_append_right _ (List.mem_append_right _ (List.mem_append_right _ this.1)),this.2⟩
   clear HRD HRC HS2 HM2 B92 BB HS3 HM3 B93 BB3 HJ h1 h2 h3 h4 h5 hW4 hdf k6 nl M7 hld hx1;obtain ⟨m1,hm1⟩:=S7.o.miss;have hz:∀ W:World,(zeroValue 3).run Tryz.prog W=.ok (.int .i64 0) W:=λW=>by kernel_rfl
   have hlk:=Gm.cH eG hm1.1 Tryz.underlying211 (hz W4) (i:Int) false;simp only [Bool.false_eq_true,if_false] at hlk;rw [hm1.2 i,Ln.iT,if_pos (Nat.lt_succ_self i)] at hlk;obtain ⟨mc,hmc⟩:∃ mc,mc=(Ln.partsOf gl i).length:=⟨_,rfl⟩
   rw [<- hmc] at hlk;have HMC:=Hi hmc;have c5:=S7.o.mbx.cell 0;have g9:=B97.o.cell 0;simp only [gA,gZ] at c5 g9;clear hm1 hz hmc;have ei:IntKind.i64.wrap ((i:Int)+1)=(i:Int)+1:=IntWalk.i64_in _ (by have:=HIN.o;have:=HN.o.1;omega);rcases Nat.eq_zero_or_pos mc with h0 | h0
   ·rw [h0] at hlk;have HZ:Hy ((Ln.partsOf gl i).length=0):=by show _=0;rw [<- HMC.o];exact h0
    clear h0;obtain ⟨vr,hvr⟩:∃ vr,vr=val' (.inr true):=⟨_,rfl⟩
    have HVR:=Hi hvr;have c6:=S7.o.rbx.cell 0;simp only [gA,gZ] at c6;rw [<- hvr] at c6;have HO5:=Hi (gw (LSM.rrow S7.o) ((Mod.refl [] W4).alloc (.cells #[.int .i64 (i:Int)] 3)));rw [<- hvr] at HO5;have HB5:=Hi (Blk.new W4 #[.int .i64 (i:Int)] 3);have S8:=Hi (S7.o.step ((Mod.refl [] W4).alloc (.cells #[.int .i64 (i:Int)] 3)));have M9:=Hi (Mks.stays _ _ M8.o ((Mod.refl [] W4).alloc (.cells #[.int .i64 (i:Int)] 3)));have HRL:Hy ((nats R0).length<=1000000):=by
     show _<=_;rw [bj,HR0.o];refine nT (List.length_filter_le _ _) ?_;rw [List.length_range];have:=HIN.o;have:=HN.o.1;omega
    clear hvr M8;go_wp2_with (at_builtin;refine kK (base:=N+6) (v:=vr) (xs:=nats R0) (y:=(i:Int)) rfl _ _ rfl Tryz.underlying213 rfl HO5.o rfl HB5.o HRL.o S8.o.fam.base ?_);intro v9 w9 hG9 hg9 hb9;rw [HVR.o] at hg9 hb9;have hbx:=S8.o.rbx.kept (Mod.dQ hg9) (S8.o.notin (.inr true) (.inl zo));have c7:=hbx.cell 0;have f7:=hbx.frozen 0;simp only [gA,gZ] at c7;have S9:=Hi (LSM.add S8.o i hG9 hg9 zpf);have k9:Mod (((N+5)::(val' (.inr true)).ownBlock.toList)) (W4.alloc (.cells #[.int .i64 (i:Int)] 3)) (w9.setCell ⟨N+5,0,none⟩ v9):=((Mod.dQ hg9).more λx hx _=>List.mem_cons_of_mem _ hx).setCell (p:=⟨N+5,0,none⟩) (λ_=>by simp) v9
    have M10:=Hi (M9.o.kept k9 (λD' hD' hm=>by
     have h7:=HI7.o D' hD';rcases List.mem_cons.1 hm with e | hm
     ·omega
     ·exact S8.o.notin (.inr true) (.inr h7.1) hm))
    obtain ⟨ov,cv,rfl⟩:=eX hG9;clear hG9 hg9 hb9 hbx k9 S8 M9 HO5 HB5 c5 c6 g9;go_wp2_with fail;refine Handed.intro (gk - 1) (by have:=hi.o;have:=HIN.o;omega) (hJ1 _ _ _ ⟨i+1,X1,D::Ds,rup val' (.inr true) (.slice ov ((nats R0).length+1) cv),_,_,_,_,_,_,_,_,_,_,_,_,_,_,_,_,_,_,_,_,_,_,_,_,_,_,_,_,_,_,_,_,⟨by have:=hi.o;have:=HIN.o;show i+1+(gk - 1)=n;omega,?_,M10.o,HI7.o⟩,rfl⟩);rw [Ln.qH,<- HR0.o,if_pos HZ.o];exact S9.o
   ·have k1:=dF (p:=(mc:Int)=0) zo;have k2:((mc:Int) == 0)=false:=by simp;omega
    have k3:=dF (p:=mc=0) zo;have HMP:=Hi h0;clear h0;go_wp2_with fail;refine Handed.intro (gk - 1) (by have:=hi.o;have:=HIN.o;omega) (hJ1 _ _ _ ⟨i+1,X1,D::Ds,val',_,_,_,_,_,_,_,_,_,_,_,_,_,_,_,_,_,_,_,_,_,_,_,_,_,_,_,_,_,_,_,_,⟨by have:=hi.o;have:=HIN.o;show i+1+(gk - 1)=n;omega,?_,M8.o,HI7.o⟩,rfl⟩);rw [Ln.qH,<- HR0.o,if_neg (λe=>by have:=HMP.o;rw [HMC.o,e] at this;exact Nat.lt_irrefl _ this),List.append_nil];exact S7.o
namespace Cp
def ko (D:Nat->Nat) (d p:Nat):Nat:=max d (D p+1)
def km (Q:Nat->Nat) (q p:Nat):Nat:=min (q+Q p) 1001
structure Eqs (n:Nat) (P:Nat->List Nat) (own D Q:Nat->Nat):Prop where
 deep:∀ g,g<n->D g=(P g).foldl (ko D) 0
 pts:∀ g,g<n->Q g=(P g).foldl (km Q) (own g)
def part (L:List Nat) (i:Nat) (F:Nat->Nat) (g:Nat):Nat:=if g∈L.take i then F g else 0
def upd (f:Nat->Nat) (x v:Nat):Nat->Nat:=λg=>if g=x then v else f g
theorem upd_same (f:Nat->Nat) (x v:Nat):upd f x v x=v:=if_pos rfl
theorem qe (f:Nat->Nat) {x g:Nat} (v:Nat) (h:g≠x):upd f x v g=f g:=if_neg h
theorem wY (f:Nat->Nat) (x v u:Nat):upd (upd f x v) x u=upd f x u:=by funext g;unfold upd;split <;> rfl
theorem qw (L:List Nat) (F:Nat->Nat):part L 0 F=λ_=>0:=by funext g;simp [part]
theorem qy {L:List Nat} {i:Nat} (F:Nat->Nat) (hi:i<L.length):part L (i+1) F=upd (part L i F) L[i] (F L[i]):=by
 funext g
 unfold part upd;have e:g∈L.take (i+1)↔g∈L.take i∨g=L[i]:=by rw [List.take_succ_eq_append_getElem hi,List.mem_append,mI]
 by_cases h:g=L[i]
 ·rw [if_pos (e.2 (.inr h)),if_pos h,h]
 ·rw [if_neg h]
  by_cases hm:g∈L.take i
  ·rw [if_pos (e.2 (.inl hm))];exact (if_pos hm).symm
  ·rw [if_neg (λhh=>(e.1 hh).elim hm h)];exact (if_neg hm).symm
theorem sT {L:List Nat} {n:Nat} {F:Nat->Nat} (hL:∀ g,g<n->g∈L) {g:Nat} (hg:g<n):part L L.length F g=F g:=by
 unfold part;rw [List.take_length,if_pos (hL g hg)]
section
variable {n:Nat} {P:Nat->List Nat} {L:List Nat} (h:Ln.Ok n P L)
include h
theorem ahead {i:Nat} (hi:i<L.length) {p:Nat} (hp:p∈P L[i]):p∈L.take i:=by
 refine h.ahead (L.take i) L[i] (L.drop (i+1)) ?_ p hp;rw [List.getElem_cons_drop,List.take_append_drop]
theorem fresh {i:Nat} (hi:i<L.length):L[i] ∉ L.take i:=by
 intro hm;obtain ⟨j,hj,he⟩:=List.mem_take_iff_getElem.1 hm;have hji:j<i:=zo
 exact absurd he (λhe=>by
  have:=(List.pairwise_iff_getElem.1 h.nodup) j i zo hi hji
  exact this he)
theorem yz {i:Nat} (hi:i<L.length) (F:Nat->Nat):part L i F L[i]=0:=if_neg (fresh h hi)
theorem qz {i:Nat} (hi:i<L.length) {p:Nat} (hp:p∈P L[i]) (F:Nat->Nat):part L i F p=F p:=if_pos (ahead h hi hp)
theorem CU {i:Nat} (hi:i<L.length) {p:Nat} (hp:p∈P L[i]):p≠L[i]:=λe=>fresh h hi (e ▸ ahead h hi hp)
theorem mT (hl:L.length=n):∀ g,g<n->g∈L:=by
 intro g hg
 by_cases hm:g∈L
 ·exact hm
 ·have:=Ln.lx (n:=n) (L:=g::L) (List.nodup_cons.2 ⟨hm,h.nodup⟩) (λx hx=>by
   rcases List.mem_cons.1 hx with rfl | hx
   ·exact hg
   ·exact h.lt x hx)
  simp at this;omega
theorem length_le:L.length<=n:=Ln.lx h.nodup h.lt
end
theorem kB {n:Nat} {P:Nat->List Nat} {L:List Nat} (h:Ln.Ok n P L) (hP:∀ g,g<n->∀ p∈P g,p<g):L.length=n:=by
 have H:∀ k,∀ g,g<k->g<n->g∈L:=by
  intro k
  induction k with
  | zero=>intro g hg;omega
  | succ k ih=>exact λg hg hn=>h.full g hn λp hp=>ih p (by have:=hP g hn p hp;omega) (by have:=hP g hn p hp;omega)
 have h1:=length_le h;have h2:(List.range n).length<=L.length:=by
  have:∀ (A B:List Nat),A.Nodup->(∀ x∈A,x∈B)->A.length<=B.length:=by
   intro A
   induction A with
   | nil=>intro B _ _;simp
   | cons a r ih =>
    intro B hn hs;have hab:=hs a zk;have h3:=ih (B.erase a) (List.nodup_cons.1 hn).2 λx hx=>by
     have hne:x≠a:=λe=>(List.nodup_cons.1 hn).1 (e ▸ hx)
     exact (List.mem_erase_of_ne hne).2 (hs x (List.mem_cons_of_mem _ hx))
    rw [List.length_erase_of_mem hab] at h3;have:=List.length_pos_of_mem hab;simp only [List.length_cons];omega
  exact this _ _ List.nodup_range λx hx=>H (x+1) x (Nat.lt_succ_self _) (List.mem_range.1 hx)
 rw [List.length_range] at h2;omega
end Cp
end Go.Proofs.YthheaflbbficgaaGreat
