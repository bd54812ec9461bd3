/- Float, Chain, Ring, SeqN, SeqW, SeqA, Mini, Doom, Kit, IntMap, OwnF, MonoT, Dag, FloatMove, FloatMoves, FindC. -/
import Derived.Test.YthheaflbbficgaaGreatGBase
import Derived.Deep.LoopGhost
import Derived.Deep.QuietTactic
import Derived.BigQuiet
import Derived.RegionTactic
import Derived.IntWalk
import Derived.WalkLawsBesides
import Derived.Deep.DeepCutAuto
import Derived.MapKept
import Derived.Maps.RangeRun
import Derived.Deep.CutBlock
set_option linter.all false
namespace Go.Proofs.YthheaflbbficgaaGreat
open Go.RowKit
def eK (t i:Nat) (l:List Oper):List Oper:=l.modify t λo=>{ o with after:=o.after.push ⟨i,.data⟩ }
section
variable {P:Program} {md:Region.Mode} {ops ops':Array Oper} {Q:Exit->Act->World->Prop} {t i:Nat} {ot oi:Oper}
structure gX (ops ops':Array Oper) (t i:Nat) (ot:Oper):Prop where
 other:∀ j,j≠t->ops'[j]?=ops[j]?
 old:ops[t]?=some ot
 new:ops'[t]?=some { ot with after:=ot.after.push ⟨i,.data⟩ }
theorem gX.yielded (h:gX ops ops' t i ot) (tmps:Array Value):yielded ops' tmps=yielded ops tmps:=by
 funext j
 unfold Go.yielded
 by_cases hj:j=t
 ·subst hj;rw [h.old,h.new];rfl
 ·rw [h.other j hj]
theorem gX.wpOp (h:gX ops ops' t i ot) {j:Nat} {K:Act->World->Prop} {a:Act} {w:World} (hh:wpOp P ops' Q j K a w):wpOp P ops Q j K a w:=by
 unfold Go.wpOp at *
 rw [h.yielded] at hh
 by_cases hj:j=t
 ·subst hj;rw [h.new] at hh;rw [h.old];exact hh
 ·rw [h.other j hj] at hh;exact hh
theorem gX.oo (h:gX ops ops' t i ot) {j:Nat} {listed:Array Bool} (hj:j∈Region.ready md ops' listed):j∈Region.ready md ops listed:=by
 rw [mem_ready] at *
 obtain ⟨h0,o,ho,hall⟩:=hj
 by_cases hjt:j=t
 ·subst hjt;rw [h.new] at ho;obtain rfl:=Option.some.inj ho;exact ⟨h0,ot,h.old,λe he hb=>hall e (Array.mem_push.2 (.inl he)) hb⟩
 ·exact ⟨h0,o,by rw [<- h.other j hjt];exact ho,hall⟩
theorem gX.fK (h:gX ops ops' t i ot) {j:Nat} {listed:Array Bool} (hjt:j≠t) (hj:j∈Region.ready md ops listed):j∈Region.ready md ops' listed:=by
 rw [mem_ready] at *
 obtain ⟨h0,o,ho,hall⟩:=hj;exact ⟨h0,o,by rw [h.other j hjt];exact ho,hall⟩
theorem gX.sR (h:gX ops ops' t i ot) {j:Nat} {listed:Array Bool} (hi:listed.getD i false=true) (hj:j∈Region.ready md ops listed):j∈Region.ready md ops' listed:=by
 by_cases hjt:j=t
 ·subst hjt;rw [mem_ready] at *
  obtain ⟨h0,o,ho,hall⟩:=hj;rw [h.old] at ho;obtain rfl:=Option.some.inj ho;refine ⟨h0,_,h.new,λe he hb=>?_⟩;rcases Array.mem_push.1 he with he | rfl
  ·exact hall e he hb
  ·exact hi
 ·exact h.fK hjt hj
theorem gX.behind (h:gX ops ops' t i ot):∀ (g:Nat) (listed:Array Bool) (a:Act) (w:World),listed.getD i false=true->wpAny P md ops' Q g listed a w->wpAny P md ops Q g listed a w
 | 0,listed,a,w,hi,hh=>⟨List.eq_nil_iff_forall_not_mem.2 (λj hj=>by
   have:=h.sR hi hj;rw [hh.1] at this
   exact absurd this (List.not_mem_nil)),hh.2⟩
 | g+1,listed,a,w,hi,hh=>⟨λh0=>hh.1 (by
   rw [List.eq_nil_iff_forall_not_mem];intro j hj;have:=h.oo hj;rw [h0] at this
   cases this),λj hj=>wpOp_mono (λa' w' h'=>h.behind g _ a' w' (getD_set_true hi) h') (h.wpOp (hh.2 j (h.sR hi hj)))⟩
def uR (md:Region.Mode) (ops:Array Oper) (t i:Nat):Bool :=
 match ops[t]?,ops[i]? with
 | some ot,some oi=>decide (t≠i) && oi.guard.isNone && (match oi.op with | .extract _ _=>true | _=>false) &&
  oi.after.all (λe=>!Region.binds md e || ot.after.any λe'=>Region.binds md e' && e'.on == e.on) &&
  (List.range ops.size).all λj=>j == i || oi.after.any (λe=>Region.binds md e && e.on == j) || match ops[j]? with
   | some oj=>oj.after.any (λe=>Region.binds md e && e.on == i) || oi.apart ops oj
   | none=>true
 | _,_=>false
theorem pM {o:Oper} (hg:o.guard=none) {x:Operand} {ix:Nat} (ho:o.op=.extract x ix) {j:Nat} (hj:ops[j]?=some o) {K:Act->World->Prop} {a:Act} {w:World} (hh:wpOp P ops Q j K a w) :
  ∃ v,Yields P ops o v a/\K (a.put o.dst v) w:=by
 unfold wpOp at hh;have hw:Region.wanted o (yielded ops a.tmps)=true:=by unfold Region.wanted;rw [hg]
 simp only [hj,hw,if_true] at hh;have stuckCase:∀ s,(∀ w,(execOp a.eval o).run P w=.halt (.stuck s) w)->(execOp a.eval o).runT P w #[]=(.halt (.stuck s) w,#[])->False:=λs h1 h2=>by
  rcases hh with hh | hh
  ·unfold Oper.wp at hh;rw [h1 w] at hh;exact hh
  ·unfold Oper.asks at hh;rw [h2] at hh;simp at hh
 have okCase:∀ v,(∀ w,(execOp a.eval o).run P w=.ok (.value v) w)->(execOp a.eval o).runT P w #[]=(.ok (.value v) w,#[])->∃ v,Yields P ops o v a/\K (a.put o.dst v) w:=λv h1 h2=>by
  refine ⟨v,.inl ⟨hw,h1⟩,?_⟩;rcases hh with hh | hh
  ·unfold Oper.wp at hh;rw [h1 w] at hh;exact hh
  ·unfold Oper.asks at hh;rw [h2] at hh;simp at hh
 have hE:execOp a.eval o=(do pure (.value (<- Instr.extract (a.eval x) ix))):=by
  unfold execOp;simp only [ho]
 rw [hE] at stuckCase okCase;generalize a.eval x=y at *
 cases y with
 | tuple vs =>
  cases hv:vs[ix]? with
  | none=>exact (stuckCase _ (λw=>by simp [Instr.extract,hv,go_sem];rfl) (by simp [Instr.extract,hv,go_sem];rfl)).elim
  | some v=>exact okCase v (λw=>by simp [Instr.extract,hv,go_sem]) (by simp [Instr.extract,hv,go_sem];rfl)
 | _=>exact (stuckCase _ (λw=>by simp [Instr.extract,go_sem];rfl) (by simp [Instr.extract,go_sem];rfl)).elim
theorem tQ (W:gX ops ops' t i ot) (hB:uR md ops t i=true) (hs:Region.noSelect ops=true) (hQ:∀ c a d v w,Q (.panic c) (a.put d v) w->Q (.panic c) a w) :
  ∀ (g:Nat) (listed:Array Bool) (a:Act) (w:World),listed.getD i true=false->wpAny P md ops' Q g listed a w->wpAny P md ops Q g listed a w:=by
 unfold uR at hB;rw [W.old] at hB;cases ho:ops[i]? with
 | none=>rw [ho] at hB;cases hB
 | some oi =>
  rw [ho] at hB;simp only [Bool.and_eq_true,decide_eq_true_eq] at hB;obtain ⟨⟨⟨⟨hne,hg⟩,hx⟩,hdeps⟩,hfree⟩:=hB;have hg':oi.guard=none:=by simpa using hg
  obtain ⟨x,ix,hop⟩:∃ x ix,oi.op=.extract x ix:=by
   cases hop:oi.op <;> simp [hop] at hx
   exact ⟨_,_,rfl⟩
  have hT:∀ listed,listed.getD i true=false->t∈Region.ready md ops listed->i∈Region.ready md ops listed:=λlisted hun ht=>by
   rw [mem_ready] at *
   obtain ⟨_,o,ho',hall⟩:=ht;rw [W.old] at ho';obtain rfl:=Option.some.inj ho';refine ⟨hun,oi,ho,λe he hb=>?_⟩;have h1:=Array.all_eq_true_iff_forall_mem.1 hdeps e he;rw [hb] at h1;simp only [Bool.not_true,Bool.false_or] at h1;obtain ⟨e',he',h2⟩:=Array.any_eq_true'.1 h1;simp only [Bool.and_eq_true,beq_iff_eq] at h2;rw [<- h2.2];exact hall e' he' h2.1
  have hF:∀ listed,i∈Region.ready md ops listed->∀ j oj,ops[j]?=some oj->j≠i->listed.getD j true=false->(∀ e∈oj.after,Region.binds md e=true->e.on≠i)->oi.apart ops oj=true:=λlisted hr j oj hj hji hun hno=>by
   have h1:=List.all_eq_true.1 hfree j (List.mem_range.2 (Array.getElem?_eq_some_iff.1 hj).1);simp only [hj,Bool.or_eq_true,beq_iff_eq,hji,false_or] at h1;rcases h1 with h1 | h1 | h1
   ·obtain ⟨e,he,h2⟩:=Array.any_eq_true'.1 h1;simp only [Bool.and_eq_true,beq_iff_eq] at h2;obtain ⟨_,o,ho',hall⟩:=mem_ready.1 hr;rw [ho] at ho';obtain rfl:=Option.some.inj ho';have h3:=hall e he h2.1;rw [h2.2,getD_both hun] at h3;cases h3
   ·obtain ⟨e,he,h2⟩:=Array.any_eq_true'.1 h1;simp only [Bool.and_eq_true,beq_iff_eq] at h2;exact absurd h2.2 (hno e he h2.1)
   ·exact h1
  intro g
  induction g with
  | zero =>
   intro listed a w hun hh;refine ⟨List.eq_nil_iff_forall_not_mem.2 λj hj=>?_,hh.2⟩
   by_cases hjt:j=t
   ·subst hjt;have:=W.fK (Ne.symm hne) (hT listed hun hj);rw [hh.1] at this;exact absurd this List.not_mem_nil
   ·have:=W.fK hjt hj;rw [hh.1] at this;exact absurd this List.not_mem_nil
  | succ g ih =>
   intro listed a w hun hh
   by_cases hr:i∈Region.ready md ops listed
   ·obtain ⟨v,hy,hk⟩:=pM hg' hop ho (W.wpOp (hh.2 i (W.fK (Ne.symm hne) hr)));refine wpAny_first ho (Region.noSelect_spec hs) (λc a w=>hQ c a oi.dst v w) g listed a w (hF listed hr) hr hy ?_;refine W.behind g _ _ _ ?_ hk;have hlt:i<listed.size:=by
     rcases Nat.lt_or_ge i listed.size with h' | h'
     ·exact h'
     ·rw [Array.getD_eq_getD_getElem?,Array.getElem?_eq_none h'] at hun;cases hun
    simp [hlt]
   ·refine ⟨λh0=>hh.1 (List.eq_nil_iff_forall_not_mem.2 λj hj=>?_),λj hj=>?_⟩
    ·have:=W.oo hj;rw [h0] at this;exact absurd this List.not_mem_nil
    ·have hji:j≠i:=λhe=>hr (he ▸ hj)
     have hjt:j≠t:=λhe=>hr (hT listed hun (he ▸ hj))
     refine wpOp_mono (λa' w' h'=>ih _ a' w' ?_ h') (W.wpOp (hh.2 j (W.fK hjt hj)));rw [getD_set_ne true hji];exact hun
theorem oP {l:List Oper} {t i:Nat} {o:Oper} (h:l[t]?=some o):gX l.toArray (eK t i l).toArray t i o:=by
 refine ⟨λj hj=>?_,by simpa using h,?_⟩
 ·simp only [gA,eK];rw [List.getElem?_modify];cases l[j]? <;> simp [Ne.symm hj]
 ·simp only [gA,eK];rw [List.getElem?_modify,h];simp
theorem mJ (t i:Nat) (l:List Oper):(eK t i l).length=l.length:=by simp [eK]
theorem uW {Q:Exit->Act->World->Prop} {a:Act} {w:World} {l:List Oper} (n:Nat) (ord:List Nat) (late:List (Nat×(Value->World->Prop)))
  (hB:Region.qa .any l.toArray n ord (late.map (·.1))=true) (hT:∀ p∈late,∀ v,aG (p.2 v))
  (h:dS P l.toArray w (λa'=>dP P l.toArray w (λa'' F=>∀ w',Mod [] w w'->F w'->wpList P l.toArray Q (l.drop n) a'' w') late a' (λ_=>True)) ord a) :
  wpAny P .any l.toArray Q l.toArray.size (Array.replicate l.toArray.size false) a { w with drawn:=w.drawn+1 }:=by
 simp only [Region.qa,Bool.and_eq_true,decide_eq_true_eq] at hB;obtain ⟨⟨⟨⟨⟨⟨⟨⟨hsel,hn⟩,hlen⟩,hlt⟩,ht⟩,hd⟩,hseq⟩,hap⟩,hord⟩:=hB
 let L:Nat->Option (Value->World->Prop):=λi=>(late.find? λp=>p.1 == i).map (·.2)
 have hLn:∀ i,(late.map (·.1)).contains i=false->L i=none:=λi hi=>by
  simp only [L,Option.map_eq_none_iff,List.find?_eq_none];intro p hp he;have:(late.map (·.1)).contains i=true:=by simpa using ⟨p.2,by simpa [<- (beq_iff_eq.1 he)] using hp⟩
  rw [hi] at this;cases this
 have hLs:∀ p∈late,L p.1=some p.2:=λp hp=>iL late p hp (fo hap)
 have hLT:∀ i T,L i=some T->∀ v,aG (T v):=λi T hi v=>by
  simp only [L,Option.map_eq_some_iff] at hi;obtain ⟨p,hp,rfl⟩:=hi;exact hT p (List.mem_of_find?_eq_some hp) v
 have inv0:HeadInv .any l.toArray n (Array.replicate l.toArray.size false) :=
  ⟨by simp,λj oj _ hl=>zqk,λt _ ht=>getD_in zpc (getD_replicate_false _ _)⟩
 have hE:∀ (a:Act) (F F':World->Prop),(∀ w,F' w->F w)->(∀ w',Mod [] w w'->F w'->wpList P l.toArray Q (l.drop n) a w')->(∀ w',Mod [] w w'->F' w'->wpList P l.toArray Q (l.drop n) a w') :=
  λa F F' hF h w' hw hf=>h w' hw (hF w' hf)
 have hdl:(l.drop n).length=l.toArray.size - n:=by simp
 have H:=gd (P:=P) (W:=w) (L:=L) (m:=late.length) (late:=late.map (·.1)) (F:=λ_=>True)
  (Fin:=λlisted a F=>Region.seqB .any l.toArray (l.toArray.size - n) n listed=true/\∀ w',Mod [] w w'->F w'->wpList P l.toArray Q (l.drop n) a w')
  hsel ht (λlisted a F hf=>seqB_ready hf.1) hLn (λa listed inv hB hk=>by
   refine lG hE (Region.noSelect_spec hsel) ht hd hn hseq late.length late listed a _ rfl inv hap hLs (λi hi=>?_) (λp hp=>?_) hk
   ·have:=List.all_eq_true.1 hB i (List.mem_range.2 hi);simp only [beq_iff_eq] at this;rw [Bool.eq_iff_iff] at this;simp only [beq_iff_eq,List.contains_iff_mem] at this;exact this
   ·have:=List.all_eq_true.1 hlt p.1 (mM hp)
    simpa using this) ord _ a inv0 hord h
 have hfin:=dJ (P:=P) (md:=.any) (ops:=l.toArray) (W:=w) (Q:=Q) (g:=l.toArray.size - n) hLT (λlisted a F w' hw hF hf=>by
  have:=wpAny_of_seq (md:=.any) (Q':=Q) (l.drop n) n listed a w' (λj=>by simp [List.getElem?_drop]) zqz (hf.2 w' hw hF)
  rwa [hdl] at this) _ _ _ _ { w with drawn:=w.drawn+1 } (λ_ _ _ _=>trivial) ((Mod.refl [] w).drew) trivial H
 have hl2:ord.length+late.length+(l.toArray.size - n)=l.toArray.size:=by simp only [List.length_map] at hlen;omega
 rwa [hl2] at hfin
end
namespace Ch
section
variable {P:Program} {ops:Array Oper} {md:Region.Mode} {W:World} {L:Nat->Option (Value->World->Prop)}
def gu (P:Program) (o:Oper) (a:Act) (W:World) (F:World->Prop) (T:Value->World->Prop):Prop :=
 ∀ w,Mod [] W w->F w->o.wp P a w (λa' w'=>∃ v,a'=a.put o.dst v/\Mod [] w w'/\T v w') (λ_ _ _=>False)
theorem gu.weak {o:Oper} {a:Act} {F F':World->Prop} {T:Value->World->Prop} (h:gu P o a W F T) (hF:∀ w,F' w->F w):gu P o a W F' T:=λw hw hf=>h w hw (hF w hf)
theorem j7 {o:Oper} (hs:∀ cs b,o.op≠.select cs b) {a:Act} {d:Option Tmp} {v:Value} {F:World->Prop} {T:Value->World->Prop} (h1:∀ t,d=some t->t ∉ o.looksAt ops) (h2:∀ t,d=some t->o.dst≠some t)
  (h:gu P o (a.put d v) W F T):gu P o a W F T:=by
 intro w hw hF;have h3:=h w hw hF;unfold Oper.wp at *
 rw [execOp_put o hs a d v h1] at h3;have key:∀ (x:Value) w',(∃ u,(a.put d v).put o.dst x=(a.put d v).put o.dst u/\Mod [] w w'/\T u w')->∃ u,a.put o.dst x=a.put o.dst u/\Mod [] w w'/\T u w':=by
  rintro x w' ⟨u,e,m,t⟩;refine ⟨u,?_,m,t⟩;rw [Act.put_comm a v x h2,Act.put_comm a v u h2] at e;cases d with
  | none=>exact e
  | some t =>
   cases ho:o.dst with
   | none=>rfl
   | some s =>
    rw [ho] at e;have hne:s≠t:=λhst=>h2 t rfl (by rw [ho,hst])
    have e2:=congrArg Act.tmps e;simp only [Act.put] at e2 ⊢;have e3:a.tmps.setIfInBounds s x=a.tmps.setIfInBounds s u:=by
     apply Array.ext_getElem?;intro k;have:=congrArg (λz=>z[k]?) e2
     by_cases hk:t=k
     ·subst hk;rw [Array.getElem?_setIfInBounds_ne hne,Array.getElem?_setIfInBounds_ne hne]
     ·rwa [Array.getElem?_setIfInBounds_ne hk,Array.getElem?_setIfInBounds_ne hk] at this
    rw [e3]
 generalize (execOp a.eval o).run P w=r at *
 cases r with
 | ok n w' =>
  cases n <;> simp only [Oper.upon] at h3 ⊢
  case value u=>exact key _ _ h3
  case skip=>exact key _ _ h3
  case defer x =>
   obtain ⟨u,e,m,t⟩:=h3;have e2:=congrArg Act.defers e;exfalso;have hl:∀ (b:Act) (d:Option Tmp) (v:Value),(b.put d v).defers=b.defers:=λb d v=>by cases d <;> rfl
   have e3:x::a.defers=a.defers:=by simpa only [hl] using e2
   have:=congrArg List.length e3;simp at this
  case enter f args =>
   refine Calls.mono h3 λe w'' he=>?_
   cases e with
   | returned u=>exact key _ _ he
   | panicked c=>exact he.elim
   | outgrown=>obtain ⟨_,_,h⟩:=he;exact h.elim
  case row row args=>exact Rows.mono h3 λu w'' he=>key _ _ he
 | halt x w'=>cases x <;> simp only [Oper.upon] at h3
def mOp (P:Program) (ops:Array Oper) (W:World) (L:Nat->Option (Value->World->Prop)) (i:Nat) (K:Act->(World->Prop)->Prop) (a:Act) (F:World->Prop):Prop :=
 match ops[i]?,L i with
 | some o,none=>if Region.wanted o (yielded ops a.tmps) then ∃ v,gJ P o a W v/\K (a.put o.dst v) F else K (a.put o.dst undef) F
 | some o,some T=>o.guard=none/\gu P o a W F T/\∀ v,K (a.put o.dst v) (λw=>F w/\T v w)
 | none,_=>False
def dw (P:Program) (md:Region.Mode) (ops:Array Oper) (W:World) (L:Nat->Option (Value->World->Prop)) (n:Nat) (Fin:Array Bool->Act->(World->Prop)->Prop):Nat->Array Bool->Act->(World->Prop)->Prop
 | 0,listed,a,F=>Fin listed a F
 | f+1,listed,a,F=>Region.ready md ops listed≠[]/\∀ i∈Region.ready md ops listed,i<n/\mOp P ops W L i (dw P md ops W L n Fin f (listed.setIfInBounds i true)) a F
theorem fC {o:Oper} {a:Act} {F:World->Prop} {T:Value->World->Prop} {K:Act->World->Prop} {Q:Exit->Act->World->Prop} {w:World} (hw:Mod [] W w) (hF:F w) (h:gu P o a W F T)
  (hK:∀ v w',Mod [] w w'->T v w'->K (a.put o.dst v) w'):o.wp P a w K Q:=by
 have h3:=h w hw hF;unfold Oper.wp at *
 generalize (execOp a.eval o).run P w=r at *
 cases r with
 | ok n w' =>
  cases n <;> simp only [Oper.upon] at h3 ⊢
  case value u=>obtain ⟨v,e,m,t⟩:=h3;rw [e];exact hK _ _ m t
  case skip=>obtain ⟨v,e,m,t⟩:=h3;rw [e];exact hK _ _ m t
  case defer d=>obtain ⟨v,e,m,t⟩:=h3;rw [e];exact hK _ _ m t
  case enter f args =>
   refine Calls.mono h3 λe w'' he=>?_
   cases e with
   | returned u =>
    obtain ⟨v,e,m,t⟩:=he;show K (a.put o.dst u) w'';rw [e];exact hK _ _ m t
   | panicked c=>exact he.elim
   | outgrown=>obtain ⟨_,_,h⟩:=he;exact h.elim
  case row row args=>exact Rows.mono h3 λu w'' he=>by obtain ⟨v,e,m,t⟩:=he;rw [e];exact hK _ _ m t
 | halt x w'=>cases x <;> simp only [Oper.upon] at h3
theorem gF {i:Nat} {a:Act} {F:World->Prop} {K:Act->(World->Prop)->Prop} {K':Act->World->Prop} {Q:Exit->Act->World->Prop} {w:World}
  (hT:∀ i T,L i=some T->∀ v,aG (T v)) (hs:aG F) (hw:Mod [] W w) (hF:F w) (h:∀ a F w',Mod [] W w'->aG F->F w'->K a F->K' a w') (hh:mOp P ops W L i K a F):wpOp P ops Q i K' a w:=by
 unfold mOp at hh;unfold wpOp
 split at hh
 ·rename_i o ho hl;simp only [ho]
  split
  ·rename_i hwn;simp only [hwn,if_true] at hh;obtain ⟨v,h1,h2⟩:=hh;exact .inl (gQ hw h1 λw' m=>h _ _ _ (hw.then m) hs (hs _ _ hF m) h2)
  ·rename_i hwn;simp only [hwn] at hh;exact h _ _ _ hw hs hF hh
 ·rename_i o T ho hl;obtain ⟨hg,h1,h2⟩:=hh;simp only [ho,Region.wanted,hg,if_true];exact .inl (fC hw hF h1 λv w' m t=>h _ _ _ (hw.then m) (λx y hx hm=>⟨hs _ _ hx.1 hm,hT i T hl v _ _ hx.2 hm⟩) ⟨hs _ _ hF m,t⟩ (h2 v))
 ·exact hh.elim
theorem dJ {n g:Nat} {Fin:Array Bool->Act->(World->Prop)->Prop} {Q:Exit->Act->World->Prop} (hT:∀ i T,L i=some T->∀ v,aG (T v))
  (hFin:∀ listed a F w,Mod [] W w->F w->Fin listed a F->wpAny P md ops Q g listed a w) :
  ∀ (f:Nat) (listed:Array Bool) (a:Act) (F:World->Prop) (w:World),aG F->Mod [] W w->F w->dw P md ops W L n Fin f listed a F->wpAny P md ops Q (f+g) listed a w
 | 0,listed,a,F,w,_,hw,hF,h=>by rw [Nat.zero_add];exact hFin _ _ _ _ hw hF h
 | f+1,listed,a,F,w,hs,hw,hF,h=>by
  rw [show f+1+g=(f+g)+1 by omega];exact ⟨λh0=>absurd h0 h.1,λi hi=>gF hT hs hw hF (λa' F' w' hw' hs' hF' h'=>dJ hT hFin f _ a' F' w' hs' hw' hF' h') (h.2 i hi).2⟩
theorem gG {i:Nat} {o:Oper} {v:Value} {a:Act} {F:World->Prop} (hi:ops[i]?=some o) (hl:L i=none) (hy:bR P ops W o v a) {K:Act->(World->Prop)->Prop} (h:K (a.put o.dst v) F):mOp P ops W L i K a F:=by
 unfold mOp;simp only [hi,hl];rcases hy with ⟨hw,hv⟩ | ⟨hw,rfl⟩
 ·simp only [hw,if_true];exact ⟨v,hv,h⟩
 ·simp only [hw,Bool.false_eq_true,if_false];exact h
theorem lj {j:Nat} {oi oj:Oper} {v:Value} (hj:ops[j]?=some oj) (hap:oi.apart ops oj=true)
  (hsi:∀ cs b,oi.op≠.select cs b) (hsj:∀ cs b,oj.op≠.select cs b) {K:Act->(World->Prop)->Prop} {a:Act} {F:World->Prop}
  (hy:bR P ops W oi v a) (h:mOp P ops W L j K (a.put oi.dst v) F) :
  mOp P ops W L j (λa' F'=>bR P ops W oi v a'/\K (a'.put oi.dst v) F') a F:=by
 obtain ⟨h1,h2,h3⟩:=Oper.apart_spec hap;have h2':∀ d,oj.dst=some d->oi.dst≠some d:=λd hd hi'=>h2 d hi' hd
 have keep:∀ (a:Act),bR P ops W oi v a->∀ u,bR P ops W oi v (a.put oj.dst u):=λa hy u=>by
  unfold bR at *
  rw [wanted_put oi a oj.dst u h3];exact hy.imp (λhh=>⟨hh.1,late_put' hsi h3 h2' hh.2⟩) id
 unfold mOp at *
 cases hl:L j with
 | none =>
  simp only [hj,hl] at h ⊢;rw [wanted_put oj a oi.dst v h1] at h
  split
  ·rename_i hw;simp only [hw,if_true] at h;obtain ⟨u,hu,hn⟩:=h;exact ⟨u,jb hsj h1 h2 hu,keep a hy u,by rw [<- Act.put_comm a v u h2];exact hn⟩
  ·rename_i hw;simp only [hw] at h;exact ⟨keep a hy _,by rw [<- Act.put_comm a v undef h2];exact h⟩
 | some T =>
  simp only [hj,hl] at h ⊢;exact ⟨h.1,j7 hsj h1 h2 h.2.1,λu=>⟨keep a hy u,by rw [<- Act.put_comm a v u h2];exact h.2.2 u⟩⟩
theorem ja {j:Nat} {a:Act} {F:World->Prop} {K K':Act->(World->Prop)->Prop} (h:∀ a F,K a F->K' a F) (hh:mOp P ops W L j K a F):mOp P ops W L j K' a F:=by
 unfold mOp at *
 split
 ·rename_i o ho hl;simp only [ho,hl] at hh
  split
  ·rename_i hw;simp only [hw,if_true] at hh;obtain ⟨v,h1,h2⟩:=hh;exact ⟨v,h1,h _ _ h2⟩
  ·rename_i hw;simp only [hw] at hh;exact h _ _ hh
 ·rename_i o T ho hl;simp only [ho,hl] at hh;exact ⟨hh.1,hh.2.1,λv=>h _ _ (hh.2.2 v)⟩
 ·rename_i ho;simp only [ho] at hh
theorem fO {n i:Nat} {oi:Oper} {v:Value} {Fin:Array Bool->Act->(World->Prop)->Prop} (hi:ops[i]?=some oi) (hl:L i=none) (hsel:∀ (j:Nat) (o:Oper) cs b,ops[j]?=some o->o.op≠.select cs b)
  (ht:Region.fH md ops n=true) (hin:i<n) (hdone:∀ listed a F,Fin listed a F->∀ j∈Region.ready md ops listed,n<=j) :
  ∀ (f:Nat) (listed:Array Bool) (a:Act) (F:World->Prop),HeadInv md ops n listed ->
   (∀ j oj,ops[j]?=some oj->j≠i->listed.getD j true=false->(∀ e∈oj.after,Region.binds md e=true->e.on≠i)->oi.apart ops oj=true) ->
   i∈Region.ready md ops listed->bR P ops W oi v a ->
   dw P md ops W L n Fin f (listed.setIfInBounds i true) (a.put oi.dst v) F->dw P md ops W L n Fin (f+1) listed a F:=by
 intro f
 induction f with
 | zero =>
  intro listed a F inv _ hr hy H;have hun:=(mem_ready.1 hr).1;refine ⟨λh=>zqs,λj hj=>?_⟩;have hjn:=fM ht inv hin hun hj;refine ⟨hjn,?_⟩
  by_cases hji:j=i
  ·subst hji;exact gG hi hl hy H
  ·have:=hdone _ _ _ H j (ready_mono hj hji);omega
 | succ f ih =>
  intro listed a F inv hfree hr hy H;have hun:=(mem_ready.1 hr).1;refine ⟨λh=>zqs,λj hj=>?_⟩;have hjn:=fM ht inv hin hun hj;refine ⟨hjn,?_⟩
  by_cases hji:j=i
  ·subst hji;exact gG hi hl hy H
  ·have h1:=(H.2 j (ready_mono hj hji)).2;obtain ⟨hjun,oj,hoj,hall⟩:=mem_ready.1 hj;have hnot:∀ e∈oj.after,Region.binds md e=true->e.on≠i:=λe he hb heq=>by
    have h1:=hall e he hb;rw [heq,getD_both hun] at h1;cases h1
   have h2:=lj hoj (hfree j oj hoj hji hjun hnot) (λcs b=>hsel i oi cs b hi) (λcs b=>hsel j oj cs b hoj) hy h1;have hfree':∀ k ok,ops[k]?=some ok->k≠i->(listed.setIfInBounds j true).getD k true=false ->
     (∀ e∈ok.after,Region.binds md e=true->e.on≠i)->oi.apart ops ok=true:=λk ok hk hki hun hno=>by
    refine hfree k ok hk hki ?_ hno
    by_cases hjk:j=k
    ·subst hjk;exact hjun
    ·rw [getD_set_ne true hjk] at hun;exact hun
   refine ja (λa' F' h3=>ih (listed.setIfInBounds j true) a' F' (inv.set hj hjn) hfree' (ready_mono hr (Ne.symm hji)) h3.1 ?_) h2;rw [Array.setIfInBounds_comm _ _ hji];exact h3.2
theorem gd {n m:Nat} {late:List Nat} {Fin:Array Bool->Act->(World->Prop)->Prop} {F:World->Prop} {K:Act->Prop} (hsel:Region.noSelect ops=true)
  (ht:Region.fH md ops n=true) (hdone:∀ listed a F,Fin listed a F->∀ j∈Region.ready md ops listed,n<=j) (hL:∀ i,late.contains i=false->L i=none)
  (hK:∀ a listed,HeadInv md ops n listed->Region.pP md ops n late [] listed=true->K a->dw P md ops W L n Fin m listed a F) :
  ∀ (l:List Nat) (listed:Array Bool) (a:Act),HeadInv md ops n listed->Region.pP md ops n late l listed=true->dS P ops W K l a ->
   dw P md ops W L n Fin (l.length+m) listed a F
 | [],listed,a,inv,hB,h=>by rw [List.length_nil,Nat.zero_add];exact hK _ _ inv hB h
 | i::l,listed,a,inv,hB,h=>by
  simp only [Region.pP,Bool.and_eq_true,decide_eq_true_eq,Bool.not_eq_true'] at hB;obtain ⟨⟨⟨⟨hin,hnl⟩,hr⟩,hf⟩,hB'⟩:=hB;have hr':i∈Region.ready md ops listed:=by simpa using hr
  unfold dS at h;cases ho:ops[i]? with
  | none=>simp only [ho] at h
  | some o =>
   simp only [ho] at h;obtain ⟨v,hy,hk⟩:∃ v,bR P ops W o v a/\dS P ops W K l (a.put o.dst v):=by
    by_cases hw:Region.wanted o (yielded ops a.tmps)=true
    ·simp only [hw,if_true] at h;obtain ⟨v,h1,h2⟩:=h;exact ⟨v,.inl ⟨hw,h1⟩,h2⟩
    ·simp only [hw] at h;exact ⟨undef,.inr ⟨by simpa using hw,rfl⟩,h⟩
   rw [List.length_cons,show l.length+1+m=(l.length+m)+1 by omega];exact fO ho (hL i hnl) (Region.noSelect_spec hsel) ht hin hdone (l.length+m) listed a F inv (Region.free_spec ho hf) hr' hy
    (gd hsel ht hdone hL hK l _ _ (inv.set hr' hin) hB' hk)
def zO (md:Region.Mode) (ops:Array Oper):List Nat->Bool
 | i::j::l=>(match ops[j]? with | some o=>o.after.any λe=>Region.binds md e && e.on == i | none=>false) && zO md ops (j::l)
 | _=>true
def Ee (ops:Array Oper) (c late:List Nat):Bool:=c.all λi=>late.all λj=>match ops[i]?,ops[j]? with | some x,some y=>x.apart ops y | _,_=>false
def dval (ops:Array Oper) (a:Act) (i:Nat):Option Value:=((ops[i]?).bind (·.dst)).bind (a.tmps[·]?)
def iP (ops:Array Oper) (A:List Nat) (size:Nat):Bool:=A.all λi=>match ops[i]? with
 | some o=>(match o.dst with | some d=>decide (d<size) && (List.range ops.size).all (λj=>j == i || match ops[j]? with | some p=>p.dst != some d | none=>true) | none=>false)
 | none=>false
theorem lX {A:List Nat} {size i:Nat} (h:iP ops A size=true) (hi:i∈A):∃ o d,ops[i]?=some o/\o.dst=some d/\d<size/\∀ j p,ops[j]?=some p->j≠i->p.dst≠some d:=by
 have h1:=List.all_eq_true.1 h i hi;cases ho:ops[i]? with
 | none=>rw [ho] at h1;cases h1
 | some o =>
  rw [ho] at h1;simp only at h1;cases hd:o.dst with
  | none=>rw [hd] at h1;cases h1
  | some d =>
   rw [hd] at h1;simp only [Bool.and_eq_true,decide_eq_true_eq] at h1;refine ⟨o,d,rfl,hd,h1.1,λj p hj hji=>?_⟩;have h2:=List.all_eq_true.1 h1.2 j (List.mem_range.2 (Array.getElem?_eq_some_iff.1 hj).1);simp only [hj,Bool.or_eq_true,beq_iff_eq,hji,false_or] at h2;simpa using h2
theorem oD (a:Act) (d:Option Tmp) (v:Value):(a.put d v).tmps.size=a.tmps.size:=by cases d <;> simp [Act.put]
theorem BI {A:List Nat} {size i j:Nat} {o:Oper} (h:iP ops A size=true) (hi:i∈A) (hj:ops[j]?=some o) (hji:j≠i) (a:Act) (v:Value):dval ops (a.put o.dst v) i=dval ops a i:=by
 obtain ⟨o',d,ho',hd,_,hall⟩:=lX h hi;have h1:=hall j o hj hji;unfold dval;rw [ho'];simp only [Option.bind_some,hd];cases ho:o.dst with
 | none=>rfl
 | some e =>
  have:e≠d:=λhe=>h1 (by rw [ho,he])
  simp [Act.put,Array.getElem?_setIfInBounds_ne this]
theorem zi {A:List Nat} {i:Nat} {o:Oper} {a:Act} (h:iP ops A a.tmps.size=true) (hi:i∈A) (ho:ops[i]?=some o) (v:Value):dval ops (a.put o.dst v) i=some v:=by
 obtain ⟨o',d,ho',hd,hs,_⟩:=lX h hi;rw [ho] at ho';obtain rfl:=Option.some.inj ho';unfold dval;rw [ho];simp [Act.put,hd,hs]
def chainB (md:Region.Mode) (ops:Array Oper) (n:Nat) (ord c late:List Nat):Bool :=
 Region.noSelect ops && decide (n<=ops.size) && decide (ord.length+(c.length+late.length)=n) && late.all (λi=>decide (i<n)) && c.all (λi=>decide (i<n)) && Region.fH md ops n && Region.mE md ops && Region.seqB md ops (ops.size - n) n (Region.canon ops n) &&
  dE ops late && Region.pP md ops n (c++late) ord (Array.replicate ops.size false) && zO md ops c && Ee ops c late && decide (c.Nodup) && c.all λi=>!late.contains i
def waitsFor:List (Nat×Nat)->List Oper->List Oper
 | [],l=>l
 | p::ps,l=>waitsFor ps (eK p.1 p.2 l)
def nD (md:Region.Mode):List (Nat×Nat)->List Oper->Bool
 | [],_=>true
 | p::ps,l=>uR md l.toArray p.1 p.2 && Region.noSelect l.toArray && decide (p.1<l.length) && decide (p.2<l.length) && nD md ps (eK p.1 p.2 l)
theorem lF {Q:Exit->Act->World->Prop} (hQ:∀ c a d v w,Q (.panic c) (a.put d v) w->Q (.panic c) a w):∀ (ps:List (Nat×Nat)) (l:List Oper) (a:Act) (w:World),nD md ps l=true ->
  wpAny P md (waitsFor ps l).toArray Q (waitsFor ps l).toArray.size (Array.replicate (waitsFor ps l).toArray.size false) a w->wpAny P md l.toArray Q l.toArray.size (Array.replicate l.toArray.size false) a w
 | [],l,a,w,_,h=>h
 | p::ps,l,a,w,hB,h=>by
  simp only [nD,Bool.and_eq_true,decide_eq_true_eq] at hB;obtain ⟨⟨⟨⟨hf,hs⟩,ht⟩,hi⟩,hr⟩:=hB;have H:=lF hQ ps (eK p.1 p.2 l) a w hr h;have e:(eK p.1 p.2 l).toArray.size=l.toArray.size:=by simp [mJ]
  rw [e] at H;exact tQ (oP (gE ht)) hf hs hQ _ _ _ _ (getD_in zql (getD_replicate_false _ _)) H
end
end Ch
namespace Sq
def ndB:List Nat->Bool
 | []=>true
 | x::l=>!l.contains x && ndB l
theorem aW:∀ {l:List Nat},ndB l=true->l.Nodup
 | [],_=>List.nodup_nil
 | x::l,h=>by
  simp only [ndB,Bool.and_eq_true,Bool.not_eq_true'] at h;exact List.nodup_cons.2 ⟨by simpa using h.1,aW h.2⟩
end Sq
namespace Rg
section
variable {P:Program} {ops:Array Oper} {md:Region.Mode} {I:World->Prop} {L:Nat->Option (Value->World->Prop)}
def Late (P:Program) (o:Oper) (a:Act) (I:World->Prop) (T:Value->World->Prop):Prop :=
 ∀ w,I w->o.wp P a w (λa' w'=>∃ v,a'=a.put o.dst v/\Mod [] w w'/\T v w') (λ_ _ _=>False)
def gJ (P:Program) (o:Oper) (a:Act) (I:World->Prop) (v:Value):Prop:=Late P o a I (λu _=>u=v)
theorem jw {o:Oper} {a:Act} {T:Value->World->Prop} {K:Act->World->Prop} {Q:Exit->Act->World->Prop} {w:World} (hw:I w) (h:Late P o a I T)
  (hK:∀ v w',Mod [] w w'->T v w'->K (a.put o.dst v) w'):o.wp P a w K Q:=by
 have h3:=h w hw;unfold Oper.wp at *
 generalize (execOp a.eval o).run P w=r at *
 cases r with
 | ok n w' =>
  cases n <;> simp only [Oper.upon] at h3 ⊢
  case value u=>obtain ⟨v,e,m,t⟩:=h3;rw [e];exact hK _ _ m t
  case skip=>obtain ⟨v,e,m,t⟩:=h3;rw [e];exact hK _ _ m t
  case defer d=>obtain ⟨v,e,m,t⟩:=h3;rw [e];exact hK _ _ m t
  case enter f args =>
   refine Calls.mono h3 λe w'' he=>?_
   cases e with
   | returned u =>
    obtain ⟨v,e,m,t⟩:=he;show K (a.put o.dst u) w'';rw [e];exact hK _ _ m t
   | panicked c=>exact he.elim
   | outgrown=>obtain ⟨_,_,h⟩:=he;exact h.elim
  case row row args=>exact Rows.mono h3 λu w'' he=>by obtain ⟨v,e,m,t⟩:=he;rw [e];exact hK _ _ m t
 | halt x w'=>cases x <;> simp only [Oper.upon] at h3
theorem gQ {o:Oper} {a:Act} {v:Value} {K:Act->World->Prop} {Q:Exit->Act->World->Prop} {w:World} (hw:I w) (h:gJ P o a I v)
  (hK:∀ w',Mod [] w w'->K (a.put o.dst v) w'):o.wp P a w K Q :=
 jw hw h λu w' m hu=>by rw [hu];exact hK w' m
def bR (P:Program) (ops:Array Oper) (I:World->Prop) (o:Oper) (v:Value) (a:Act):Prop :=
 (Region.wanted o (yielded ops a.tmps)=true/\gJ P o a I v)∨(Region.wanted o (yielded ops a.tmps)=false/\v=undef)
theorem jb {o:Oper} (hs:∀ cs b,o.op≠.select cs b) {a:Act} {d:Option Tmp} {v:Value} {T:Value->World->Prop} (h1:∀ t,d=some t->t ∉ o.looksAt ops) (h2:∀ t,d=some t->o.dst≠some t)
  (h:Late P o (a.put d v) I T):Late P o a I T:=by
 intro w hw;have h3:=h w hw;unfold Oper.wp at *
 rw [execOp_put o hs a d v h1] at h3;have key:∀ (x:Value) w',(∃ u,(a.put d v).put o.dst x=(a.put d v).put o.dst u/\Mod [] w w'/\T u w')->∃ u,a.put o.dst x=a.put o.dst u/\Mod [] w w'/\T u w':=by
  rintro x w' ⟨u,e,m,t⟩;refine ⟨u,?_,m,t⟩;rw [Act.put_comm a v x h2,Act.put_comm a v u h2] at e;cases d with
  | none=>exact e
  | some t =>
   cases ho:o.dst with
   | none=>rfl
   | some s =>
    rw [ho] at e;have hne:s≠t:=λhst=>h2 t rfl (by rw [ho,hst])
    have e2:=congrArg Act.tmps e;simp only [Act.put] at e2 ⊢;have e3:a.tmps.setIfInBounds s x=a.tmps.setIfInBounds s u:=by
     apply Array.ext_getElem?;intro k;have:=congrArg (λz=>z[k]?) e2
     by_cases hk:t=k
     ·subst hk;rw [Array.getElem?_setIfInBounds_ne hne,Array.getElem?_setIfInBounds_ne hne]
     ·rwa [Array.getElem?_setIfInBounds_ne hk,Array.getElem?_setIfInBounds_ne hk] at this
    rw [e3]
 generalize (execOp a.eval o).run P w=r at *
 cases r with
 | ok n w' =>
  cases n <;> simp only [Oper.upon] at h3 ⊢
  case value u=>exact key _ _ h3
  case skip=>exact key _ _ h3
  case defer x =>
   obtain ⟨u,e,m,t⟩:=h3;have e2:=congrArg Act.defers e;exfalso;have hl:∀ (b:Act) (d:Option Tmp) (v:Value),(b.put d v).defers=b.defers:=λb d v=>by cases d <;> rfl
   have e3:x::a.defers=a.defers:=by simpa only [hl] using e2
   have:=congrArg List.length e3;simp at this
  case enter f args =>
   refine Calls.mono h3 λe w'' he=>?_
   cases e with
   | returned u=>exact key _ _ he
   | panicked c=>exact he.elim
   | outgrown=>obtain ⟨_,_,h⟩:=he;exact h.elim
  case row row args=>exact Rows.mono h3 λu w'' he=>key _ _ he
 | halt x w'=>cases x <;> simp only [Oper.upon] at h3
theorem late_put' {o:Oper} (hs:∀ cs b,o.op≠.select cs b) {a:Act} {d:Option Tmp} {v:Value} {T:Value->World->Prop} (h1:∀ t,d=some t->t ∉ o.looksAt ops) (h2:∀ t,d=some t->o.dst≠some t)
  (h:Late P o a I T):Late P o (a.put d v) I T:=by
 intro w hw;have h3:=h w hw;unfold Oper.wp at *
 rw [execOp_put o hs a d v h1];have key:∀ (x:Value) w',(∃ u,a.put o.dst x=a.put o.dst u/\Mod [] w w'/\T u w')->∃ u,(a.put d v).put o.dst x=(a.put d v).put o.dst u/\Mod [] w w'/\T u w':=by
  rintro x w' ⟨u,e,m,t⟩;exact ⟨u,by rw [Act.put_comm a v x h2,Act.put_comm a v u h2,e],m,t⟩
 generalize (execOp a.eval o).run P w=r at *
 cases r with
 | ok n w' =>
  cases n <;> simp only [Oper.upon] at h3 ⊢
  case value u=>exact key _ _ h3
  case skip=>exact key _ _ h3
  case defer x =>
   obtain ⟨u,e,m,t⟩:=h3;have e2:=congrArg Act.defers e;exfalso;have hl:∀ (b:Act) (d:Option Tmp) (v:Value),(b.put d v).defers=b.defers:=λb d v=>by cases d <;> rfl
   have e3:x::a.defers=a.defers:=by simpa only [hl] using e2
   have:=congrArg List.length e3;simp at this
  case enter f args =>
   refine Calls.mono h3 λe w'' he=>?_
   cases e with
   | returned u=>exact key _ _ he
   | panicked c=>exact he.elim
   | outgrown=>obtain ⟨_,_,h⟩:=he;exact h.elim
  case row row args=>exact Rows.mono h3 λu w'' he=>key _ _ he
 | halt x w'=>cases x <;> simp only [Oper.upon] at h3
def gu (P:Program) (o:Oper) (a:Act) (I:World->Prop) (F:World->Prop) (T:Value->World->Prop):Prop :=
 ∀ w,I w->F w->o.wp P a w (λa' w'=>∃ v,a'=a.put o.dst v/\I w'/\T v w') (λ_ _ _=>False)
theorem j7 {o:Oper} (hs:∀ cs b,o.op≠.select cs b) {a:Act} {d:Option Tmp} {v:Value} {F:World->Prop} {T:Value->World->Prop} (h1:∀ t,d=some t->t ∉ o.looksAt ops) (h2:∀ t,d=some t->o.dst≠some t)
  (h:gu P o (a.put d v) I F T):gu P o a I F T:=by
 intro w hw hF;have h3:=h w hw hF;unfold Oper.wp at *
 rw [execOp_put o hs a d v h1] at h3;have key:∀ (x:Value) w',(∃ u,(a.put d v).put o.dst x=(a.put d v).put o.dst u/\I w'/\T u w')->∃ u,a.put o.dst x=a.put o.dst u/\I w'/\T u w':=by
  rintro x w' ⟨u,e,m,t⟩;refine ⟨u,?_,m,t⟩;rw [Act.put_comm a v x h2,Act.put_comm a v u h2] at e;cases d with
  | none=>exact e
  | some t =>
   cases ho:o.dst with
   | none=>rfl
   | some s =>
    rw [ho] at e;have hne:s≠t:=λhst=>h2 t rfl (by rw [ho,hst])
    have e2:=congrArg Act.tmps e;simp only [Act.put] at e2 ⊢;have e3:a.tmps.setIfInBounds s x=a.tmps.setIfInBounds s u:=by
     apply Array.ext_getElem?;intro k;have:=congrArg (λz=>z[k]?) e2
     by_cases hk:t=k
     ·subst hk;rw [Array.getElem?_setIfInBounds_ne hne,Array.getElem?_setIfInBounds_ne hne]
     ·rwa [Array.getElem?_setIfInBounds_ne hk,Array.getElem?_setIfInBounds_ne hk] at this
    rw [e3]
 generalize (execOp a.eval o).run P w=r at *
 cases r with
 | ok n w' =>
  cases n <;> simp only [Oper.upon] at h3 ⊢
  case value u=>exact key _ _ h3
  case skip=>exact key _ _ h3
  case defer x =>
   obtain ⟨u,e,m,t⟩:=h3;have e2:=congrArg Act.defers e;exfalso;have hl:∀ (b:Act) (d:Option Tmp) (v:Value),(b.put d v).defers=b.defers:=λb d v=>by cases d <;> rfl
   have e3:x::a.defers=a.defers:=by simpa only [hl] using e2
   have:=congrArg List.length e3;simp at this
  case enter f args =>
   refine Calls.mono h3 λe w'' he=>?_
   cases e with
   | returned u=>exact key _ _ he
   | panicked c=>exact he.elim
   | outgrown=>obtain ⟨_,_,h⟩:=he;exact h.elim
  case row row args=>exact Rows.mono h3 λu w'' he=>key _ _ he
 | halt x w'=>cases x <;> simp only [Oper.upon] at h3
theorem lateF_put' {o:Oper} (hs:∀ cs b,o.op≠.select cs b) {a:Act} {d:Option Tmp} {v:Value} {F:World->Prop} {T:Value->World->Prop} (h1:∀ t,d=some t->t ∉ o.looksAt ops) (h2:∀ t,d=some t->o.dst≠some t)
  (h:gu P o a I F T):gu P o (a.put d v) I F T:=by
 intro w hw hF;have h3:=h w hw hF;unfold Oper.wp at *
 rw [execOp_put o hs a d v h1];have key:∀ (x:Value) w',(∃ u,a.put o.dst x=a.put o.dst u/\I w'/\T u w')->∃ u,(a.put d v).put o.dst x=(a.put d v).put o.dst u/\I w'/\T u w':=by
  rintro x w' ⟨u,e,m,t⟩;exact ⟨u,by rw [Act.put_comm a v x h2,Act.put_comm a v u h2,e],m,t⟩
 generalize (execOp a.eval o).run P w=r at *
 cases r with
 | ok n w' =>
  cases n <;> simp only [Oper.upon] at h3 ⊢
  case value u=>exact key _ _ h3
  case skip=>exact key _ _ h3
  case defer x =>
   obtain ⟨u,e,m,t⟩:=h3;have e2:=congrArg Act.defers e;exfalso;have hl:∀ (b:Act) (d:Option Tmp) (v:Value),(b.put d v).defers=b.defers:=λb d v=>by cases d <;> rfl
   have e3:x::a.defers=a.defers:=by simpa only [hl] using e2
   have:=congrArg List.length e3;simp at this
  case enter f args =>
   refine Calls.mono h3 λe w'' he=>?_
   cases e with
   | returned u=>exact key _ _ he
   | panicked c=>exact he.elim
   | outgrown=>obtain ⟨_,_,h⟩:=he;exact h.elim
  case row row args=>exact Rows.mono h3 λu w'' he=>key _ _ he
 | halt x w'=>cases x <;> simp only [Oper.upon] at h3
theorem fC {o:Oper} {a:Act} {F:World->Prop} {T:Value->World->Prop} {K:Act->World->Prop} {Q:Exit->Act->World->Prop} {w:World} (hw:I w) (hF:F w) (h:gu P o a I F T)
  (hK:∀ v w',I w'->T v w'->K (a.put o.dst v) w'):o.wp P a w K Q:=by
 have h3:=h w hw hF;unfold Oper.wp at *
 generalize (execOp a.eval o).run P w=r at *
 cases r with
 | ok n w' =>
  cases n <;> simp only [Oper.upon] at h3 ⊢
  case value u=>obtain ⟨v,e,m,t⟩:=h3;rw [e];exact hK _ _ m t
  case skip=>obtain ⟨v,e,m,t⟩:=h3;rw [e];exact hK _ _ m t
  case defer d=>obtain ⟨v,e,m,t⟩:=h3;rw [e];exact hK _ _ m t
  case enter f args =>
   refine Calls.mono h3 λe w'' he=>?_
   cases e with
   | returned u =>
    obtain ⟨v,e,m,t⟩:=he;show K (a.put o.dst u) w'';rw [e];exact hK _ _ m t
   | panicked c=>exact he.elim
   | outgrown=>obtain ⟨_,_,h⟩:=he;exact h.elim
  case row row args=>exact Rows.mono h3 λu w'' he=>by obtain ⟨v,e,m,t⟩:=he;rw [e];exact hK _ _ m t
 | halt x w'=>cases x <;> simp only [Oper.upon] at h3
variable (hI:∀ w w',I w->Mod [] w w'->I w')
include hI
omit hI
end
def iU (Post:World->Prop) (r:Value) (v:Value) (w:World):Prop:=v=r/\Post w
theorem cZ {Post:World->Prop} (hP:aG Post) (r v:Value):aG (iU Post r v):=λw w' h k=>⟨h.1,hP _ _ h.2 k⟩
end Rg
namespace Sn
abbrev ez:=Value->(World->Prop)->World->Prop
section
variable {P:Program} {ops:Array Oper} {md:Region.Mode} {I:World->Prop} {L:Nat->Option ez}
def mOp (P:Program) (ops:Array Oper) (I:World->Prop) (L:Nat->Option ez) (i:Nat) (K:Act->(World->Prop)->Prop) (a:Act) (F:World->Prop):Prop :=
 match ops[i]?,L i with
 | some o,none=>if Region.wanted o (yielded ops a.tmps) then ∃ v,Rg.gJ P o a I v/\K (a.put o.dst v) F else K (a.put o.dst undef) F
 | some o,some T=>Region.wanted o (yielded ops a.tmps)=true/\Rg.gu P o a I F (λv=>T v F)/\∀ v,(∃ w,I w/\T v F w)->K (a.put o.dst v) (T v F)
 | none,_=>False
def dw (P:Program) (md:Region.Mode) (ops:Array Oper) (I:World->Prop) (L:Nat->Option ez) (n:Nat) (Fin:Array Bool->Act->(World->Prop)->Prop):Nat->Array Bool->Act->(World->Prop)->Prop
 | 0,listed,a,F=>Fin listed a F
 | f+1,listed,a,F=>Region.ready md ops listed≠[]/\∀ i∈Region.ready md ops listed,i<n/\mOp P ops I L i (dw P md ops I L n Fin f (listed.setIfInBounds i true)) a F
variable (hI:∀ w w',I w->Mod [] w w'->I w')
include hI
theorem gF {i:Nat} {a:Act} {F:World->Prop} {K:Act->(World->Prop)->Prop} {K':Act->World->Prop} {Q:Exit->Act->World->Prop} {w:World}
  (hT:∀ i T,L i=some T->∀ v F,aG F->aG (T v F)) (hs:aG F) (hw:I w) (hF:F w) (h:∀ a F w',I w'->aG F->F w'->K a F->K' a w') (hh:mOp P ops I L i K a F):wpOp P ops Q i K' a w:=by
 unfold mOp at hh;unfold wpOp
 split at hh
 ·rename_i o ho hl;simp only [ho]
  split
  ·rename_i hwn;simp only [hwn,if_true] at hh;obtain ⟨v,h1,h2⟩:=hh;exact .inl (Rg.gQ hw h1 λw' m=>h _ _ _ (hI _ _ hw m) hs (hs _ _ hF m) h2)
  ·rename_i hwn;simp only [hwn] at hh;exact h _ _ _ hw hs hF hh
 ·rename_i o T ho hl;obtain ⟨hg,h1,h2⟩:=hh;simp only [ho,hg,if_true];exact .inl (Rg.fC hw hF h1 λv w' m t=>h _ _ _ m (hT i T hl v _ hs) t (h2 v ⟨w',m,t⟩))
 ·exact hh.elim
theorem dJ {n g:Nat} {Fin:Array Bool->Act->(World->Prop)->Prop} {Q:Exit->Act->World->Prop} (hT:∀ i T,L i=some T->∀ v F,aG F->aG (T v F))
  (hFin:∀ listed a F w,I w->F w->Fin listed a F->wpAny P md ops Q g listed a w) :
  ∀ (f:Nat) (listed:Array Bool) (a:Act) (F:World->Prop) (w:World),aG F->I w->F w->dw P md ops I L n Fin f listed a F->wpAny P md ops Q (f+g) listed a w
 | 0,listed,a,F,w,_,hw,hF,h=>by rw [Nat.zero_add];exact hFin _ _ _ _ hw hF h
 | f+1,listed,a,F,w,hs,hw,hF,h=>by
  rw [show f+1+g=(f+g)+1 by omega];exact ⟨λh0=>absurd h0 h.1,λi hi=>gF hI hT hs hw hF (λa' F' w' hw' hs' hF' h'=>dJ hT hFin f _ a' F' w' hs' hw' hF' h') (h.2 i hi).2⟩
omit hI
theorem gG {i:Nat} {o:Oper} {v:Value} {a:Act} {F:World->Prop} (hi:ops[i]?=some o) (hl:L i=none) (hy:Rg.bR P ops I o v a) {K:Act->(World->Prop)->Prop} (h:K (a.put o.dst v) F):mOp P ops I L i K a F:=by
 unfold mOp;simp only [hi,hl];rcases hy with ⟨hw,hv⟩ | ⟨hw,rfl⟩
 ·simp only [hw,if_true];exact ⟨v,hv,h⟩
 ·simp only [hw,Bool.false_eq_true,if_false];exact h
theorem lj {j:Nat} {oi oj:Oper} {v:Value} (hj:ops[j]?=some oj) (hap:oi.apart ops oj=true)
  (hsi:∀ cs b,oi.op≠.select cs b) (hsj:∀ cs b,oj.op≠.select cs b) {K:Act->(World->Prop)->Prop} {a:Act} {F:World->Prop}
  (hy:Rg.bR P ops I oi v a) (h:mOp P ops I L j K (a.put oi.dst v) F) :
  mOp P ops I L j (λa' F'=>Rg.bR P ops I oi v a'/\K (a'.put oi.dst v) F') a F:=by
 obtain ⟨h1,h2,h3⟩:=Oper.apart_spec hap;have h2':∀ d,oj.dst=some d->oi.dst≠some d:=λd hd hi'=>h2 d hi' hd
 have keep:∀ (a:Act),Rg.bR P ops I oi v a->∀ u,Rg.bR P ops I oi v (a.put oj.dst u):=λa hy u=>by
  unfold Rg.bR at *
  rw [wanted_put oi a oj.dst u h3];exact hy.imp (λhh=>⟨hh.1,Rg.late_put' hsi h3 h2' hh.2⟩) id
 unfold mOp at *
 cases hl:L j with
 | none =>
  simp only [hj,hl] at h ⊢;rw [wanted_put oj a oi.dst v h1] at h
  split
  ·rename_i hw;simp only [hw,if_true] at h;obtain ⟨u,hu,hn⟩:=h;exact ⟨u,Rg.jb hsj h1 h2 hu,keep a hy u,by rw [<- Act.put_comm a v u h2];exact hn⟩
  ·rename_i hw;simp only [hw] at h;exact ⟨keep a hy _,by rw [<- Act.put_comm a v undef h2];exact h⟩
 | some T =>
  simp only [hj,hl] at h ⊢;rw [wanted_put oj a oi.dst v h1] at h;exact ⟨h.1,Rg.j7 hsj h1 h2 h.2.1,λu hu=>⟨keep a hy u,by rw [<- Act.put_comm a v u h2];exact h.2.2 u hu⟩⟩
theorem ja {j:Nat} {a:Act} {F:World->Prop} {K K':Act->(World->Prop)->Prop} (h:∀ a F,K a F->K' a F) (hh:mOp P ops I L j K a F):mOp P ops I L j K' a F:=by
 unfold mOp at *
 split
 ·rename_i o ho hl;simp only [ho,hl] at hh
  split
  ·rename_i hw;simp only [hw,if_true] at hh;obtain ⟨v,h1,h2⟩:=hh;exact ⟨v,h1,h _ _ h2⟩
  ·rename_i hw;simp only [hw] at hh;exact h _ _ hh
 ·rename_i o T ho hl;simp only [ho,hl] at hh;exact ⟨hh.1,hh.2.1,λv hv=>h _ _ (hh.2.2 v hv)⟩
 ·rename_i ho;simp only [ho] at hh
theorem fO {n i:Nat} {oi:Oper} {v:Value} {Fin:Array Bool->Act->(World->Prop)->Prop} (hi:ops[i]?=some oi) (hl:L i=none) (hsel:∀ (j:Nat) (o:Oper) cs b,ops[j]?=some o->o.op≠.select cs b)
  (ht:Region.fH md ops n=true) (hin:i<n) (hdone:∀ listed a F,Fin listed a F->∀ j∈Region.ready md ops listed,n<=j) :
  ∀ (f:Nat) (listed:Array Bool) (a:Act) (F:World->Prop),HeadInv md ops n listed ->
   (∀ j oj,ops[j]?=some oj->j≠i->listed.getD j true=false->(∀ e∈oj.after,Region.binds md e=true->e.on≠i)->oi.apart ops oj=true) ->
   i∈Region.ready md ops listed->Rg.bR P ops I oi v a ->
   dw P md ops I L n Fin f (listed.setIfInBounds i true) (a.put oi.dst v) F->dw P md ops I L n Fin (f+1) listed a F:=by
 intro f
 induction f with
 | zero =>
  intro listed a F inv _ hr hy H;have hun:=(mem_ready.1 hr).1;refine ⟨λh=>zqs,λj hj=>?_⟩;have hjn:=fM ht inv hin hun hj;refine ⟨hjn,?_⟩
  by_cases hji:j=i
  ·subst hji;exact gG hi hl hy H
  ·have:=hdone _ _ _ H j (ready_mono hj hji);omega
 | succ f ih =>
  intro listed a F inv hfree hr hy H;have hun:=(mem_ready.1 hr).1;refine ⟨λh=>zqs,λj hj=>?_⟩;have hjn:=fM ht inv hin hun hj;refine ⟨hjn,?_⟩
  by_cases hji:j=i
  ·subst hji;exact gG hi hl hy H
  ·have h1:=(H.2 j (ready_mono hj hji)).2;obtain ⟨hjun,oj,hoj,hall⟩:=mem_ready.1 hj;have hnot:∀ e∈oj.after,Region.binds md e=true->e.on≠i:=λe he hb heq=>by
    have h1:=hall e he hb;rw [heq,getD_both hun] at h1;cases h1
   have h2:=lj hoj (hfree j oj hoj hji hjun hnot) (λcs b=>hsel i oi cs b hi) (λcs b=>hsel j oj cs b hoj) hy h1;have hfree':∀ k ok,ops[k]?=some ok->k≠i->(listed.setIfInBounds j true).getD k true=false ->
     (∀ e∈ok.after,Region.binds md e=true->e.on≠i)->oi.apart ops ok=true:=λk ok hk hki hun hno=>by
    refine hfree k ok hk hki ?_ hno
    by_cases hjk:j=k
    ·subst hjk;exact hjun
    ·rw [getD_set_ne true hjk] at hun;exact hun
   refine ja (λa' F' h3=>ih (listed.setIfInBounds j true) a' F' (inv.set hj hjn) hfree' (ready_mono hr (Ne.symm hji)) h3.1 ?_) h2;rw [Array.setIfInBounds_comm _ _ hji];exact h3.2
def gY (P:Program) (ops:Array Oper) (I:World->Prop) (E:Act->(World->Prop)->Prop):List (Nat×Option ez)->Act->(World->Prop)->Prop
 | [],a,F=>E a F
 | p::l,a,F=>match ops[p.1]?,p.2 with
  | none,_=>False
  | some o,none=>if Region.wanted o (yielded ops a.tmps) then ∃ v,Rg.gJ P o a I v/\gY P ops I E l (a.put o.dst v) F else gY P ops I E l (a.put o.dst undef) F
  | some o,some T=>Region.wanted o (yielded ops a.tmps)=true/\Rg.gu P o a I F (λv=>T v F)/\∀ v,(∃ w,I w/\T v F w)->gY P ops I E l (a.put o.dst v) (T v F)
def mz (md:Region.Mode) (ops:Array Oper) (n:Nat):List (Nat×Bool)->Array Bool->Bool
 | [],listed=>Region.seqB md ops (ops.size - n) n listed
 | p::l,listed=>decide (p.1<n) && (if p.2 then Region.ready md ops listed == [p.1] else (Region.ready md ops listed).contains p.1 && Region.free md ops listed p.1) && mz md ops n l (listed.setIfInBounds p.1 true)
theorem iJ {n:Nat} {E:Act->(World->Prop)->Prop} (hsel:Region.noSelect ops=true) (ht:Region.fH md ops n=true) :
  ∀ (l:List (Nat×Option ez)) (listed:Array Bool) (a:Act) (F:World->Prop),HeadInv md ops n listed->mz md ops n (l.map λp=>(p.1,p.2.isSome)) listed=true->(∀ p∈l,L p.1=p.2)->gY P ops I E l a F ->
   dw P md ops I L n (λlisted' a' F'=>Region.seqB md ops (ops.size - n) n listed'=true/\E a' F') l.length listed a F
 | [],listed,a,F,inv,hB,hL,h=>⟨hB,h⟩
 | (i,none)::l,listed,a,F,inv,hB,hL,h=>by
  simp only [List.map_cons,mz,Bool.and_eq_true,decide_eq_true_eq,Option.isSome_none,Bool.false_eq_true,if_false] at hB;obtain ⟨⟨hin,hr,hf⟩,hB'⟩:=hB;have hr':i∈Region.ready md ops listed:=by simpa using hr
  unfold gY at h;cases ho:ops[i]? with
  | none=>simp only [ho] at h
  | some o =>
   simp only [ho] at h;obtain ⟨v,hy,hk⟩:∃ v,Rg.bR P ops I o v a/\gY P ops I E l (a.put o.dst v) F:=by
    by_cases hw:Region.wanted o (yielded ops a.tmps)=true
    ·simp only [hw,if_true] at h;obtain ⟨v,h1,h2⟩:=h;exact ⟨v,.inl ⟨hw,h1⟩,h2⟩
    ·simp only [hw] at h;exact ⟨undef,.inr ⟨by simpa using hw,rfl⟩,h⟩
   exact fO ho (hL (i,none) zk) (Region.noSelect_spec hsel) ht hin (λlisted a F hf=>seqB_ready hf.1) l.length listed a F inv (Region.free_spec ho hf) hr' hy
    (iJ hsel ht l _ _ _ (inv.set hr' hin) hB' (λp hp=>hL p (List.mem_cons_of_mem _ hp)) hk)
 | (i,some T)::l,listed,a,F,inv,hB,hL,h=>by
  simp only [List.map_cons,mz,Bool.and_eq_true,decide_eq_true_eq,Option.isSome_some,if_true] at hB;obtain ⟨⟨hin,hr⟩,hB'⟩:=hB;have hr':Region.ready md ops listed=[i]:=by simpa using hr
  unfold gY at h;cases ho:ops[i]? with
  | none=>simp only [ho] at h
  | some o =>
   simp only [ho] at h;refine ⟨by rw [hr'];simp,λj hj=>?_⟩;rw [hr'] at hj;obtain rfl:=mI.1 hj;refine ⟨hin,?_⟩;unfold mOp;simp only [ho,hL (j,some T) zk];exact ⟨h.1,h.2.1,λv hv=>iJ hsel ht l _ _ _ (inv.set (by rw [hr'];simp) hin) hB' (λp hp=>hL p (List.mem_cons_of_mem _ hp)) (h.2.2 v hv)⟩
def qb (l:List (Nat×Option ez)) (i:Nat):Option ez:=(l.find? λp=>p.1 == i).bind (·.2)
theorem ml:∀ (l:List (Nat×Option ez)),(l.map (·.1)).Nodup->∀ p∈l,qb l p.1=p.2
 | q::l,hn,p,hp=>by
  simp only [List.map_cons,List.nodup_cons] at hn;unfold qb
  by_cases hq:q.1=p.1
  ·rw [List.find?_cons_of_pos zpd];rcases List.mem_cons.1 hp with h | h
   ·rw [h];rfl
   ·exact absurd (by rw [hq];exact mM h) hn.1
  ·rw [List.find?_cons_of_neg zpd];rcases List.mem_cons.1 hp with h | h
   ·exact absurd (by rw [h]) hq
   ·exact ml l hn.2 p h
theorem pq {l:List (Nat×Option ez)} {i:Nat} {T:ez} (h:qb l i=some T):(i,some T)∈l:=by
 unfold qb at h;cases hf:l.find? (λp=>p.1 == i) with
 | none=>rw [hf] at h;cases h
 | some p =>
  rw [hf] at h;have h1:=List.find?_some hf;have h2:=List.mem_of_find?_eq_some hf;simp only [beq_iff_eq] at h1;obtain ⟨q,r⟩:=p;simp only at h1;subst h1;simp only [Option.bind_some] at h;subst h;exact h2
structure dL (P:Program) (ops:Array Oper) (I:World->Prop) (E:Act->(World->Prop)->Prop) (l:List (Nat×Option ez)) (a:Act) (F:World->Prop):Prop where
 o:gY P ops I E l a F
def ndB:List Nat->Bool
 | []=>true
 | x::l=>!l.contains x && ndB l
theorem aW:∀ {l:List Nat},ndB l=true->l.Nodup
 | [],_=>List.nodup_nil
 | x::l,h=>by
  simp only [ndB,Bool.and_eq_true,Bool.not_eq_true'] at h;exact List.nodup_cons.2 ⟨by simpa using h.1,aW h.2⟩
include hI in
theorem aL {id:Nat} {Q:Exit->Act->World->Prop} {a:Act} {w:World} {l:List Oper} (n:Nat) (toks:List (Nat×Option ez))
  (hm:P.follows .mixedOrders=true) (hB:(Region.noSelect l.toArray && decide (n<=l.length) && decide (toks.length=n) && Region.fH .any l.toArray n && mz .any l.toArray n (toks.map λp=>(p.1,p.2.isSome)) (Array.replicate l.toArray.size false))=true)
  (hn:(toks.map (·.1)).Nodup) (hT:∀ p∈toks,∀ T,p.2=some T->∀ v F,aG F->aG (T v F)) (hw:I w.drew) {F0:World->Prop} (hF0:aG F0) (hw0:F0 w.drew)
  (h:dL P l.toArray I (λa' F=>∀ w',I w'->F w'->wpList P l.toArray Q (l.drop n) a' w') toks a F0) :
  (Code.region id l.toArray true).wp P Q a w:=by
 simp only [Bool.and_eq_true,decide_eq_true_eq] at hB;obtain ⟨⟨⟨⟨hsel,hnl⟩,hlen⟩,ht⟩,hB'⟩:=hB;have inv0:HeadInv .any l.toArray n (Array.replicate l.toArray.size false) :=
  ⟨by simp,λj oj _ hl=>zqk,λt _ ht=>getD_in zpc (getD_replicate_false _ _)⟩
 have H:=iJ (P:=P) (I:=I) (L:=qb toks) hsel ht toks _ a _ inv0 hB' (ml toks hn) h.o;refine wp_region_any hm ?_;have hdl:(l.drop n).length=l.toArray.size - n:=by simp
 have hfin:=dJ hI (P:=P) (md:=.any) (ops:=l.toArray) (Q:=Q) (g:=l.toArray.size - n) (λi T hi v F hF=>hT _ (pq hi) T rfl v F hF) (λlisted a F w' hw hF hf=>by
  have:=wpAny_of_seq (md:=.any) (Q':=Q) (l.drop n) n listed a w' (λj=>by simp [List.getElem?_drop]) zqz (hf.2 w' hw hF)
  rwa [hdl] at this) _ _ _ _ w.drew hF0 hw hw0 H
 have hl2:toks.length+(l.toArray.size - n)=l.toArray.size:=by simp;omega
 rwa [hl2] at hfin
theorem bJ {E:Act->(World->Prop)->Prop} {a:Act} {F:World->Prop} (h:E a F):dL P ops I E [] a F:=⟨h⟩
theorem qR {w0:World} (hw0:I w0) {E:Act->(World->Prop)->Prop} {l:List (Nat×Option ez)} {a a':Act} {F:World->Prop} {i:Nat} {o:Oper} (ho:ops[i]?=some o) (hg:Region.wanted o (yielded ops a.tmps)=true) (hd:a'.defers=a.defers)
  (h:∀ w,I w->∀ (K:Act->World->Prop) (Q:Exit->Act->World->Prop),(∀ w',Mod [] w w'->K a' w')->o.wp P a w K Q) (hr:dL P ops I E l a' F):dL P ops I E ((i,none)::l) a F:=by
 refine ⟨?_⟩;obtain ⟨u,hu⟩:=qp (R:=λ_=>True) hd (h w0 hw0 _ _ λw' _=>⟨rfl,trivial⟩);unfold gY;simp only [ho];rw [if_pos hg];refine ⟨u,λw hw=>h w hw _ _ λw' m=>⟨u,hu.symm,m,rfl⟩,?_⟩;rw [hu];exact hr.o
theorem zF {E:Act->(World->Prop)->Prop} {l:List (Nat×Option ez)} {a a':Act} {F:World->Prop} {i:Nat} {o:Oper} (ho:ops[i]?=some o) (hg:Region.wanted o (yielded ops a.tmps)=false) (hp:a.put o.dst undef=a') (hr:dL P ops I E l a' F):dL P ops I E ((i,none)::l) a F:=by
 refine ⟨?_⟩;unfold gY;simp only [ho];rw [if_neg (by rw [hg];exact Bool.false_ne_true),hp];exact hr.o
theorem pO {E:Act->(World->Prop)->Prop} {l:List (Nat×Option ez)} {a:Act} {F:World->Prop} {T:ez} {f:Value->Act} {i:Nat} {o:Oper} (ho:ops[i]?=some o) (hg:Region.wanted o (yielded ops a.tmps)=true) (hf:∀ v,f v=a.put o.dst v)
  (h:∀ w,I w->F w->∀ (K:Act->World->Prop) (Q:Exit->Act->World->Prop),(∀ v w',I w'->T v F w'->K (f v) w')->o.wp P a w K Q)
  (hk:∀ v,(∃ w,I w/\T v F w)->dL P ops I E l (f v) (T v F)):dL P ops I E ((i,some T)::l) a F:=by
 refine ⟨?_⟩;unfold gY;simp only [ho];refine ⟨hg,λw hw hF=>h w hw hF _ _ λv w' m t=>⟨v,hf v,m,t⟩,λv hv=>?_⟩;rw [<- hf v];exact (hk v hv).o
theorem kV {l0:List Oper} {E:Act->(World->Prop)->Prop} {l:List (Nat×Option ez)} {ts:List Value} {df:List Deferred} {F:World->Prop} {T:ez} {g:Value->List Value} {i:Nat} (d:Nat) (o:Oper) (ho:l0[i]?=some o) (hg:Region.wanted o (yielded l0.toArray ts.toArray)=true) (hd:o.dst=some d) (hf:∀ v,ts.set d v=g v)
  (h:∀ w,I w->F w->∀ (K:Act->World->Prop) (Q:Exit->Act->World->Prop),(∀ v w',I w'->T v F w'->K { tmps:=(g v).toArray,defers:=df } w')->o.wp P { tmps:=ts.toArray,defers:=df } w K Q)
  (hk:∀ v,(∃ w,I w/\T v F w)->dL P l0.toArray I E l { tmps:=(g v).toArray,defers:=df } (T v F)):dL P l0.toArray I E ((i,some T)::l) { tmps:=ts.toArray,defers:=df } F :=
 pO (f:=λv=>{ tmps:=(g v).toArray,defers:=df }) (by simpa using ho) hg (λv=>by rw [hd];unfold Act.put;simp only [List.setIfInBounds_toArray,hf]) h hk
end
end Sn
namespace Sw
abbrev ez:=Value->World->Prop
section
variable {P:Program} {ops:Array Oper} {I:World->Prop}
def up (l:List (Nat×Option ez)):List (Nat×Option Sn.ez):=l.map λp=>(p.1,p.2.map λT v _=>T v)
structure dL (P:Program) (ops:Array Oper) (I:World->Prop) (E:Act->(World->Prop)->Prop) (l:List (Nat×Option ez)) (a:Act) (F:World->Prop):Prop where
 o:Sn.dL P ops I E (up l) a F
theorem Cr (l:List (Nat×Option ez)):(up l).map (λp=>(p.1,p.2.isSome))=l.map λp=>(p.1,p.2.isSome):=by simp [up]
theorem zK (l:List (Nat×Option ez)):(up l).map (·.1)=l.map (·.1):=by simp [up]
theorem sE {l:List (Nat×Option ez)} (hT:∀ p∈l,∀ T,p.2=some T->∀ v,aG (T v)):∀ p∈up l,∀ T,p.2=some T->∀ v F,aG F->aG (T v F):=by
 intro p hp T hT2 v F _;obtain ⟨q,hq,rfl⟩:=List.mem_map.1 hp;obtain ⟨T0,h0,rfl⟩:=Option.map_eq_some_iff.1 hT2;exact hT q hq T0 h0 v
theorem aL (hI:∀ w w',I w->Mod [] w w'->I w') {id:Nat} {Q:Exit->Act->World->Prop} {a:Act} {w:World} {l:List Oper} (n:Nat) (toks:List (Nat×Option ez))
  (hm:P.follows .mixedOrders=true) (hB:(Region.noSelect l.toArray && decide (n<=l.length) && decide (toks.length=n) && Region.fH .any l.toArray n && Sn.mz .any l.toArray n (toks.map λp=>(p.1,p.2.isSome)) (Array.replicate l.toArray.size false))=true)
  (hn:(toks.map (·.1)).Nodup) (hT:∀ p∈toks,∀ T,p.2=some T->∀ v,aG (T v)) (hw:I w.drew) {F0:World->Prop} (hF0:aG F0) (hw0:F0 w.drew)
  (h:dL P l.toArray I (λa' F=>∀ w',I w'->F w'->wpList P l.toArray Q (l.drop n) a' w') toks a F0) :
  (Code.region id l.toArray true).wp P Q a w :=
 Sn.aL hI n (up toks) hm zqt (by rw [zK];exact hn) (sE hT) hw hF0 hw0 h.o
theorem bJ {E:Act->(World->Prop)->Prop} {a:Act} {F:World->Prop} (h:E a F):dL P ops I E [] a F:=⟨Sn.bJ h⟩
theorem qR {w0:World} (hw0:I w0) {E:Act->(World->Prop)->Prop} {l:List (Nat×Option ez)} {a a':Act} {F:World->Prop} {i:Nat} {o:Oper} (ho:ops[i]?=some o) (hg:Region.wanted o (yielded ops a.tmps)=true) (hd:a'.defers=a.defers)
  (h:∀ w,I w->∀ (K:Act->World->Prop) (Q:Exit->Act->World->Prop),(∀ w',Mod [] w w'->K a' w')->o.wp P a w K Q) (hr:dL P ops I E l a' F):dL P ops I E ((i,none)::l) a F:=⟨Sn.qR hw0 ho hg hd h hr.o⟩
theorem zF {E:Act->(World->Prop)->Prop} {l:List (Nat×Option ez)} {a a':Act} {F:World->Prop} {i:Nat} {o:Oper} (ho:ops[i]?=some o) (hg:Region.wanted o (yielded ops a.tmps)=false) (hp:a.put o.dst undef=a') (hr:dL P ops I E l a' F):dL P ops I E ((i,none)::l) a F:=⟨Sn.zF ho hg hp hr.o⟩
theorem pO {E:Act->(World->Prop)->Prop} {l:List (Nat×Option ez)} {a:Act} {F:World->Prop} {T:ez} {f:Value->Act} {i:Nat} {o:Oper} (ho:ops[i]?=some o) (hg:Region.wanted o (yielded ops a.tmps)=true) (hf:∀ v,f v=a.put o.dst v)
  (h:∀ w,I w->F w->∀ (K:Act->World->Prop) (Q:Exit->Act->World->Prop),(∀ v w',I w'->T v w'->K (f v) w')->o.wp P a w K Q)
  (hk:∀ v,(∃ w,I w/\T v w)->dL P ops I E l (f v) (λw=>T v w)):dL P ops I E ((i,some T)::l) a F:=⟨Sn.pO ho hg hf h λv hv=>(hk v hv).o⟩
end
end Sw
namespace Sa
abbrev Fc:=World->Prop
inductive Tok where
 | v
 | x (T:Fc)
 | al (f:Nat->Value) (T:Nat->Fc)
section
variable {P:Program} {ops:Array Oper} {md:Region.Mode} {I:World->Prop} {J:World->World->Prop}
def Run (P:Program) (o:Oper) (a:Act) (pre:Fc) (post:World->Value->World->Prop):Prop:=∀ w0,pre w0->Rg.gu P o a (λ_=>True) (λw=>w=w0) (post w0)
theorem Run.weak {o:Oper} {a:Act} {pre pre':Fc} {post:World->Value->World->Prop} (h:Run P o a pre post) (hp:∀ w,pre' w->pre w):Run P o a pre' post:=λw0 h0=>h w0 (hp w0 h0)
theorem Run.put {o:Oper} (hs:∀ cs b,o.op≠.select cs b) {a:Act} {d:Option Tmp} {v:Value} {pre:Fc} {post:World->Value->World->Prop} (h1:∀ t,d=some t->t ∉ o.looksAt ops) (h2:∀ t,d=some t->o.dst≠some t)
  (h:Run P o (a.put d v) pre post):Run P o a pre post:=λw0 h0=>Rg.j7 hs h1 h2 (h w0 h0)
theorem Run.put' {o:Oper} (hs:∀ cs b,o.op≠.select cs b) {a:Act} {d:Option Tmp} {v:Value} {pre:Fc} {post:World->Value->World->Prop} (h1:∀ t,d=some t->t ∉ o.looksAt ops) (h2:∀ t,d=some t->o.dst≠some t)
  (h:Run P o a pre post):Run P o (a.put d v) pre post:=λw0 h0=>Rg.lateF_put' hs h1 h2 (h w0 h0)
def EE (u:Value) (w0:World) (v:Value) (w:World):Prop:=v=u/\Mod [] w0 w
def ED (I:World->Prop) (J:World->World->Prop) (r:Value) (T:Fc) (w0:World) (v:Value) (w:World):Prop:=v=r/\I w/\J w0 w/\T w
def EF (f:Nat->Value) (T:Nat->Fc) (w0:World) (v:Value) (w:World):Prop:=∃ b,v=f b/\Mod [] w0 w/\T b w
def step (P:Program) (ops:Array Oper) (I:World->Prop) (J:World->World->Prop) (p:Nat×Tok) (K:Act->Fc->Fc->Prop) (a:Act) (F G:Fc):Prop :=
 match ops[p.1]? with
 | none=>False
 | some o=>match p.2 with
  | .v=>if Region.wanted o (yielded ops a.tmps)=true then ∃ u,Run P o a (λw=>I w/\G w) (EE u)/\K (a.put o.dst u) F G else K (a.put o.dst undef) F G
  | .x T=>Region.wanted o (yielded ops a.tmps)=true/\∃ r,Run P o a (λw=>I w/\F w) (ED I J r T)/\K (a.put o.dst r) T G
  | .al f T=>Region.wanted o (yielded ops a.tmps)=true/\Run P o a I (EF f T)/\∀ b,K (a.put o.dst (f b)) F (λw=>G w/\T b w)
def game (P:Program) (ops:Array Oper) (I:World->Prop) (J:World->World->Prop) (E:Act->Fc->Fc->Prop):List (Nat×Tok)->Act->Fc->Fc->Prop
 | []=>E
 | p::l=>step P ops I J p (game P ops I J E l)
def uJ (K:Act->Fc->Fc->Prop):Prop:=∀ a F G G',(∀ w,G' w->G w)->K a F G->K a F G'
theorem xL {p:Nat×Tok} {K K':Act->Fc->Fc->Prop} (h:∀ a F G,K a F G->K' a F G) {a:Act} {F G:Fc} (hh:step P ops I J p K a F G):step P ops I J p K' a F G:=by
 unfold step at *
 split at hh
 ·exact hh
 ·rename_i o ho
  split at hh
  ·split at hh
   ·rename_i hw;rw [if_pos hw];obtain ⟨u,h1,h2⟩:=hh;exact ⟨u,h1,h _ _ _ h2⟩
   ·rename_i hw;rw [if_neg hw];exact h _ _ _ hh
  ·obtain ⟨h1,r,h2,h3⟩:=hh;exact ⟨h1,r,h2,h _ _ _ h3⟩
  ·exact ⟨hh.1,hh.2.1,λb=>h _ _ _ (hh.2.2 b)⟩
theorem xM {p:Nat×Tok} {K:Act->Fc->Fc->Prop} (hK:uJ K):uJ (step P ops I J p K):=by
 intro a F G G' hG hh;unfold step at *
 split at hh
 ·exact hh
 ·rename_i o ho
  split at hh
  ·split at hh
   ·rename_i hw;rw [if_pos hw];obtain ⟨u,h1,h2⟩:=hh;exact ⟨u,h1.weak λw h=>⟨h.1,hG w h.2⟩,hK _ _ _ _ hG h2⟩
   ·rename_i hw;rw [if_neg hw];exact hK _ _ _ _ hG hh
  ·obtain ⟨h1,r,h2,h3⟩:=hh;exact ⟨h1,r,h2,hK _ _ _ _ hG h3⟩
  ·exact ⟨hh.1,hh.2.1,λb=>hK _ _ _ _ (λw h=>⟨hG w h.1,h.2⟩) (hh.2.2 b)⟩
theorem qG {E:Act->Fc->Fc->Prop} (hE:uJ E):∀ l,uJ (game P ops I J E l)
 | []=>hE
 | p::l=>xM (qG hE l)
theorem xK {h p:Nat×Tok} {K:Act->Fc->Fc->Prop} (hK:uJ K) (hsel:∀ (j:Nat) (o:Oper) cs b,ops[j]?=some o->o.op≠.select cs b) {oh op:Oper} (hh:ops[h.1]?=some oh) (hp:ops[p.1]?=some op)
  (hap:oh.apart ops op=true) (hxx:∀ T T',h.2=.x T->p.2≠.x T') (hal:∀ f T,h.2=.al f T->∃ f' T',p.2=.al f' T')
  {a:Act} {F G:Fc} (H:step P ops I J h (step P ops I J p K) a F G):step P ops I J p (step P ops I J h K) a F G:=by
 obtain ⟨h1,h2,h3⟩:=Oper.apart_spec hap;have h2':∀ d,op.dst=some d->oh.dst≠some d:=λd hd hi'=>h2 d hi' hd
 have sh:=λcs b=>hsel h.1 oh cs b hh
 have sp:=λcs b=>hsel p.1 op cs b hp
 have wp:∀ a v,Region.wanted op (yielded ops (Act.put a oh.dst v).tmps)=Region.wanted op (yielded ops a.tmps):=λa v=>wanted_put op a oh.dst v h1
 have wh:∀ a v,Region.wanted oh (yielded ops (Act.put a op.dst v).tmps)=Region.wanted oh (yielded ops a.tmps):=λa v=>wanted_put oh a op.dst v h3
 have cm:∀ a v u,(Act.put a oh.dst v).put op.dst u=(Act.put a op.dst u).put oh.dst v:=λa v u=>Act.put_comm a v u h2
 unfold step at H ⊢;simp only [hh,hp] at H ⊢;rcases hk:h.2 with _ | T | ⟨f,T⟩
 ·simp only [hk] at H;rcases hq:p.2 with _ | T' | ⟨f',T'⟩
  ·simp only [hq] at H ⊢
   by_cases w1:Region.wanted oh (yielded ops a.tmps)=true
   ·rw [if_pos w1] at H;obtain ⟨u,r1,r2⟩:=H;rw [wp] at r2
    by_cases w2:Region.wanted op (yielded ops a.tmps)=true
    ·rw [if_pos w2] at r2 ⊢;obtain ⟨u',r3,r4⟩:=r2;refine ⟨u',r3.put sp h1 h2,?_⟩;rw [wh,if_pos w1];exact ⟨u,r1.put' sh h3 h2',by rw [<- cm];exact r4⟩
    ·rw [if_neg w2] at r2 ⊢;rw [wh,if_pos w1];exact ⟨u,r1.put' sh h3 h2',by rw [<- cm];exact r2⟩
   ·rw [if_neg w1] at H;rw [wp] at H
    by_cases w2:Region.wanted op (yielded ops a.tmps)=true
    ·rw [if_pos w2] at H ⊢;obtain ⟨u',r3,r4⟩:=H;refine ⟨u',r3.put sp h1 h2,?_⟩;rw [wh,if_neg w1,<- cm];exact r4
    ·rw [if_neg w2] at H ⊢;rw [wh,if_neg w1,<- cm];exact H
  ·simp only [hq] at H ⊢
   by_cases w1:Region.wanted oh (yielded ops a.tmps)=true
   ·rw [if_pos w1] at H;obtain ⟨u,r1,r2,r,r3,r4⟩:=H;rw [wp] at r2;refine ⟨r2,r,r3.put sp h1 h2,?_⟩;rw [wh,if_pos w1];exact ⟨u,r1.put' sh h3 h2',by rw [<- cm];exact r4⟩
   ·rw [if_neg w1] at H;obtain ⟨r2,r,r3,r4⟩:=H;rw [wp] at r2;refine ⟨r2,r,r3.put sp h1 h2,?_⟩;rw [wh,if_neg w1,<- cm];exact r4
  ·simp only [hq] at H ⊢
   by_cases w1:Region.wanted oh (yielded ops a.tmps)=true
   ·rw [if_pos w1] at H;obtain ⟨u,r1,r2,r3,r4⟩:=H;rw [wp] at r2;refine ⟨r2,r3.put sp h1 h2,λb=>?_⟩;rw [wh,if_pos w1];exact ⟨u,(r1.put' sh h3 h2').weak λw h=>⟨h.1,h.2.1⟩,by rw [<- cm];exact r4 b⟩
   ·rw [if_neg w1] at H;obtain ⟨r2,r3,r4⟩:=H;rw [wp] at r2;refine ⟨r2,r3.put sp h1 h2,λb=>?_⟩;rw [wh,if_neg w1,<- cm];exact r4 b
 ·simp only [hk] at H;obtain ⟨w1,r,r1,H⟩:=H;rcases hq:p.2 with _ | T' | ⟨f',T'⟩
  ·simp only [hq] at H ⊢;rw [wp] at H
   by_cases w2:Region.wanted op (yielded ops a.tmps)=true
   ·rw [if_pos w2] at H ⊢;obtain ⟨u',r3,r4⟩:=H;refine ⟨u',r3.put sp h1 h2,by rw [wh];exact w1,r,r1.put' sh h3 h2',by rw [<- cm];exact r4⟩
   ·rw [if_neg w2] at H ⊢;exact ⟨by rw [wh];exact w1,r,r1.put' sh h3 h2',by rw [<- cm];exact H⟩
  ·exact absurd hq (hxx T T' hk)
  ·simp only [hq] at H ⊢;obtain ⟨r2,r3,r4⟩:=H;rw [wp] at r2;exact ⟨r2,r3.put sp h1 h2,λb=>⟨by rw [wh];exact w1,r,r1.put' sh h3 h2',by rw [<- cm];exact r4 b⟩⟩
 ·simp only [hk] at H;obtain ⟨w1,r1,H⟩:=H;obtain ⟨f',T',hq⟩:=hal f T hk;simp only [hq] at H ⊢;have H0:=H 0;refine ⟨by have:=H0.1;rw [wp] at this;exact this,H0.2.1.put sp h1 h2,λb=>⟨by rw [wh];exact w1,r1.put' sh h3 h2',λb'=>?_⟩⟩;rw [<- cm];exact hK _ _ _ _ (λw hw=>⟨⟨hw.1.1,hw.2⟩,hw.1.2⟩) ((H b').2.2 b)
def kE (md:Region.Mode) (ops:Array Oper):Nat->Nat->Nat->Bool
 | 0,_,_=>false
 | f+1,i,j=>match ops[i]? with
  | none=>false
  | some o=>o.after.any λe=>Region.binds md e && (e.on == j || kE md ops f e.on j)
theorem lH {n:Nat} {listed:Array Bool} (inv:HeadInv md ops n listed) {j:Nat}:∀ (f i:Nat),(∀ o,ops[i]?=some o->∀ e∈o.after,Region.binds md e=true->listed.getD e.on false=true)->kE md ops f i j=true->listed.getD j false=true
 | f+1,i,h,hw=>by
  unfold kE at hw;cases ho:ops[i]? with
  | none=>simp only [ho] at hw;cases hw
  | some o =>
   simp only [ho,Array.any_eq_true,Bool.and_eq_true,Bool.or_eq_true,beq_iff_eq] at hw;obtain ⟨q,hq,hb,hj⟩:=hw;have he:o.after[q]∈o.after:=Array.getElem_mem hq;generalize o.after[q]=e at *
   have hl:=h o ho e he hb;rcases hj with rfl | hj
   ·exact hl
   ·exact lH inv f e.on (λo' ho' e' he' hb'=>inv.closed e.on o' ho' hl e' he' hb') hj
def kind:Tok->Nat | .v=>0 | .x _=>1 | .al _ _=>2
def DC (md:Region.Mode) (ops:Array Oper) (h p:Nat×Nat):Bool :=
 kE md ops ops.size p.1 h.1 || ((match ops[h.1]?,ops[p.1]? with | some oh,some op=>oh.apart ops op | _,_=>false) && !(h.2 == 1 && p.2 == 1) && (h.2 != 2 || p.2 == 2))
def jo (md:Region.Mode) (ops:Array Oper):List (Nat×Nat)->Bool
 | []=>true
 | h::l=>l.all (λp=>DC md ops h p) && jo md ops l
def rem (i:Nat) (l:List (Nat×Tok)):List (Nat×Tok):=l.filter λp=>p.1 != i
theorem sP {h:Nat×Tok} {l:List (Nat×Tok)} (hn:h.1 ∉ l.map (·.1)):rem h.1 (h::l)=l:=by
 unfold rem;rw [List.filter_cons_of_neg zk];exact List.filter_eq_self.2 λp hp=>by
  have:p.1≠h.1:=λhe=>hn (by rw [<- he];exact mM hp)
  simpa using this
theorem sO {h:Nat×Tok} {l:List (Nat×Tok)} {i:Nat} (hn:h.1≠i):rem i (h::l)=h::rem i l:=by
 unfold rem;rw [List.filter_cons_of_pos (by simpa using hn)]
theorem qF {E:Act->Fc->Fc->Prop} (hE:uJ E) (hsel:Region.noSelect ops=true) {p:Nat×Tok}:∀ (l:List (Nat×Tok)) (a:Act) (F G:Fc),jo md ops (l.map λq=>(q.1,kind q.2))=true->(l.map (·.1)).Nodup->p∈l ->
  (∀ q∈l,kE md ops ops.size p.1 q.1=false)->game P ops I J E l a F G->step P ops I J p (game P ops I J E (rem p.1 l)) a F G
 | h::l,a,F,G,hB,hn,hp,hw,H=>by
  simp only [List.map_cons,List.nodup_cons] at hn
  by_cases he:h.1=p.1
  ·obtain rfl:p=h:=by
    rcases List.mem_cons.1 hp with h1 | h1
    ·exact h1
    ·exact absurd (he ▸ mM h1) hn.1
   rw [sP hn.1];exact H
  ·have hp':p∈l:=by
    rcases List.mem_cons.1 hp with h1 | h1
    ·exact absurd (by rw [h1]) he
    ·exact h1
   simp only [List.map_cons,jo,Bool.and_eq_true,List.all_eq_true] at hB;have hpair:=hB.1 (p.1,kind p.2) (List.mem_map.2 ⟨p,hp',rfl⟩);unfold DC at hpair;simp only [hw h zk,Bool.false_or,Bool.and_eq_true] at hpair;obtain ⟨⟨hap,hxx⟩,hal⟩:=hpair;rw [sO he];cases hoh:ops[h.1]? with
   | none=>simp only [hoh] at hap;cases hap
   | some oh =>
    cases hop:ops[p.1]? with
    | none=>simp only [hoh,hop] at hap;cases hap
    | some op =>
     simp only [hoh,hop] at hap;refine xK (qG hE _) (Region.noSelect_spec hsel) hoh hop hap ?_ ?_ (xL (λa F G h=>qF hE hsel l a F G hB.2 hn.2 hp' (λq hq=>hw q (List.mem_cons_of_mem _ hq)) h) H)
     ·intro T T' h1 h2;rw [h1,h2] at hxx;simp [kind] at hxx
     ·intro f T h1;rw [h1] at hal;rcases hq:p.2 with _ | T' | ⟨f',T'⟩
      ·rw [hq] at hal;simp [kind] at hal
      ·rw [hq] at hal;simp [kind] at hal
      ·exact ⟨f',T',rfl⟩
def uV (J:World->World->Prop) (T:Fc):Prop:=∀ w w',T w->J w w'->T w'
def Good (J:World->World->Prop):Tok->Prop
 | .v=>True
 | .x T=>aG T
 | .al _ T=>∀ b,uV J (T b)
theorem oW {i:Nat}:∀ {l:List (Nat×Tok)},(l.map (·.1)).Nodup->i∈l.map (·.1)->(rem i l).length+1=l.length
 | h::l,hn,hi=>by
  simp only [List.map_cons,List.nodup_cons] at hn
  by_cases he:h.1=i
  ·subst he;rw [sP hn.1];rfl
  ·rw [sO he,List.length_cons,List.length_cons]
   have:=oW hn.2 (by
    rcases List.mem_cons.1 (by simpa using hi:i∈h.1::l.map (·.1)) with h1 | h1
    ·exact absurd h1.symm he
    ·exact h1)
   omega
theorem nA {i:Nat} {l:List (Nat×Tok)}:(rem i l).Sublist l:=List.filter_sublist
theorem vP {l l':List (Nat×Nat)} (h:l'.Sublist l):jo md ops l=true->jo md ops l'=true:=by
 induction h with
 | slnil=>exact id
 | cons a _ ih=>intro hb;simp only [jo,Bool.and_eq_true] at hb;exact ih hb.2
 | cons_cons a hs ih =>
  intro hb;simp only [jo,Bool.and_eq_true,List.all_eq_true] at hb ⊢;exact ⟨λp hp=>hb.1 p (hs.subset hp),ih hb.2⟩
theorem Dd {i:Nat} {l:List (Nat×Tok)} {j:Nat}:j∈(rem i l).map (·.1)↔j∈l.map (·.1)/\j≠i:=by
 unfold rem;simp only [List.mem_map,List.mem_filter,bne_iff_ne,ne_eq];constructor
 ·rintro ⟨p,⟨h1,h2⟩,rfl⟩;exact ⟨⟨p,h1,rfl⟩,h2⟩
 ·rintro ⟨⟨p,h1,rfl⟩,h2⟩;exact ⟨p,⟨h1,h2⟩,rfl⟩
theorem uX (hI:∀ w w',I w->Mod [] w w'->I w') (hJ:∀ w w',Mod [] w w'->J w w') {Q:Exit->Act->World->Prop} {rest:List Oper} {n:Nat} (hsel:Region.noSelect ops=true) (ht:Region.fH md ops n=true) (hd:Region.mE md ops=true) (hn:n<=ops.size)
  (hseq:Region.seqB md ops rest.length n (Region.canon ops n)=true) (hrest:∀ j,rest[j]?=ops[n+j]?) :
  ∀ (m:Nat) (l:List (Nat×Tok)) (listed:Array Bool) (a:Act) (F G:Fc) (w:World),l.length=m->HeadInv md ops n listed->jo md ops (l.map λq=>(q.1,kind q.2))=true->(l.map (·.1)).Nodup->(∀ i,i<n->(listed.getD i true=false↔i∈l.map (·.1)))->(∀ p∈l,p.1<n)->(∀ p∈l,Good J p.2) ->
   aG F->uV J G->I w->F w->G w->game P ops I J (λa F G=>∀ w',I w'->F w'->G w'->wpList P ops Q rest a w') l a F G->wpAny P md ops Q (m+rest.length) listed a w:=by
 intro m
 induction m with
 | zero =>
  intro l listed a F G w hlen inv _ _ hun _ _ _ _ hw hF hG H;obtain rfl:=List.length_eq_zero_iff.1 hlen;rw [Nat.zero_add];have hc:listed=Region.canon ops n:=by
   refine Array.ext (by simp [Region.canon,inv.size]) λi hi hi'=>?_
   simp only [Region.canon,List.getElem_toArray,List.getElem_map,List.getElem_range]
   by_cases hin:i<n
   ·have:=(hun i hin).1;simp [hi] at this;simp [this,hin]
   ·have h2:=inv.tail i zo (by rw [<- inv.size];exact hi);simp [hi] at h2;simp [h2,hin]
  exact wpAny_of_seq rest n listed a w hrest (by rw [hc];exact hseq) (H w hw hF hG)
 | succ m ih =>
  intro l listed a F G w hlen inv hB hnd hun hlt hgood hsF hsG hw hF hG H;rw [show m+1+rest.length=(m+rest.length)+1 by omega];obtain ⟨p0,hp0⟩:∃ p,p∈l:=by
   cases l with
   | nil=>simp at hlen
   | cons p _=>exact ⟨p,by simp⟩
  have hu0:listed.getD p0.1 true=false:=(hun p0.1 (hlt p0 hp0)).2 (mM hp0);refine ⟨λh0=>absurd h0 (kM hd p0.1 (by have:=hlt p0 hp0;omega) hu0),λi hi=>?_⟩;have hin:=fM ht inv (hlt p0 hp0) hu0 hi;obtain ⟨hiu,oi,hoi,hall⟩:=mem_ready.1 hi;obtain ⟨p,hp,rfl⟩:=List.mem_map.1 ((hun i hin).1 hiu);have hnw:∀ q∈l,kE md ops ops.size p.1 q.1=false:=λq hq=>by
   by_cases hb:kE md ops ops.size p.1 q.1=true
   ·have h1:=lH inv ops.size p.1 (λo ho e he hb=>by rw [hoi] at ho;cases ho;exact hall e he hb) hb;have h2:=getD_both ((hun q.1 (hlt q hq)).2 (mM hq));rw [h2] at h1;cases h1
   ·simpa using hb
  have hE:uJ (λ(a:Act) (F G:Fc)=>∀ w',I w'->F w'->G w'->wpList P ops Q rest a w'):=λa F G G' hG' h w' h1 h2 h3=>h w' h1 h2 (hG' w' h3)
  have hpk:=qF hE hsel l a F G hB hnd hp hnw H;have next:∀ a' F' G' w',aG F'->uV J G'->I w'->F' w'->G' w'->game P ops I J (λa F G=>∀ w',I w'->F w'->G w'->wpList P ops Q rest a w') (rem p.1 l) a' F' G'->wpAny P md ops Q (m+rest.length) (listed.setIfInBounds p.1 true) a' w':=by
   intro a' F' G' w' s1 s2 i1 i2 i3 hg;refine ih (rem p.1 l) _ a' F' G' w' ?_ (inv.set hi hin) (vP (nA.map _) hB) (List.Nodup.sublist (nA.map _) hnd) ?_ (λq hq=>hlt q (nA.subset hq)) (λq hq=>hgood q (nA.subset hq)) s1 s2 i1 i2 i3 hg
   ·have:=oW hnd (mM hp);omega
   ·intro j hj;rw [Dd]
    by_cases hij:p.1=j
    ·subst hij;constructor
     ·intro h2;simp [show p.1<listed.size by rw [inv.size];omega] at h2
     ·intro h2;exact absurd rfl h2.2
    ·rw [getD_set_ne true hij,hun j hj];exact ⟨λh=>⟨h,λhe=>hij he.symm⟩,λh=>h.1⟩
  unfold step at hpk;unfold wpOp;simp only [hoi] at hpk ⊢;have hgp:=hgood p hp;rcases hk:p.2 with _ | T | ⟨f,T⟩
  ·simp only [hk] at hpk
   by_cases w1:Region.wanted oi (yielded ops a.tmps)=true
   ·rw [if_pos w1] at hpk ⊢;obtain ⟨u,r1,r2⟩:=hpk;left;exact Rg.fC (F:=λx=>x=w) trivial rfl (r1 w ⟨hw,hG⟩) λv w' _ h=>by
     obtain ⟨rfl,hm⟩:=h;exact next _ _ _ w' hsF hsG (hI _ _ hw hm) (hsF _ _ hF hm) (hsG _ _ hG (hJ _ _ hm)) r2
   ·rw [if_neg w1] at hpk ⊢;exact next _ _ _ w hsF hsG hw hF hG hpk
  ·simp only [hk] at hpk;obtain ⟨w1,r,r1,r2⟩:=hpk;rw [if_pos w1];left;exact Rg.fC (F:=λx=>x=w) trivial rfl (r1 w ⟨hw,hF⟩) λv w' _ h=>by
    obtain ⟨rfl,h1,h2,h3⟩:=h;exact next _ _ _ w' (by rw [hk] at hgp;exact hgp) hsG h1 h3 (hsG _ _ hG h2) r2
  ·simp only [hk] at hpk;obtain ⟨w1,r1,r2⟩:=hpk;rw [if_pos w1];left;exact Rg.fC (F:=λx=>x=w) trivial rfl (r1 w hw) λv w' _ h=>by
    obtain ⟨b,rfl,hm,h3⟩:=h;rw [hk] at hgp;exact next _ _ _ w' hsF (λx y hx hy=>⟨hsG _ _ hx.1 hy,hgp b _ _ hx.2 hy⟩) (hI _ _ hw hm) (hsF _ _ hF hm) ⟨hsG _ _ hG (hJ _ _ hm),h3⟩ (r2 b)
def DF (md:Region.Mode) (ops:Array Oper) (n:Nat) (l:List (Nat×Nat)):Bool :=
 Region.noSelect ops && decide (n<=ops.size) && decide (l.length=n) && l.all (λp=>decide (p.1<n)) && Region.fH md ops n && Region.mE md ops && Region.seqB md ops (ops.size - n) n (Region.canon ops n) && jo md ops l && Sn.ndB (l.map (·.1)) && (List.range n).all (λi=>(l.map (·.1)).contains i)
structure ku (P:Program) (ops:Array Oper) (I:World->Prop) (J:World->World->Prop) (E:Act->Fc->Fc->Prop) (l:List (Nat×Tok)) (a:Act) (F G:Fc):Prop where
 o:game P ops I J E l a F G
theorem jH (hI:∀ w w',I w->Mod [] w w'->I w') (hJ:∀ w w',Mod [] w w'->J w w') {id:Nat} {Q:Exit->Act->World->Prop} {a:Act} {w:World} {l:List Oper} (n:Nat) (toks:List (Nat×Tok)) (ks:List (Nat×Nat)) (hks:toks.map (λq=>(q.1,kind q.2))=ks)
  (hm:P.follows .mixedOrders=true) (hB:DF .any l.toArray n ks=true) (hgood:∀ p∈toks,Good J p.2) (hw:I w.drew) {F0:Fc} (hF0:aG F0) (hw0:F0 w.drew)
  (h:ku P l.toArray I J (λa' F G=>∀ w',I w'->F w'->G w'->wpList P l.toArray Q (l.drop n) a' w') toks a F0 (λ_=>True)) :
  (Code.region id l.toArray true).wp P Q a w:=by
 subst hks;simp only [DF,Bool.and_eq_true,decide_eq_true_eq,List.length_map] at hB;obtain ⟨⟨⟨⟨⟨⟨⟨⟨⟨hsel,hn⟩,hlen⟩,hlt⟩,ht⟩,hd⟩,hseq⟩,hpairs⟩,hnd⟩,hall⟩:=hB;have hmap:(toks.map λq=>(q.1,kind q.2)).map (·.1)=toks.map (·.1):=by rw [List.map_map];rfl
 rw [hmap] at hnd hall;have inv0:HeadInv .any l.toArray n (Array.replicate l.toArray.size false) :=
  ⟨by simp,λj oj _ hl=>zqk,λt _ ht=>getD_in zpc (getD_replicate_false _ _)⟩
 have hdl:(l.drop n).length=l.toArray.size - n:=by simp
 refine wp_region_any hm ?_;have H:=uX (P:=P) hI hJ (Q:=Q) (rest:=l.drop n) hsel ht hd hn (by rw [hdl];exact hseq) (λj=>by simp [List.getElem?_drop]) toks.length toks _ a F0 (λ_=>True) w.drew rfl inv0 hpairs (Sn.aW hnd)
  (λi hi=>by
   have:=List.all_eq_true.1 hall i (List.mem_range.2 hi);constructor
   ·intro _;simpa using this
   ·intro _;exact getD_in (by simp at hn ⊢;omega) (getD_replicate_false _ _))
  (λp hp=>by
   have:=List.all_eq_true.1 hlt (p.1,kind p.2) (List.mem_map.2 ⟨p,hp,rfl⟩)
   simpa using this) hgood hF0 (λ_ _ _ _=>trivial) hw hw0 trivial h.o
 have hl2:toks.length+(l.drop n).length=l.toArray.size:=by rw [hdl];simp only [List.size_toArray] at hn ⊢;omega
 rwa [hl2] at H
def nS (a:Act):Option Tmp->Value
 | some t=>a.tmps.getD t undef
 | none=>undef
theorem qR {E:Act->Fc->Fc->Prop} {l:List (Nat×Tok)} {a a':Act} {F G:Fc} {i:Nat} {o:Oper} (ho:ops[i]?=some o) (hg:Region.wanted o (yielded ops a.tmps)=true)
  (h:∀ w,I w->G w->∀ (K:Act->World->Prop) (Q:Exit->Act->World->Prop),(∀ w',Mod [] w w'->K a' w')->o.wp P a w K Q) (hp:a.put o.dst (nS a' o.dst)=a') (hr:ku P ops I J E l a' F G):ku P ops I J E ((i,.v)::l) a F G:=by
 refine ⟨?_⟩;unfold game step;simp only [ho];rw [if_pos hg];refine ⟨nS a' o.dst,λw1 h1 w _ e=>?_,by rw [hp];exact hr.o⟩;subst e;exact h w h1.1 h1.2 _ _ λw' m=>⟨_,hp.symm,trivial,rfl,m⟩
theorem pO {E:Act->Fc->Fc->Prop} {l:List (Nat×Tok)} {a a':Act} {F G T:Fc} {i:Nat} {o:Oper} (ho:ops[i]?=some o) (hg:Region.wanted o (yielded ops a.tmps)=true)
  (h:∀ w,I w->F w->∀ (K:Act->World->Prop) (Q:Exit->Act->World->Prop),(∀ w',I w'->J w w'->T w'->K a' w')->o.wp P a w K Q) (hp:a.put o.dst (nS a' o.dst)=a') (hr:ku P ops I J E l a' T G):ku P ops I J E ((i,.x T)::l) a F G:=by
 refine ⟨?_⟩;unfold game step;simp only [ho];refine ⟨hg,nS a' o.dst,λw1 h1 w _ e=>?_,by rw [hp];exact hr.o⟩;subst e;exact h w h1.1 h1.2 _ _ λw' a1 a2 a3=>⟨_,hp.symm,trivial,rfl,a1,a2,a3⟩
theorem xz {E:Act->Fc->Fc->Prop} {l:List (Nat×Tok)} {a:Act} {F G:Fc} {g:Nat->Value} {T:Nat->Fc} {f:Value->Act} {i:Nat} {o:Oper} (ho:ops[i]?=some o) (hg:Region.wanted o (yielded ops a.tmps)=true) (hf:∀ v,f v=a.put o.dst v)
  (h:∀ w,I w->∀ (K:Act->World->Prop) (Q:Exit->Act->World->Prop),(∀ b w',Mod [] w w'->T b w'->K (f (g b)) w')->o.wp P a w K Q) (hr:∀ b,ku P ops I J E l (f (g b)) F (λw=>G w/\T b w)):ku P ops I J E ((i,.al g T)::l) a F G:=by
 refine ⟨?_⟩;unfold game step;simp only [ho];refine ⟨hg,λw1 h1 w _ e=>?_,λb=>by rw [<- hf];exact (hr b).o⟩;subst e;exact h w h1 _ _ λb w' m t=>⟨g b,hf _,trivial,b,rfl,m,t⟩
theorem bJ {E:Act->Fc->Fc->Prop} {a:Act} {F G:Fc} (h:E a F G):ku P ops I J E [] a F G:=⟨h⟩
end
end Sa
section
variable {P:Program} {ops:Array Oper} {W:World}
theorem sv {K:Act->Prop} {l:List Oper} {a a':Act} {o:Oper} (hr:cM P ops W K l a') (hg:Region.wanted o (yielded ops a.tmps)=true:=by kernel_rfl)
  (h:∀ w,Mod [] W w->∀ (K:Act->World->Prop) (Q:Exit->Act->World->Prop),(∀ w',Mod [] w w'->K a' w')->o.wp P a w K Q:=by (intro w' hw' K Q hK;go_wp2_with fail;first | exact hK _ mR | exact mR)) (hd:a'.defers=a.defers:=by rfl):cM P ops W K (o::l) a:=lW hg hd h hr
theorem sc {K:Act->Prop} {l:List Oper} {a a':Act} {o:Oper} (h:∀ w,Mod [] W w->∀ (K:Act->World->Prop) (Q:Exit->Act->World->Prop),(∀ w',Mod [] w w'->K a' w')->o.wp P a w K Q) (hd:a'.defers=a.defers) (hr:cM P ops W K l a')
  (hg:Region.wanted o (yielded ops a.tmps)=true:=by kernel_rfl):cM P ops W K (o::l) a:=lW hg hd h hr
theorem sp {K:Act->Prop} {l:List Oper} {a:Act} {o:Oper} (hr:cM P ops W K l a) (hg:Region.wanted o (yielded ops a.tmps)=false:=by kernel_rfl) (hp:a.put o.dst undef=a:=by kernel_rfl):cM P ops W K (o::l) a:=tV hg hp hr
theorem su {K:Act->Prop} {l:List Oper} {a a':Act} {o:Oper} (hr:cM P ops W K l a') (hg:Region.wanted o (yielded ops a.tmps)=false:=by kernel_rfl) (hp:a.put o.dst undef=a':=by (simp only [Act.put];(try simp only [List.setIfInBounds_toArray]);(try simp only [List.set_cons_succ,List.set_cons_zero]);exact rfl)):cM P ops W K (o::l) a:=lI hg hp hr
theorem sk {K:Act->Prop} {l:List Oper} {a a':Act} {o:Oper} {C:Prop} (c:C) (hr:cM P ops W K l a') (hg:Region.wanted o (yielded ops a.tmps)=true:=by kernel_rfl)
  (h:C->∀ w,Mod [] W w->∀ (K:Act->World->Prop) (Q:Exit->Act->World->Prop),(∀ w',Mod [] w w'->K a' w')->o.wp P a w K Q:=by (intro c w' hw' K Q hK;go_wp2_with fail;refine (c _ hw').mono ?_;rintro e w'' ⟨rfl,m''⟩;go_wp2_with fail;first | exact hK _ m'' | exact m'')) (hd:a'.defers=a.defers:=by rfl):cM P ops W K (o::l) a:=lW hg hd (h c) hr
namespace Sw
theorem vv {I:World->Prop} {w0:World} (hw0:I w0) {E:Act->(World->Prop)->Prop} {l:List (Nat×Option ez)} {a a':Act} {F:World->Prop} {i:Nat} {o:Oper} (hr:dL P ops I E l a' F) (ho:ops[i]?=some o:=by rfl) (hg:Region.wanted o (yielded ops a.tmps)=true:=by kernel_rfl)
  (h:∀ w,I w->∀ (K:Act->World->Prop) (Q:Exit->Act->World->Prop),(∀ w',Mod [] w w'->K a' w')->o.wp P a w K Q:=by (intro w' hw' K Q hK;go_wp2_with fail;first | exact hK _ mR | exact mR)) (hd:a'.defers=a.defers:=by rfl):dL P ops I E ((i,none)::l) a F:=qR hw0 ho hg hd h hr
theorem xx {I:World->Prop} {E:Act->(World->Prop)->Prop} {l:List (Nat×Option ez)} {a:Act} {F:World->Prop} {T:ez} {f:Value->Act} {i:Nat} {o:Oper}
  (h:∀ w,I w->F w->∀ (K:Act->World->Prop) (Q:Exit->Act->World->Prop),(∀ v w',I w'->T v w'->K (f v) w')->o.wp P a w K Q)
  (hk:∀ v,(∃ w,I w/\T v w)->dL P ops I E l (f v) (λw=>T v w)) (ho:ops[i]?=some o:=by rfl) (hg:Region.wanted o (yielded ops a.tmps)=true:=by kernel_rfl)
  (hf:∀ v,f v=a.put o.dst v:=by (intro v;simp only [Act.put];(try simp only [List.setIfInBounds_toArray]);(try simp only [List.set_cons_succ,List.set_cons_zero]);exact rfl)):dL P ops I E ((i,some T)::l) a F:=pO ho hg hf h hk
end Sw
namespace Sn
theorem vv {I:World->Prop} {w0:World} (hw0:I w0) {E:Act->(World->Prop)->Prop} {l:List (Nat×Option ez)} {a a':Act} {F:World->Prop} {i:Nat} {o:Oper} (hr:dL P ops I E l a' F) (ho:ops[i]?=some o:=by rfl) (hg:Region.wanted o (yielded ops a.tmps)=true:=by kernel_rfl)
  (h:∀ w,I w->∀ (K:Act->World->Prop) (Q:Exit->Act->World->Prop),(∀ w',Mod [] w w'->K a' w')->o.wp P a w K Q:=by (intro w' hw' K Q hK;go_wp2_with fail;first | exact hK _ mR | exact mR)) (hd:a'.defers=a.defers:=by rfl):dL P ops I E ((i,none)::l) a F:=qR hw0 ho hg hd h hr
end Sn
namespace Sa
theorem vv {I:World->Prop} {J:World->World->Prop} {E:Act->Fc->Fc->Prop} {l:List (Nat×Tok)} {a a':Act} {F G:Fc} {i:Nat} {o:Oper} (hr:ku P ops I J E l a' F G) (ho:ops[i]?=some o:=by rfl) (hg:Region.wanted o (yielded ops a.tmps)=true:=by kernel_rfl)
  (h:∀ w,I w->G w->∀ (K:Act->World->Prop) (Q:Exit->Act->World->Prop),(∀ w',Mod [] w w'->K a' w')->o.wp P a w K Q:=by (intro w' hw' hG K Q hK;go_wp2_with fail;first | exact hK _ mR | exact mR)) (hp:a.put o.dst (nS a' o.dst)=a':=by kernel_rfl):ku P ops I J E ((i,.v)::l) a F G:=qR ho hg h hp hr
end Sa
end
namespace Dm
section
variable {P:Program} {ops:Array Oper} {md:Region.Mode} {W:World} {D:List PanicEntry->World->Prop} {late:List Nat}
end
end Dm
end Go.Proofs.YthheaflbbficgaaGreat
namespace Go.Proofs.YthheaflbbficgaaGreat
open Go.RowKit Go.MapKept
open Go.ChangeMaps (setBlock)
section
variable {P:Program} {w:World} {b:Nat} {m:List (Int×Value)} {t kt et:TypeId}
end
open Go.RowKit
section
variable {F:List Nat} {w0 w w':World} {l:List (Nat×Array Value×TypeId)} {b:Nat} {cs:Array Value} {t:TypeId}
end
section
variable {ops:Array Oper} {md:Region.Mode}
end
namespace Dg
abbrev Fct:=Value->World->Prop
section
variable {P:Program} {ops:Array Oper} {md:Region.Mode} {W:World} {L:Nat->Option Fct}
structure nM (ops:Array Oper) (c:List (Nat×Fct)) (a0 a:Act):Prop where
 size:a.tmps.size=a0.tmps.size
 defers:a.defers=a0.defers
 same:∀ t,(∀ p∈c,∀ o,ops[p.1]?=some o->o.dst≠some t)->a.tmps[t]?=a0.tmps[t]?
theorem nM.put {c:List (Nat×Fct)} {a0 a:Act} (h:nM ops c a0 a) {p:Nat×Fct} (hp:p∈c) {o:Oper} (ho:ops[p.1]?=some o) (v:Value):nM ops c a0 (a.put o.dst v):=by
 refine ⟨by rw [Ch.oD];exact h.size,by cases hd:o.dst <;> exact h.defers,λt ht=>?_⟩;have h1:=ht p hp o ho;rw [<- h.same t ht];cases hd:o.dst with
 | none=>rfl
 | some d =>
  have:d≠t:=λhe=>h1 (by rw [hd,he])
  simp [Act.put,Array.getElem?_setIfInBounds_ne this]
def Dep (ops:Array Oper) (c:List (Nat×Fct)) (a:Act) (o:Oper) (w:World):Prop :=
 ∀ e∈o.after,Region.binds .any e=true->∀ q∈c,q.1=e.on->∃ v,Ch.dval ops a q.1=some v/\q.2 v w
def js (P:Program) (ops:Array Oper) (W:World) (c:List (Nat×Fct)) (a0:Act) (p:Nat×Fct):Prop :=
 ∀ o,ops[p.1]?=some o->o.guard=none/\∀ a,nM ops c a0 a->Ch.gu P o a W (Dep ops c a o) p.2
def All (ops:Array Oper) (c:List (Nat×Fct)) (a:Act) (w:World):Prop:=∀ p∈c,∃ v,Ch.dval ops a p.1=some v/\p.2 v w
theorem uY {n g size:Nat} {c:List (Nat×Fct)} {a0:Act} (ht:Region.fH .any ops n=true) (hd:Region.mE .any ops=true) (hn:n<=ops.size) (hseq:Region.seqB .any ops g n (Region.canon ops n)=true)
  (hsl:Ch.iP ops (c.map (·.1)) size=true) (hnd:(c.map (·.1)).Nodup) (hL:∀ p∈c,L p.1=some p.2) (hlt:∀ p∈c,p.1<n) (hst:∀ p∈c,js P ops W c a0 p) (hs0:a0.tmps.size=size) :
  ∀ (m:Nat) (listed:Array Bool) (a:Act) (F:World->Prop),((c.map (·.1)).filter λi=>!listed.getD i true).length=m->HeadInv .any ops n listed->(∀ i,i<n->listed.getD i true=false->i∈c.map (·.1))->nM ops c a0 a ->
   (∀ p∈c,listed.getD p.1 true=true->∃ v,Ch.dval ops a p.1=some v/\∀ w,F w->p.2 v w) ->
   Ch.dw P .any ops W L n (λlisted' a' F'=>Region.seqB .any ops g n listed'=true/\nM ops c a0 a'/\∀ w,F' w->All ops c a' w) m listed a F:=by
 intro m
 induction m with
 | zero =>
  intro listed a F hlen inv hun hlk htold;have hall:∀ p∈c,listed.getD p.1 true=true:=λp hp=>by
   have h1:=List.eq_nil_of_length_eq_zero hlen;cases hx:listed.getD p.1 true with
   | true=>rfl
   | false =>
    have:p.1∈(c.map (·.1)).filter λi=>!listed.getD i true:=List.mem_filter.2 ⟨mM hp,by rw [hx];rfl⟩
    rw [h1] at this;cases this
  refine ⟨?_,hlk,λw hF p hp=>?_⟩
  ·have:listed=Region.canon ops n:=by
    refine Array.ext (by simp [Region.canon,inv.size]) λi hi hi'=>?_
    simp only [Region.canon,List.getElem_toArray,List.getElem_map,List.getElem_range]
    by_cases hin:i<n
    ·have h3:listed.getD i true=true:=by
      cases hx:listed.getD i true with
      | true=>rfl
      | false =>
       obtain ⟨p,hp,rfl⟩:=List.mem_map.1 (hun i hin hx);rw [hall p hp] at hx;cases hx
     simp [hi] at h3;simp [h3,hin]
    ·have h2:=inv.tail i zo (by rw [<- inv.size];exact hi);simp [hi] at h2;simp [h2,hin]
   rw [this];exact hseq
  ·obtain ⟨v,h1,h2⟩:=htold p hp (hall p hp);exact ⟨v,h1,h2 w hF⟩
 | succ m ih =>
  intro listed a F hlen inv hun hlk htold;obtain ⟨i0,hi0⟩:=List.exists_mem_of_length_pos (l:=(c.map (·.1)).filter λi=>!listed.getD i true) zo;obtain ⟨hi1,hi2⟩:=List.mem_filter.1 hi0;obtain ⟨p0,hp0,rfl⟩:=List.mem_map.1 hi1;have hu0:listed.getD p0.1 true=false:=by simpa using hi2
  refine ⟨kM hd p0.1 (by have:=hlt p0 hp0;omega) hu0,λj hj=>?_⟩;have hjn:=fM ht inv (hlt p0 hp0) hu0 hj;refine ⟨hjn,?_⟩;obtain ⟨hju,o,ho,hdeps⟩:=mem_ready.1 hj;obtain ⟨p,hp,rfl⟩:=List.mem_map.1 (hun j hjn hju);have hpc:p.1∈c.map (·.1):=mM hp;have hsz:p.1<listed.size:=by rw [inv.size];omega
  obtain ⟨hg,hstep⟩:=hst p hp o ho;unfold Ch.mOp;simp only [ho,hL p hp];refine ⟨hg,(hstep a hlk).weak λw hF e he hb q hq hqe=>?_,λv=>ih _ _ _ ?_ (inv.set hj hjn) (λi hin hiu=>?_) (hlk.put hp ho v) (λq hq hql=>?_)⟩
  ·have h1:=hdeps e he hb;have hb2:listed.getD q.1 true=true:=by
    rw [hqe];rcases Nat.lt_or_ge e.on listed.size with h | h
    ·simp [h] at h1 ⊢;exact h1
    ·simp [Array.getElem?_eq_none h] at h1
   obtain ⟨v,h2,h3⟩:=htold q hq hb2;exact ⟨v,h2,h3 w hF⟩
  ·have h1:((c.map (·.1)).filter λi=>!(listed.setIfInBounds p.1 true).getD i true)=((c.map (·.1)).filter λi=>!listed.getD i true).filter λi=>i != p.1:=by
    rw [List.filter_filter];refine List.filter_congr λi hi=>?_
    by_cases he:p.1=i
    ·subst he;simp [hsz]
    ·rw [getD_set_ne true he];have:(i != p.1)=true:=by simpa using Ne.symm he
     rw [this,Bool.true_and]
   rw [h1,<- List.Nodup.erase_eq_filter (hnd.filter _),List.length_erase_of_mem (List.mem_filter.2 ⟨hpc,by rw [hju];rfl⟩),hlen];rfl
  ·by_cases he:p.1=i
   ·exact he ▸ hpc
   ·rw [getD_set_ne true he] at hiu;exact hun i hin hiu
  ·have hsl':Ch.iP ops (c.map (·.1)) a.tmps.size=true:=by rw [hlk.size,hs0];exact hsl
   by_cases he:p.1=q.1
   ·have hpq:p.2=q.2:=by
     have h1:=hL p hp;have h2:=hL q hq;rw [he,h2] at h1;exact (Option.some.inj h1).symm
    rw [<- he,<- hpq];exact ⟨v,Ch.zi hsl' hpc ho v,λw hw=>hw.2⟩
   ·rw [getD_set_ne true he] at hql;obtain ⟨u,h1,h2⟩:=htold q hq hql;refine ⟨u,?_,λw hw=>h2 w hw.1⟩;rw [Ch.BI hsl' (mM hq) ho he];exact h1
structure wX (P:Program) (ops:Array Oper) (W:World) (c:List (Nat×Fct)) (E:Act->World->Prop) (a0:Act):Prop where
 steps:∀ p∈c,js P ops W c a0 p
 fin:∀ a,nM ops c a0 a->∀ w,Mod [] W w->All ops c a w->E a w
 size:Ch.iP ops (c.map (·.1)) a0.tmps.size=true
def Ce (md:Region.Mode) (ops:Array Oper) (n:Nat) (ord c:List Nat):Bool :=
 Region.noSelect ops && decide (n<=ops.size) && decide (ord.length+c.length=n) && c.all (λi=>decide (i<n)) && Region.fH md ops n && Region.mE md ops && Region.seqB md ops (ops.size - n) n (Region.canon ops n) &&
  Region.pP md ops n c ord (Array.replicate ops.size false) && decide c.Nodup
theorem qd {Q:Exit->Act->World->Prop} {a:Act} {w:World} {l:List Oper} (n:Nat) (ord:List Nat) (c:List (Nat×Fct))
  (hB:Ce .any l.toArray n ord (c.map (·.1))=true) (hT:∀ p∈c,∀ v,aG (p.2 v))
  (h:dS P l.toArray w (wX P l.toArray w c λa' w'=>wpList P l.toArray Q (l.drop n) a' w') ord a) :
  wpAny P .any l.toArray Q l.toArray.size (Array.replicate l.toArray.size false) a { w with drawn:=w.drawn+1 }:=by
 simp only [Ce,Bool.and_eq_true,decide_eq_true_eq] at hB;obtain ⟨⟨⟨⟨⟨⟨⟨⟨hsel,hn⟩,hlen⟩,hltc⟩,ht⟩,hd⟩,hseq⟩,hord⟩,hnd⟩:=hB
 let L:Nat->Option Fct:=λi=>(c.find? λp=>p.1 == i).map (·.2)
 have hLn:∀ i,(c.map (·.1)).contains i=false->L i=none:=λi hi=>by
  simp only [L,Option.map_eq_none_iff,List.find?_eq_none];intro p hp he;have:(c.map (·.1)).contains i=true:=by simpa using ⟨p.2,by simpa [<- (beq_iff_eq.1 he)] using hp⟩
  rw [hi] at this;cases this
 have hLs:∀ p∈c,L p.1=some p.2:=λp hp=>iL c p hp hnd
 have hLT:∀ i T,L i=some T->∀ v,aG (T v):=λi T hi v=>by
  simp only [L,Option.map_eq_some_iff] at hi;obtain ⟨p,hp,rfl⟩:=hi;exact hT p (List.mem_of_find?_eq_some hp) v
 have hltc':∀ p∈c,p.1<n:=λp hp=>by simpa using List.all_eq_true.1 hltc p.1 (mM hp)
 have inv0:HeadInv .any l.toArray n (Array.replicate l.toArray.size false) :=
  ⟨by simp,λj oj _ hl=>zqk,λt _ ht=>getD_in zpc (getD_replicate_false _ _)⟩
 have hdl:(l.drop n).length=l.toArray.size - n:=by simp
 have H:=Ch.gd (P:=P) (W:=w) (L:=L) (m:=c.length) (late:=c.map (·.1)) (F:=λ_=>True)
  (Fin:=λlisted a F=>Region.seqB .any l.toArray (l.toArray.size - n) n listed=true/\∀ w',Mod [] w w'->F w'->wpList P l.toArray Q (l.drop n) a w')
  hsel ht (λlisted a F hf=>seqB_ready hf.1) hLn (λa listed inv hB hk=>by
   have hun:∀ i,i<n->(listed.getD i true=false↔i∈c.map (·.1)):=λi hi=>by
    have:=List.all_eq_true.1 hB i (List.mem_range.2 hi);simp only [beq_iff_eq] at this;rw [Bool.eq_iff_iff] at this;simpa only [beq_iff_eq,List.contains_iff_mem] using this
   have h1:=uY (P:=P) (W:=w) (L:=L) (g:=l.toArray.size - n) ht hd hn hseq hk.size hnd hLs hltc' hk.steps rfl c.length listed a (λ_=>True) (by
    rw [List.filter_eq_self.2 (λi hi=>?_),List.length_map];obtain ⟨p,hp,rfl⟩:=List.mem_map.1 hi;have:=(hun p.1 (hltc' p hp)).2 hi
    rw [this];rfl) inv (λi hi h=>(hun i hi).1 h) ⟨rfl,rfl,λ_ _=>rfl⟩ (λp hp hl=>by
     have:=(hun p.1 (hltc' p hp)).2 (mM hp)
     rw [hl] at this;cases this)
   exact fin_mono (λlisted' a' F' hf=>⟨hf.1,λw' hm hF=>hk.fin a' hf.2.1 w' hm (hf.2.2 w' hF)⟩) _ _ _ _ h1) ord _ a inv0 hord h
 have hfin:=Ch.dJ (P:=P) (md:=.any) (ops:=l.toArray) (W:=w) (Q:=Q) (g:=l.toArray.size - n) hLT (λlisted a F w' hw hF hf=>by
  have:=wpAny_of_seq (md:=.any) (Q':=Q) (l.drop n) n listed a w' (λj=>by simp [List.getElem?_drop]) zqz (hf.2 w' hw hF)
  rwa [hdl] at this) _ _ _ _ { w with drawn:=w.drawn+1 } (λ_ _ _ _=>trivial) ((Mod.refl [] w).drew) trivial H
 have hl2:ord.length+c.length+(l.toArray.size - n)=l.toArray.size:=by simp only [List.length_map] at hlen;omega
 rwa [hl2] at hfin
where
 fin_mono {P:Program} {md:Region.Mode} {ops:Array Oper} {W:World} {L:Nat->Option Fct} {n:Nat} {Fin Fin':Array Bool->Act->(World->Prop)->Prop} (hF:∀ listed a F,Fin listed a F->Fin' listed a F) :
   ∀ (f:Nat) (listed:Array Bool) (a:Act) (F:World->Prop),Ch.dw P md ops W L n Fin f listed a F->Ch.dw P md ops W L n Fin' f listed a F
  | 0,_,_,_,h=>hF _ _ _ h
  | f+1,_,_,_,h=>⟨h.1,λi hi=>⟨(h.2 i hi).1,Ch.ja (λa F h=>fin_mono hF f _ a F h) (h.2 i hi).2⟩⟩
theorem pS {id:Nat} {Q:Exit->Act->World->Prop} {a:Act} {w:World} {l:List Oper} (n:Nat) (mask:List Bool) (c:List (Nat×Fct))
  (hm:P.follows .mixedOrders=true) (hB:(Ce .any l.toArray n (ni 0 mask) (c.map (·.1)) && decide (mask.length<=l.length))=true) (hT:∀ p∈c,∀ v,aG (p.2 v))
  (h:cM P l.toArray w (wX P l.toArray w c λa' w'=>wpList P l.toArray Q (l.drop n) a' w') (aQ l mask) a) :
  (Code.region id l.toArray true).wp P Q a w:=by
 simp only [Bool.and_eq_true,decide_eq_true_eq] at hB;refine wp_region_any hm ?_;have h2:=dB mask 0 l a zk hB.2 h.o;exact qd n (ni 0 mask) c hB.1 hT h2
theorem jW {id:Nat} {Q:Exit->Act->World->Prop} {a:Act} {w:World} {l:List Oper} (ps:List (Nat×Nat)) (l':List Oper) (n:Nat) (mask:List Bool) (c:List (Nat×Fct))
  (hm:P.follows .mixedOrders=true) (hl:l'=Ch.waitsFor ps l) (hB:(Ce .any l'.toArray n (ni 0 mask) (c.map (·.1)) && decide (mask.length<=l'.length) && Ch.nD .any ps l)=true) (hT:∀ p∈c,∀ v,aG (p.2 v))
  (hQ:∀ c a d v w,Q (.panic c) (a.put d v) w->Q (.panic c) a w)
  (h:cM P l'.toArray w (wX P l'.toArray w c λa' w'=>wpList P l'.toArray Q (l'.drop n) a' w') (aQ l' mask) a) :
  (Code.region id l.toArray true).wp P Q a w:=by
 simp only [Bool.and_eq_true,decide_eq_true_eq] at hB;refine wp_region_any hm ?_;refine Ch.lF hQ ps l _ _ hB.2 ?_;rw [<- hl];have h2:=dB mask 0 l' a zk hB.1.2 h.o;exact qd n (ni 0 mask) c hB.1.1 hT h2
theorem jY {l:List Oper} {c:List (Nat×Fct)} {a0:Act} {i:Nat} {T:Fct} (o:Oper) (ho:l[i]?=some o) (hg:o.guard=none)
  (h:∀ a,nM l.toArray c a0 a->∀ w,Mod [] W w->Dep l.toArray c a o w->∀ (K:Act->World->Prop) (Q:Exit->Act->World->Prop),(∀ v w',Mod [] w w'->T v w'->K (a.put o.dst v) w')->o.wp P a w K Q):js P l.toArray W c a0 (i,T):=by
 intro o' ho';have:o'=o:=by
  have h1:l.toArray[i]?=l[i]?:=by simp
  rw [h1,ho] at ho';exact (Option.some.inj ho').symm
 subst this;exact ⟨hg,λa hl w hw hd=>h a hl w hw hd _ _ λv w' m t=>⟨v,rfl,m,t⟩⟩
theorem rE {l:List Oper} {c:List (Nat×Fct)} {a:Act} {o:Oper} {w:World} (h:Dep l.toArray c a o w) (k j:Nat) (d:Nat) {T:Fct} (hq:c[k]?=some (j,T)) (hb:(o.after.any λe=>Region.binds .any e && e.on == j)=true) (hd:(l[j]?).bind (·.dst)=some d):∃ v,a.eval (.tmp d)=v/\T v w:=by
 obtain ⟨e,he,h2⟩:=Array.any_eq_true'.1 hb;simp only [Bool.and_eq_true,beq_iff_eq] at h2;obtain ⟨v,h3,h4⟩:=h e he h2.1 (j,T) (List.mem_of_getElem? hq) h2.2.symm;refine ⟨v,?_,h4⟩;unfold Ch.dval at h3;have h1:l.toArray[j]?=l[j]?:=by simp
 rw [h1,hd] at h3;simp only [Option.bind_some] at h3;show a.tmps.getD d undef=v;rw [Array.getD_eq_getD_getElem?,h3];rfl
theorem jh {l:List Oper} {c:List (Nat×Fct)} {a0 a:Act} (h:nM l.toArray c a0 a) {t:Nat} (hc:(c.all λp=>match l[p.1]? with | some o=>o.dst != some t | none=>true)=true):a.eval (.tmp t)=a0.eval (.tmp t):=by
 show a.tmps.getD t undef=a0.tmps.getD t undef;rw [Array.getD_eq_getD_getElem?,Array.getD_eq_getD_getElem?,h.same t λp hp o ho hd=>?_];have h1:=List.all_eq_true.1 hc p hp;have h2:l.toArray[p.1]?=l[p.1]?:=by simp
 rw [h2] at ho;rw [ho] at h1;simp only [hd,bne_self_eq_false] at h1;cases h1
theorem qC {l:List Oper} {c:List (Nat×Fct)} {a0 a:Act} (h:nM l.toArray c a0 a):∀ (xs:List Operand),(xs.all λx=>match x with | .tmp t=>(c.all λp=>match l[p.1]? with | some o=>o.dst != some t | none=>true) | _=>true)=true->xs.map a.eval=xs.map a0.eval
 | [],_=>rfl
 | x::xs,hc=>by
  rw [List.all_cons,Bool.and_eq_true] at hc;rw [List.map_cons,List.map_cons,qC h xs hc.2]
  congr 1
  cases x with
  | tmp t=>exact jh h hc.1
  | _=>rfl
def xA (ops:Array Oper) (W:World) (E:Act->World->Prop):List (Nat×Fct)->Act->(World->Prop)->Prop
 | [],a,F=>∀ w,Mod [] W w->F w->E a w
 | p::c,a,F=>∀ o,ops[p.1]?=some o->∀ v,xA ops W E c (a.put o.dst v) (λw=>F w/\p.2 v w)
theorem zL {E:Act->World->Prop}:∀ (c:List (Nat×Fct)) (a0:Act) (F:World->Prop),Ch.iP ops (c.map (·.1)) a0.tmps.size=true->xA ops W E c a0 F->∀ a,nM ops c a0 a->∀ w,Mod [] W w->F w->All ops c a w->E a w
 | [],a0,F,_,h,a,hl,w,hw,hF,_=>by
  have:a=a0:=by
   obtain ⟨t,d⟩:=a;obtain ⟨t0,d0⟩:=a0;have h1:t=t0:=Array.ext_getElem? λi=>hl.same i (λp hp=>by cases hp)
   have h2:d=d0:=hl.defers;rw [h1,h2]
  rw [this];exact h w hw hF
 | p::c,a0,F,hs,h,a,hl,w,hw,hF,hA=>by
  obtain ⟨o,d,ho,hd,hds,hother⟩:=Ch.lX (i:=p.1) hs zk;obtain ⟨v,h1,h2⟩:=hA p zk;have h3:a.tmps[d]?=some v:=by
   unfold Ch.dval at h1;rw [ho] at h1;simpa [hd] using h1
  have hs':Ch.iP ops (c.map (·.1)) (a0.put o.dst v).tmps.size=true:=by
   rw [Ch.oD];unfold Ch.iP at hs ⊢;rw [List.map_cons,List.all_cons,Bool.and_eq_true] at hs;exact hs.2
  refine zL c _ _ hs' (h o ho v) a ⟨by rw [Ch.oD];exact hl.size,by rw [hl.defers];cases hx:o.dst <;> rfl,λt ht=>?_⟩ w hw ⟨hF,h2⟩ λq hq=>hA q (List.mem_cons_of_mem _ hq)
  by_cases htd:t=d
  ·subst htd;rw [h3];simp [Act.put,hd,hds]
  ·rw [hl.same t λq hq o' ho' hd'=>?_]
   ·simp [Act.put,hd,Array.getElem?_setIfInBounds_ne (Ne.symm htd)]
   ·rcases List.mem_cons.1 hq with rfl | hq
    ·rw [ho] at ho';obtain rfl:=Option.some.inj ho';rw [hd] at hd';exact htd (Option.some.inj hd').symm
    ·exact ht q hq o' ho' hd'
theorem uS {l:List Oper} {c:List (Nat×Fct)} {E:Act->World->Prop} {a0:Act} (hs:Ch.iP l.toArray (c.map (·.1)) a0.tmps.size=true) (h1:∀ p∈c,js P l.toArray W c a0 p) (h2:xA l.toArray W E c a0 λ_=>True):wX P l.toArray W c E a0 :=
 ⟨h1,λa hl w hw hA=>zL c a0 _ hs h2 a hl w hw trivial hA,hs⟩
theorem lV {l:List Oper} {c:List (Nat×Fct)} {a0:Act}:∀ p∈([]:List (Nat×Fct)),js P l.toArray W c a0 p:=λp hp=>by cases hp
theorem bP {l:List Oper} {c c':List (Nat×Fct)} {a0:Act} {q:Nat×Fct} (h:js P l.toArray W c a0 q) (h':∀ p∈c',js P l.toArray W c a0 p):∀ p∈q::c',js P l.toArray W c a0 p:=λp hp=>by
 rcases List.mem_cons.1 hp with rfl | hp
 ·exact h
 ·exact h' p hp
theorem dh {l:List Oper} {E:Act->World->Prop} {c:List (Nat×Fct)} {ts:List Value} {df:List Deferred} {F:World->Prop} {i:Nat} {T:Fct} {g:Value->List Value} (d:Nat) (o:Oper) (ho:l[i]?=some o) (hd:o.dst=some d) (hf:∀ v,ts.set d v=g v)
  (h:∀ v,xA l.toArray W E c { tmps:=(g v).toArray,defers:=df } (λw=>F w/\T v w)):xA l.toArray W E ((i,T)::c) { tmps:=ts.toArray,defers:=df } F:=by
 intro o' ho' v;have:o'=o:=by
  have h1:l.toArray[i]?=l[i]?:=by simp
  simp only at ho';rw [h1,ho] at ho';exact (Option.some.inj ho').symm
 subst this;have e:Act.put { tmps:=ts.toArray,defers:=df } o'.dst v={ tmps:=(g v).toArray,defers:=df }:=by rw [hd];unfold Act.put;simp only [List.setIfInBounds_toArray,hf]
 rw [e];exact h v
theorem rB {l:List Oper} {E:Act->World->Prop} {a:Act} {F:World->Prop} (h:∀ w,Mod [] W w->F w->E a w):xA l.toArray W E [] a F:=h
end
end Dg
theorem me {P:Program} {o:Oper} {a:Act} {w:World} {K:Act->World->Prop} {Q:Exit->Act->World->Prop} {T:Value->World->Prop} {f:FuncId} {xs:List Operand} {vs:List Value} {tys:Array TypeId} (ho:o.op=.call { callee:=.value (.func f),args:=xs.toArray,argTypes:=tys }) (hv:xs.map a.eval=vs)
  (hf:∀ (a:Array Value) (w:World),(callFunc f a).run P w=.ok (.enter f a) w) (h:Calls P f vs.toArray w λe w'=>∃ v,e=.returned v/\T v w'/\Mod [] w w') (hK:∀ v w',Mod [] w w'->T v w'->K (a.put o.dst v) w'):o.wp P a w K Q:=by
 unfold Oper.wp execOp;have e:(xs.toArray.map a.eval)=vs.toArray:=by rw [<- hv];simp
 simp only [ho,resolve,invoke,Deferred.ofValue,Act.eval,Sem.run_bind,Sem.run_pure,Result.andThen_ok];rw [e,Array.append_empty,Array.empty_append,hf];refine Calls.mono h ?_;rintro e w' ⟨v,rfl,t,m⟩;exact hK v w' m t
theorem AK {P:Program} {o:Oper} {a:Act} {w w1:World} {K:Act->World->Prop} {Q:Exit->Act->World->Prop} {r v:Value} {t:TypeId} (s:Operand) (ho:o.op=.buildSlice t 1 #[(0,s)]) (hs:a.eval s=v) (hr:(Instr.buildSlice t 1 #[(0,v)]).run P w=.ok r w1) (hK:K (a.put o.dst r) w1):o.wp P a w K Q:=by
 unfold Oper.wp execOp;simp only [ho,List.map_toArray,List.map_cons,List.map_nil,hs,Sem.run_bind,Sem.run_pure,Result.andThen_ok,hr];exact hK
theorem AO {P:Program} {o:Oper} {a:Act} {w w1:World} {K:Act->World->Prop} {Q:Exit->Act->World->Prop} {r:Value} {t:TypeId} (ho:o.op=.buildSlice t 0 #[]) (hr:(Instr.buildSlice t 0 #[]).run P w=.ok r w1) (hK:K (a.put o.dst r) w1):o.wp P a w K Q:=by
 unfold Oper.wp execOp;simp only [ho,List.map_toArray,List.map_nil,Sem.run_bind,Sem.run_pure,Result.andThen_ok,hr];exact hK
theorem Dg.dV {P:Program} {W:World} {l:List Oper} {c:List (Nat×Dg.Fct)} {a0:Act} {i:Nat} {T:Dg.Fct} {o:Oper} {f:FuncId} {xs:List Operand} {vs:List Value} {tys:Array TypeId} (h:∀ w,Mod [] W w->Calls P f vs.toArray w λe w'=>∃ v,e=.returned v/\T v w'/\Mod [] w w')
  (ho:l[i]?=some o:=by rfl) (hg:o.guard=none:=by rfl) (hop:o.op=.call { callee:=.value (.func f),args:=xs.toArray,argTypes:=tys }:=by rfl) (hc:(xs.all λx=>match x with | .tmp t=>(c.all λp=>match l[p.1]? with | some o=>o.dst != some t | none=>true) | _=>true)=true:=by kernel_rfl)
  (hv:xs.map a0.eval=vs:=by kernel_rfl) (hf:∀ (a:Array Value) (w:World),(callFunc f a).run P w=.ok (.enter f a) w:=by (intro a w;kernel_rfl)):Dg.js P l.toArray W c a0 (i,T) :=
 Dg.jY o ho hg λa hl w hw _ K Q hK=>me hop ((Dg.qC hl xs hc).trans hv) hf (h w hw) λv w' m t=>hK v w' m t
section
variable {P:Program} {md:Region.Mode} {ops ops':Array Oper} {Q:Exit->Act->World->Prop} {t i:Nat} {ot oi:Oper}
def uQ (md:Region.Mode) (ops:Array Oper) (t i:Nat):Bool :=
 match ops[t]?,ops[i]? with
 | some ot,some oi=>decide (t≠i) && oi.guard.isNone && (match oi.op with | .move _=>true | _=>false) &&
  oi.after.all (λe=>!Region.binds md e || ot.after.any λe'=>Region.binds md e' && e'.on == e.on) &&
  (List.range ops.size).all λj=>j == i || oi.after.any (λe=>Region.binds md e && e.on == j) || match ops[j]? with
   | some oj=>oj.after.any (λe=>Region.binds md e && e.on == i) || oi.apart ops oj
   | none=>true
 | _,_=>false
theorem uc {o:Oper} (hg:o.guard=none) {x:Operand} (ho:o.op=.move x) {j:Nat} (hj:ops[j]?=some o) {K:Act->World->Prop} {a:Act} {w:World} (hh:wpOp P ops Q j K a w) :
  ∃ v,Yields P ops o v a/\K (a.put o.dst v) w:=by
 unfold wpOp at hh;have hw:Region.wanted o (yielded ops a.tmps)=true:=by unfold Region.wanted;rw [hg]
 simp only [hj,hw,if_true] at hh;have hE:execOp a.eval o=pure (.value (a.eval x)):=by
  unfold execOp;simp only [ho]
 have h1:∀ w,(execOp a.eval o).run P w=.ok (.value (a.eval x)) w:=λw=>by rw [hE];rfl
 have h2:(execOp a.eval o).runT P w #[]=(.ok (.value (a.eval x)) w,#[]):=by rw [hE];rfl
 refine ⟨a.eval x,.inl ⟨hw,h1⟩,?_⟩;rcases hh with hh | hh
 ·unfold Oper.wp at hh;rw [h1 w] at hh;exact hh
 ·unfold Oper.asks at hh;rw [h2] at hh;simp at hh
theorem rI (W:gX ops ops' t i ot) (hB:uQ md ops t i=true) (hs:Region.noSelect ops=true) (hQ:∀ c a d v w,Q (.panic c) (a.put d v) w->Q (.panic c) a w) :
  ∀ (g:Nat) (listed:Array Bool) (a:Act) (w:World),listed.getD i true=false->wpAny P md ops' Q g listed a w->wpAny P md ops Q g listed a w:=by
 unfold uQ at hB;rw [W.old] at hB;cases ho:ops[i]? with
 | none=>rw [ho] at hB;cases hB
 | some oi =>
  rw [ho] at hB;simp only [Bool.and_eq_true,decide_eq_true_eq] at hB;obtain ⟨⟨⟨⟨hne,hg⟩,hx⟩,hdeps⟩,hfree⟩:=hB;have hg':oi.guard=none:=by simpa using hg
  obtain ⟨x,hop⟩:∃ x,oi.op=.move x:=by
   cases hop:oi.op <;> simp [hop] at hx
   exact ⟨_,rfl⟩
  have hT:∀ listed,listed.getD i true=false->t∈Region.ready md ops listed->i∈Region.ready md ops listed:=λlisted hun ht=>by
   rw [mem_ready] at *
   obtain ⟨_,o,ho',hall⟩:=ht;rw [W.old] at ho';obtain rfl:=Option.some.inj ho';refine ⟨hun,oi,ho,λe he hb=>?_⟩;have h1:=Array.all_eq_true_iff_forall_mem.1 hdeps e he;rw [hb] at h1;simp only [Bool.not_true,Bool.false_or] at h1;obtain ⟨e',he',h2⟩:=Array.any_eq_true'.1 h1;simp only [Bool.and_eq_true,beq_iff_eq] at h2;rw [<- h2.2];exact hall e' he' h2.1
  have hF:∀ listed,i∈Region.ready md ops listed->∀ j oj,ops[j]?=some oj->j≠i->listed.getD j true=false->(∀ e∈oj.after,Region.binds md e=true->e.on≠i)->oi.apart ops oj=true:=λlisted hr j oj hj hji hun hno=>by
   have h1:=List.all_eq_true.1 hfree j (List.mem_range.2 (Array.getElem?_eq_some_iff.1 hj).1);simp only [hj,Bool.or_eq_true,beq_iff_eq,hji,false_or] at h1;rcases h1 with h1 | h1 | h1
   ·obtain ⟨e,he,h2⟩:=Array.any_eq_true'.1 h1;simp only [Bool.and_eq_true,beq_iff_eq] at h2;obtain ⟨_,o,ho',hall⟩:=mem_ready.1 hr;rw [ho] at ho';obtain rfl:=Option.some.inj ho';have h3:=hall e he h2.1;rw [h2.2,getD_both hun] at h3;cases h3
   ·obtain ⟨e,he,h2⟩:=Array.any_eq_true'.1 h1;simp only [Bool.and_eq_true,beq_iff_eq] at h2;exact absurd h2.2 (hno e he h2.1)
   ·exact h1
  intro g
  induction g with
  | zero =>
   intro listed a w hun hh;refine ⟨List.eq_nil_iff_forall_not_mem.2 λj hj=>?_,hh.2⟩
   by_cases hjt:j=t
   ·subst hjt;have:=W.fK (Ne.symm hne) (hT listed hun hj);rw [hh.1] at this;exact absurd this List.not_mem_nil
   ·have:=W.fK hjt hj;rw [hh.1] at this;exact absurd this List.not_mem_nil
  | succ g ih =>
   intro listed a w hun hh
   by_cases hr:i∈Region.ready md ops listed
   ·obtain ⟨v,hy,hk⟩:=uc hg' hop ho (W.wpOp (hh.2 i (W.fK (Ne.symm hne) hr)));refine wpAny_first ho (Region.noSelect_spec hs) (λc a w=>hQ c a oi.dst v w) g listed a w (hF listed hr) hr hy ?_;refine W.behind g _ _ _ ?_ hk;have hlt:i<listed.size:=by
     rcases Nat.lt_or_ge i listed.size with h' | h'
     ·exact h'
     ·rw [Array.getD_eq_getD_getElem?,Array.getElem?_eq_none h'] at hun;cases hun
    simp [hlt]
   ·refine ⟨λh0=>hh.1 (List.eq_nil_iff_forall_not_mem.2 λj hj=>?_),λj hj=>?_⟩
    ·have:=W.oo hj;rw [h0] at this;exact absurd this List.not_mem_nil
    ·have hji:j≠i:=λhe=>hr (he ▸ hj)
     have hjt:j≠t:=λhe=>hr (hT listed hun (he ▸ hj))
     refine wpOp_mono (λa' w' h'=>ih _ a' w' ?_ h') (W.wpOp (hh.2 j (W.fK hjt hj)));rw [getD_set_ne true hji];exact hun
end
section
variable {P:Program} {md:Region.Mode}
def qW (md:Region.Mode):List (Nat×Nat)->List Oper->Bool
 | [],_=>true
 | p::ps,l=>uQ md l.toArray p.1 p.2 && Region.noSelect l.toArray && decide (p.1<l.length) && decide (p.2<l.length) && qW md ps (eK p.1 p.2 l)
theorem mH {Q:Exit->Act->World->Prop} (hQ:∀ c a d v w,Q (.panic c) (a.put d v) w->Q (.panic c) a w):∀ (ps:List (Nat×Nat)) (l:List Oper) (a:Act) (w:World),qW md ps l=true ->
  wpAny P md (Ch.waitsFor ps l).toArray Q (Ch.waitsFor ps l).toArray.size (Array.replicate (Ch.waitsFor ps l).toArray.size false) a w->wpAny P md l.toArray Q l.toArray.size (Array.replicate l.toArray.size false) a w
 | [],l,a,w,_,h=>h
 | p::ps,l,a,w,hB,h=>by
  simp only [qW,Bool.and_eq_true,decide_eq_true_eq] at hB;obtain ⟨⟨⟨⟨hf,hs⟩,ht⟩,hi⟩,hr⟩:=hB;have H:=mH hQ ps (eK p.1 p.2 l) a w hr h;have e:(eK p.1 p.2 l).toArray.size=l.toArray.size:=by simp [mJ]
  rw [e] at H;exact rI (oP (gE ht)) hf hs hQ _ _ _ _ (getD_in zql (getD_replicate_false _ _)) H
theorem nt {id:Nat} {Q:Exit->Act->World->Prop} {a:Act} {w:World} {l:List Oper} (ps:List (Nat×Nat)) (l':List Oper) (hl:l'=Ch.waitsFor ps l) (n:Nat) (mask:List Bool) (late:List (Nat×(Value->World->Prop)))
  (hm:P.follows .mixedOrders=true)
  (hB:(Region.qa .any l'.toArray n (ni 0 mask) (late.map (·.1)) && decide (mask.length<=l'.length) && qW .any ps l)=true) (hT:∀ p∈late,∀ v,aG (p.2 v))
  (hQ:∀ c a d v w,Q (.panic c) (a.put d v) w->Q (.panic c) a w)
  (h:cM P l'.toArray w (λa'=>dP P l'.toArray w (λa'' F=>∀ w',Mod [] w w'->F w'->wpList P l'.toArray Q (l'.drop n) a'' w') late a' (λ_=>True)) (aQ l' mask) a) :
  (Code.region id l.toArray true).wp P Q a w:=by
 simp only [Bool.and_eq_true,decide_eq_true_eq] at hB;refine wp_region_any hm ?_;refine mH hQ ps l _ _ hB.2 ?_;rw [<- hl];exact uW (P:=P) (Q:=Q) n (ni 0 mask) late hB.1.1 hT (dB mask 0 l' a zk hB.1.2 h.o)
end
def iW (k:Nat):Code->Option Code
 | .block n a=>if n == k then some (.block n a) else iW k a
 | .seq a b=>(iW k a).orElse λ_=>iW k b
 | .cond _ a b=>(iW k a).orElse λ_=>iW k b
 | .loop a=>iW k a
 | .scope a=>iW k a
 | _=>none
def kq (k:Nat):Code->Option Code
 | .cond c a b=>match c with | .tmp n=>if n == k then some (.cond c a b) else (kq k a).orElse λ_=>kq k b | _=>(kq k a).orElse λ_=>kq k b
 | .seq a b=>(kq k a).orElse λ_=>kq k b
 | .block _ a=>kq k a
 | .loop a=>kq k a
 | .scope a=>kq k a
 | _=>none
end Go.Proofs.YthheaflbbficgaaGreat
