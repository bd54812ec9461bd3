/- Float, Chain, Ring, SeqW, SeqA, SeqR, Mini, Doom, Kit, IntMap, OwnF, MonoT, FloatMove, FloatMoves, Dag, FindC, SeqN. -/
import Derived.Test.YthheaflbbficgaaGreatGBase
import Derived.Deep.LoopGhost
import Derived.Deep.QuietTactic
import Derived.BigQuiet
import Derived.RegionTactic
import Derived.IntWalk
import Derived.WalkLawsBesides
import Derived.Deep.DeepCutAuto
import Derived.MapKept
import Derived.Maps.RangeRun
import Derived.Deep.CutBlock
set_option linter.all false
namespace Go.Proofs.YthheaflbbficgaaGreat
open Go.RowKit
def waitFor (t i:Nat) (l:List Oper):List Oper:=l.modify t fun o=>{ o with after:=o.after.push ⟨i,.data⟩ }
section
variable {P:Program} {md:Region.Mode} {ops ops':Array Oper} {Q:Exit->Act->World->Prop} {t i:Nat} {ot oi:Oper}
structure Waits (ops ops':Array Oper) (t i:Nat) (ot:Oper):Prop where
 other:∀ j,j≠t->ops'[j]?=ops[j]?
 old:ops[t]?=some ot
 new:ops'[t]?=some { ot with after:=ot.after.push ⟨i,.data⟩ }
theorem Waits.yielded (h:Waits ops ops' t i ot) (tmps:Array Value):yielded ops' tmps=yielded ops tmps:=by
 funext j
 unfold Go.yielded
 by_cases hj:j=t
 ·subst hj;rw [h.old,h.new];rfl
 ·rw [h.other j hj]
theorem Waits.wpOp (h:Waits ops ops' t i ot) {j:Nat} {K:Act->World->Prop} {a:Act} {w:World} (hh:wpOp P ops' Q j K a w):wpOp P ops Q j K a w:=by
 unfold Go.wpOp at *
 rw [h.yielded] at hh
 by_cases hj:j=t
 ·subst hj;rw [h.new] at hh;rw [h.old];exact hh
 ·rw [h.other j hj] at hh;exact hh
theorem Waits.ready_of (h:Waits ops ops' t i ot) {j:Nat} {listed:Array Bool} (hj:j∈Region.ready md ops' listed):j∈Region.ready md ops listed:=by
 rw [mem_ready] at *
 obtain ⟨h0,o,ho,hall⟩:=hj
 by_cases hjt:j=t
 ·subst hjt;rw [h.new] at ho;obtain rfl:=Option.some.inj ho;exact ⟨h0,ot,h.old,fun e he hb=>hall e (Array.mem_push.2 (.inl he)) hb⟩
 ·exact ⟨h0,o,by rw [<- h.other j hjt];exact ho,hall⟩
theorem Waits.ready_ne (h:Waits ops ops' t i ot) {j:Nat} {listed:Array Bool} (hjt:j≠t) (hj:j∈Region.ready md ops listed):j∈Region.ready md ops' listed:=by
 rw [mem_ready] at *
 obtain ⟨h0,o,ho,hall⟩:=hj;exact ⟨h0,o,by rw [h.other j hjt];exact ho,hall⟩
theorem Waits.ready_in (h:Waits ops ops' t i ot) {j:Nat} {listed:Array Bool} (hi:listed.getD i false=true) (hj:j∈Region.ready md ops listed):j∈Region.ready md ops' listed:=by
 by_cases hjt:j=t
 ·subst hjt;rw [mem_ready] at *
  obtain ⟨h0,o,ho,hall⟩:=hj;rw [h.old] at ho;obtain rfl:=Option.some.inj ho;refine ⟨h0,_,h.new,fun e he hb=>?_⟩;rcases Array.mem_push.1 he with he | rfl
  ·exact hall e he hb
  ·exact hi
 ·exact h.ready_ne hjt hj
theorem Waits.behind (h:Waits ops ops' t i ot):∀ (g:Nat) (listed:Array Bool) (a:Act) (w:World),listed.getD i false=true->wpAny P md ops' Q g listed a w->wpAny P md ops Q g listed a w
 | 0,listed,a,w,hi,hh=>⟨List.eq_nil_iff_forall_not_mem.2 (fun j hj=>by
   have:=h.ready_in hi hj;rw [hh.1] at this
   exact absurd this (List.not_mem_nil)),hh.2⟩
 | g+1,listed,a,w,hi,hh=>⟨fun h0=>hh.1 (by
   rw [List.eq_nil_iff_forall_not_mem];intro j hj;have:=h.ready_of hj;rw [h0] at this
   cases this),fun j hj=>wpOp_mono (fun a' w' h'=>h.behind g _ a' w' (getD_set_true hi) h') (h.wpOp (hh.2 j (h.ready_in hi hj)))⟩
def floatB (md:Region.Mode) (ops:Array Oper) (t i:Nat):Bool :=
 match ops[t]?,ops[i]? with
 | some ot,some oi=>decide (t≠i) && oi.guard.isNone && (match oi.op with | .extract _ _=>true | _=>false) &&
  oi.after.all (fun e=>!Region.binds md e || ot.after.any fun e'=>Region.binds md e' && e'.on == e.on) &&
  (List.range ops.size).all fun j=>j == i || oi.after.any (fun e=>Region.binds md e && e.on == j) || match ops[j]? with
   | some oj=>oj.after.any (fun e=>Region.binds md e && e.on == i) || oi.apart ops oj
   | none=>true
 | _,_=>false
theorem extract_yields {o:Oper} (hg:o.guard=none) {x:Operand} {ix:Nat} (ho:o.op=.extract x ix) {j:Nat} (hj:ops[j]?=some o) {K:Act->World->Prop} {a:Act} {w:World} (hh:wpOp P ops Q j K a w) :
  ∃ v,Yields P ops o v a/\K (a.put o.dst v) w:=by
 unfold wpOp at hh;have hw:Region.wanted o (yielded ops a.tmps)=true:=by unfold Region.wanted;rw [hg]
 simp only [hj,hw,if_true] at hh;have stuckCase:∀ s,(∀ w,(execOp a.eval o).run P w=.halt (.stuck s) w)->(execOp a.eval o).runT P w #[]=(.halt (.stuck s) w,#[])->False:=fun s h1 h2=>by
  rcases hh with hh | hh
  ·unfold Oper.wp at hh;rw [h1 w] at hh;exact hh
  ·unfold Oper.asks at hh;rw [h2] at hh;simp at hh
 have okCase:∀ v,(∀ w,(execOp a.eval o).run P w=.ok (.value v) w)->(execOp a.eval o).runT P w #[]=(.ok (.value v) w,#[])->∃ v,Yields P ops o v a/\K (a.put o.dst v) w:=fun v h1 h2=>by
  refine ⟨v,.inl ⟨hw,h1⟩,?_⟩;rcases hh with hh | hh
  ·unfold Oper.wp at hh;rw [h1 w] at hh;exact hh
  ·unfold Oper.asks at hh;rw [h2] at hh;simp at hh
 have hE:execOp a.eval o=(do pure (.value (<- Instr.extract (a.eval x) ix))):=by
  unfold execOp;simp only [ho]
 rw [hE] at stuckCase okCase;generalize a.eval x=y at *
 cases y with
 | tuple vs =>
  cases hv:vs[ix]? with
  | none=>exact (stuckCase _ (fun w=>by simp [Instr.extract,hv,go_sem];rfl) (by simp [Instr.extract,hv,go_sem];rfl)).elim
  | some v=>exact okCase v (fun w=>by simp [Instr.extract,hv,go_sem]) (by simp [Instr.extract,hv,go_sem];rfl)
 | _=>exact (stuckCase _ (fun w=>by simp [Instr.extract,go_sem];rfl) (by simp [Instr.extract,go_sem];rfl)).elim
theorem wpAny_float (W:Waits ops ops' t i ot) (hB:floatB md ops t i=true) (hs:Region.noSelect ops=true) (hQ:∀ c a d v w,Q (.panic c) (a.put d v) w->Q (.panic c) a w) :
  ∀ (g:Nat) (listed:Array Bool) (a:Act) (w:World),listed.getD i true=false->wpAny P md ops' Q g listed a w->wpAny P md ops Q g listed a w:=by
 unfold floatB at hB;rw [W.old] at hB;cases ho:ops[i]? with
 | none=>rw [ho] at hB;cases hB
 | some oi =>
  rw [ho] at hB;simp only [Bool.and_eq_true,decide_eq_true_eq] at hB;obtain ⟨⟨⟨⟨hne,hg⟩,hx⟩,hdeps⟩,hfree⟩:=hB;have hg':oi.guard=none:=by simpa using hg
  obtain ⟨x,ix,hop⟩:∃ x ix,oi.op=.extract x ix:=by
   cases hop:oi.op <;> simp [hop] at hx
   exact ⟨_,_,rfl⟩
  have hT:∀ listed,listed.getD i true=false->t∈Region.ready md ops listed->i∈Region.ready md ops listed:=fun listed hun ht=>by
   rw [mem_ready] at *
   obtain ⟨_,o,ho',hall⟩:=ht;rw [W.old] at ho';obtain rfl:=Option.some.inj ho';refine ⟨hun,oi,ho,fun e he hb=>?_⟩;have h1:=Array.all_eq_true_iff_forall_mem.1 hdeps e he;rw [hb] at h1;simp only [Bool.not_true,Bool.false_or] at h1;obtain ⟨e',he',h2⟩:=Array.any_eq_true'.1 h1;simp only [Bool.and_eq_true,beq_iff_eq] at h2;rw [<- h2.2];exact hall e' he' h2.1
  have hF:∀ listed,i∈Region.ready md ops listed->∀ j oj,ops[j]?=some oj->j≠i->listed.getD j true=false->(∀ e∈oj.after,Region.binds md e=true->e.on≠i)->oi.apart ops oj=true:=fun listed hr j oj hj hji hun hno=>by
   have h1:=List.all_eq_true.1 hfree j (List.mem_range.2 (Array.getElem?_eq_some_iff.1 hj).1);simp only [hj,Bool.or_eq_true,beq_iff_eq,hji,false_or] at h1;rcases h1 with h1 | h1 | h1
   ·obtain ⟨e,he,h2⟩:=Array.any_eq_true'.1 h1;simp only [Bool.and_eq_true,beq_iff_eq] at h2;obtain ⟨_,o,ho',hall⟩:=mem_ready.1 hr;rw [ho] at ho';obtain rfl:=Option.some.inj ho';have h3:=hall e he h2.1;rw [h2.2,getD_both hun] at h3;cases h3
   ·obtain ⟨e,he,h2⟩:=Array.any_eq_true'.1 h1;simp only [Bool.and_eq_true,beq_iff_eq] at h2;exact absurd h2.2 (hno e he h2.1)
   ·exact h1
  intro g
  induction g with
  | zero =>
   intro listed a w hun hh;refine ⟨List.eq_nil_iff_forall_not_mem.2 fun j hj=>?_,hh.2⟩
   by_cases hjt:j=t
   ·subst hjt;have:=W.ready_ne (Ne.symm hne) (hT listed hun hj);rw [hh.1] at this;exact absurd this List.not_mem_nil
   ·have:=W.ready_ne hjt hj;rw [hh.1] at this;exact absurd this List.not_mem_nil
  | succ g ih =>
   intro listed a w hun hh
   by_cases hr:i∈Region.ready md ops listed
   ·obtain ⟨v,hy,hk⟩:=extract_yields hg' hop ho (W.wpOp (hh.2 i (W.ready_ne (Ne.symm hne) hr)));refine wpAny_first ho (Region.noSelect_spec hs) (fun c a w=>hQ c a oi.dst v w) g listed a w (hF listed hr) hr hy ?_;refine W.behind g _ _ _ ?_ hk;have hlt:i<listed.size:=by
     rcases Nat.lt_or_ge i listed.size with h' | h'
     ·exact h'
     ·rw [Array.getD_eq_getD_getElem?,Array.getElem?_eq_none h'] at hun;cases hun
    simp [hlt]
   ·refine ⟨fun h0=>hh.1 (List.eq_nil_iff_forall_not_mem.2 fun j hj=>?_),fun j hj=>?_⟩
    ·have:=W.ready_of hj;rw [h0] at this;exact absurd this List.not_mem_nil
    ·have hji:j≠i:=fun he=>hr (he ▸ hj)
     have hjt:j≠t:=fun he=>hr (hT listed hun (he ▸ hj))
     refine wpOp_mono (fun a' w' h'=>ih _ a' w' ?_ h') (W.wpOp (hh.2 j (W.ready_ne hjt hj)));rw [getD_set_ne true hji];exact hun
theorem wait_waits {l:List Oper} {t i:Nat} {o:Oper} (h:l[t]?=some o):Waits l.toArray (waitFor t i l).toArray t i o:=by
 refine ⟨fun j hj=>?_,by simpa using h,?_⟩
 ·simp only [gA,waitFor];rw [List.getElem?_modify];cases l[j]? <;> simp [Ne.symm hj]
 ·simp only [gA,waitFor];rw [List.getElem?_modify,h];simp
theorem wait_length (t i:Nat) (l:List Oper):(waitFor t i l).length=l.length:=by simp [waitFor]
theorem wpAny_mono {Q:Exit->Act->World->Prop} {a:Act} {w:World} {l:List Oper} (n:Nat) (ord:List Nat) (late:List (Nat×(Value->World->Prop)))
  (hB:Region.monoB .any l.toArray n ord (late.map (·.1))=true) (hT:∀ p∈late,∀ v,Stays (p.2 v))
  (h:wpSteady P l.toArray w (fun a'=>wpLates P l.toArray w (fun a'' F=>∀ w',Mod [] w w'->F w'->wpList P l.toArray Q (l.drop n) a'' w') late a' (fun _=>True)) ord a) :
  wpAny P .any l.toArray Q l.toArray.size (Array.replicate l.toArray.size false) a { w with drawn:=w.drawn+1 }:=by
 simp only [Region.monoB,Bool.and_eq_true,decide_eq_true_eq] at hB;obtain ⟨⟨⟨⟨⟨⟨⟨⟨hsel,hn⟩,hlen⟩,hlt⟩,ht⟩,hd⟩,hseq⟩,hap⟩,hord⟩:=hB
 let L:Nat->Option (Value->World->Prop):=fun i=>(late.find? fun p=>p.1 == i).map (·.2)
 have hLn:∀ i,(late.map (·.1)).contains i=false->L i=none:=fun i hi=>by
  simp only [L,Option.map_eq_none_iff,List.find?_eq_none];intro p hp he;have:(late.map (·.1)).contains i=true:=by simpa using ⟨p.2,by simpa [<- (beq_iff_eq.1 he)] using hp⟩
  rw [hi] at this;cases this
 have hLs:∀ p∈late,L p.1=some p.2:=fun p hp=>lookup_late late p hp (lateApart_nodup hap)
 have hLT:∀ i T,L i=some T->∀ v,Stays (T v):=fun i T hi v=>by
  simp only [L,Option.map_eq_some_iff] at hi;obtain ⟨p,hp,rfl⟩:=hi;exact hT p (List.mem_of_find?_eq_some hp) v
 have inv0:HeadInv .any l.toArray n (Array.replicate l.toArray.size false) :=
  ⟨by simp,fun j oj _ hl=>(by rw [getD_replicate_false] at hl;cases hl),fun t _ ht=>getD_in (by simpa using ht) (getD_replicate_false _ _)⟩
 have hE:∀ (a:Act) (F F':World->Prop),(∀ w,F' w->F w)->(∀ w',Mod [] w w'->F w'->wpList P l.toArray Q (l.drop n) a w')->(∀ w',Mod [] w w'->F' w'->wpList P l.toArray Q (l.drop n) a w') :=
  fun a F F' hF h w' hw hf=>h w' hw (hF w' hf)
 have hdl:(l.drop n).length=l.toArray.size - n:=by simp
 have H:=wpAnyM_ord (P:=P) (W:=w) (L:=L) (m:=late.length) (late:=late.map (·.1)) (F:=fun _=>True)
  (Fin:=fun listed a F=>Region.seqB .any l.toArray (l.toArray.size - n) n listed=true/\∀ w',Mod [] w w'->F w'->wpList P l.toArray Q (l.drop n) a w')
  hsel ht (fun listed a F hf=>seqB_ready hf.1) hLn (fun a listed inv hB hk=>by
   refine wpAnyM_lates hE (Region.noSelect_spec hsel) ht hd hn hseq late.length late listed a _ rfl inv hap hLs (fun i hi=>?_) (fun p hp=>?_) hk
   ·have:=List.all_eq_true.1 hB i (List.mem_range.2 hi);simp only [beq_iff_eq] at this;rw [Bool.eq_iff_iff] at this;simp only [beq_iff_eq,List.contains_iff_mem] at this;exact this
   ·have:=List.all_eq_true.1 hlt p.1 (mM hp)
    simpa using this) ord _ a inv0 hord h
 have hfin:=wpAny_of_M (P:=P) (md:=.any) (ops:=l.toArray) (W:=w) (Q:=Q) (g:=l.toArray.size - n) hLT (fun listed a F w' hw hF hf=>by
  have:=wpAny_of_seq (md:=.any) (Q':=Q) (l.drop n) n listed a w' (fun j=>by simp [List.getElem?_drop]) (by rw [hdl];exact hf.1) (hf.2 w' hw hF)
  rwa [hdl] at this) _ _ _ _ { w with drawn:=w.drawn+1 } (fun _ _ _ _=>trivial) ((Mod.refl [] w).drew) trivial H
 have hl2:ord.length+late.length+(l.toArray.size - n)=l.toArray.size:=by simp only [List.length_map] at hlen;omega
 rwa [hl2] at hfin
end
namespace Ch
section
variable {P:Program} {ops:Array Oper} {md:Region.Mode} {W:World} {L:Nat->Option (Value->World->Prop)}
def LateF (P:Program) (o:Oper) (a:Act) (W:World) (F:World->Prop) (T:Value->World->Prop):Prop :=
 ∀ w,Mod [] W w->F w->o.wp P a w (fun a' w'=>∃ v,a'=a.put o.dst v/\Mod [] w w'/\T v w') (fun _ _ _=>False)
theorem LateF.weak {o:Oper} {a:Act} {F F':World->Prop} {T:Value->World->Prop} (h:LateF P o a W F T) (hF:∀ w,F' w->F w):LateF P o a W F' T:=fun w hw hf=>h w hw (hF w hf)
theorem lateF_put {o:Oper} (hs:∀ cs b,o.op≠.select cs b) {a:Act} {d:Option Tmp} {v:Value} {F:World->Prop} {T:Value->World->Prop} (h1:∀ t,d=some t->t ∉ o.looksAt ops) (h2:∀ t,d=some t->o.dst≠some t)
  (h:LateF P o (a.put d v) W F T):LateF P o a W F T:=by
 intro w hw hF;have h3:=h w hw hF;unfold Oper.wp at *
 rw [execOp_put o hs a d v h1] at h3;have key:∀ (x:Value) w',(∃ u,(a.put d v).put o.dst x=(a.put d v).put o.dst u/\Mod [] w w'/\T u w')->∃ u,a.put o.dst x=a.put o.dst u/\Mod [] w w'/\T u w':=by
  rintro x w' ⟨u,e,m,t⟩;refine ⟨u,?_,m,t⟩;rw [Act.put_comm a v x h2,Act.put_comm a v u h2] at e;cases d with
  | none=>exact e
  | some t =>
   cases ho:o.dst with
   | none=>rfl
   | some s =>
    rw [ho] at e;have hne:s≠t:=fun hst=>h2 t rfl (by rw [ho,hst])
    have e2:=congrArg Act.tmps e;simp only [Act.put] at e2 ⊢;have e3:a.tmps.setIfInBounds s x=a.tmps.setIfInBounds s u:=by
     apply Array.ext_getElem?;intro k;have:=congrArg (fun z=>z[k]?) e2
     by_cases hk:t=k
     ·subst hk;rw [Array.getElem?_setIfInBounds_ne hne,Array.getElem?_setIfInBounds_ne hne]
     ·rwa [Array.getElem?_setIfInBounds_ne hk,Array.getElem?_setIfInBounds_ne hk] at this
    rw [e3]
 generalize (execOp a.eval o).run P w=r at *
 cases r with
 | ok n w' =>
  cases n <;> simp only [Oper.upon] at h3 ⊢
  case value u=>exact key _ _ h3
  case skip=>exact key _ _ h3
  case defer x =>
   obtain ⟨u,e,m,t⟩:=h3;have e2:=congrArg Act.defers e;exfalso;have hl:∀ (b:Act) (d:Option Tmp) (v:Value),(b.put d v).defers=b.defers:=fun b d v=>by cases d <;> rfl
   have e3:x::a.defers=a.defers:=by simpa only [hl] using e2
   have:=congrArg List.length e3;simp at this
  case enter f args =>
   refine Calls.mono h3 fun e w'' he=>?_
   cases e with
   | returned u=>exact key _ _ he
   | panicked c=>exact he.elim
   | outgrown=>obtain ⟨_,_,h⟩:=he;exact h.elim
  case row row args=>exact Rows.mono h3 fun u w'' he=>key _ _ he
 | halt x w'=>cases x <;> simp only [Oper.upon] at h3
theorem lateF_put' {o:Oper} (hs:∀ cs b,o.op≠.select cs b) {a:Act} {d:Option Tmp} {v:Value} {F:World->Prop} {T:Value->World->Prop} (h1:∀ t,d=some t->t ∉ o.looksAt ops) (h2:∀ t,d=some t->o.dst≠some t)
  (h:LateF P o a W F T):LateF P o (a.put d v) W F T:=by
 intro w hw hF;have h3:=h w hw hF;unfold Oper.wp at *
 rw [execOp_put o hs a d v h1];have key:∀ (x:Value) w',(∃ u,a.put o.dst x=a.put o.dst u/\Mod [] w w'/\T u w')->∃ u,(a.put d v).put o.dst x=(a.put d v).put o.dst u/\Mod [] w w'/\T u w':=by
  rintro x w' ⟨u,e,m,t⟩;exact ⟨u,by rw [Act.put_comm a v x h2,Act.put_comm a v u h2,e],m,t⟩
 generalize (execOp a.eval o).run P w=r at *
 cases r with
 | ok n w' =>
  cases n <;> simp only [Oper.upon] at h3 ⊢
  case value u=>exact key _ _ h3
  case skip=>exact key _ _ h3
  case defer x =>
   obtain ⟨u,e,m,t⟩:=h3;have e2:=congrArg Act.defers e;exfalso;have hl:∀ (b:Act) (d:Option Tmp) (v:Value),(b.put d v).defers=b.defers:=fun b d v=>by cases d <;> rfl
   have e3:x::a.defers=a.defers:=by simpa only [hl] using e2
   have:=congrArg List.length e3;simp at this
  case enter f args =>
   refine Calls.mono h3 fun e w'' he=>?_
   cases e with
   | returned u=>exact key _ _ he
   | panicked c=>exact he.elim
   | outgrown=>obtain ⟨_,_,h⟩:=he;exact h.elim
  case row row args=>exact Rows.mono h3 fun u w'' he=>key _ _ he
 | halt x w'=>cases x <;> simp only [Oper.upon] at h3
def mOp (P:Program) (ops:Array Oper) (W:World) (L:Nat->Option (Value->World->Prop)) (i:Nat) (K:Act->(World->Prop)->Prop) (a:Act) (F:World->Prop):Prop :=
 match ops[i]?,L i with
 | some o,none=>if Region.wanted o (yielded ops a.tmps) then ∃ v,Steady P o a W v/\K (a.put o.dst v) F else K (a.put o.dst undef) F
 | some o,some T=>o.guard=none/\LateF P o a W F T/\∀ v,K (a.put o.dst v) (fun w=>F w/\T v w)
 | none,_=>False
def wpAnyM (P:Program) (md:Region.Mode) (ops:Array Oper) (W:World) (L:Nat->Option (Value->World->Prop)) (n:Nat) (Fin:Array Bool->Act->(World->Prop)->Prop):Nat->Array Bool->Act->(World->Prop)->Prop
 | 0,listed,a,F=>Fin listed a F
 | f+1,listed,a,F=>Region.ready md ops listed≠[]/\∀ i∈Region.ready md ops listed,i<n/\mOp P ops W L i (wpAnyM P md ops W L n Fin f (listed.setIfInBounds i true)) a F
theorem wp_of_lateF {o:Oper} {a:Act} {F:World->Prop} {T:Value->World->Prop} {K:Act->World->Prop} {Q:Exit->Act->World->Prop} {w:World} (hw:Mod [] W w) (hF:F w) (h:LateF P o a W F T)
  (hK:∀ v w',Mod [] w w'->T v w'->K (a.put o.dst v) w'):o.wp P a w K Q:=by
 have h3:=h w hw hF;unfold Oper.wp at *
 generalize (execOp a.eval o).run P w=r at *
 cases r with
 | ok n w' =>
  cases n <;> simp only [Oper.upon] at h3 ⊢
  case value u=>obtain ⟨v,e,m,t⟩:=h3;rw [e];exact hK _ _ m t
  case skip=>obtain ⟨v,e,m,t⟩:=h3;rw [e];exact hK _ _ m t
  case defer d=>obtain ⟨v,e,m,t⟩:=h3;rw [e];exact hK _ _ m t
  case enter f args =>
   refine Calls.mono h3 fun e w'' he=>?_
   cases e with
   | returned u =>
    obtain ⟨v,e,m,t⟩:=he;show K (a.put o.dst u) w'';rw [e];exact hK _ _ m t
   | panicked c=>exact he.elim
   | outgrown=>obtain ⟨_,_,h⟩:=he;exact h.elim
  case row row args=>exact Rows.mono h3 fun u w'' he=>by obtain ⟨v,e,m,t⟩:=he;rw [e];exact hK _ _ m t
 | halt x w'=>cases x <;> simp only [Oper.upon] at h3
theorem wpOp_of_mOp {i:Nat} {a:Act} {F:World->Prop} {K:Act->(World->Prop)->Prop} {K':Act->World->Prop} {Q:Exit->Act->World->Prop} {w:World}
  (hT:∀ i T,L i=some T->∀ v,Stays (T v)) (hs:Stays F) (hw:Mod [] W w) (hF:F w) (h:∀ a F w',Mod [] W w'->Stays F->F w'->K a F->K' a w') (hh:mOp P ops W L i K a F):wpOp P ops Q i K' a w:=by
 unfold mOp at hh;unfold wpOp
 split at hh
 ·rename_i o ho hl;simp only [ho]
  split
  ·rename_i hwn;simp only [hwn,if_true] at hh;obtain ⟨v,h1,h2⟩:=hh;exact .inl (wp_of_steady hw h1 fun w' m=>h _ _ _ (hw.then m) hs (hs _ _ hF m) h2)
  ·rename_i hwn;simp only [hwn] at hh;exact h _ _ _ hw hs hF hh
 ·rename_i o T ho hl;obtain ⟨hg,h1,h2⟩:=hh;simp only [ho,Region.wanted,hg,if_true];exact .inl (wp_of_lateF hw hF h1 fun v w' m t=>h _ _ _ (hw.then m) (fun x y hx hm=>⟨hs _ _ hx.1 hm,hT i T hl v _ _ hx.2 hm⟩) ⟨hs _ _ hF m,t⟩ (h2 v))
 ·exact hh.elim
theorem wpAny_of_M {n g:Nat} {Fin:Array Bool->Act->(World->Prop)->Prop} {Q:Exit->Act->World->Prop} (hT:∀ i T,L i=some T->∀ v,Stays (T v))
  (hFin:∀ listed a F w,Mod [] W w->F w->Fin listed a F->wpAny P md ops Q g listed a w) :
  ∀ (f:Nat) (listed:Array Bool) (a:Act) (F:World->Prop) (w:World),Stays F->Mod [] W w->F w->wpAnyM P md ops W L n Fin f listed a F->wpAny P md ops Q (f+g) listed a w
 | 0,listed,a,F,w,_,hw,hF,h=>by rw [Nat.zero_add];exact hFin _ _ _ _ hw hF h
 | f+1,listed,a,F,w,hs,hw,hF,h=>by
  rw [show f+1+g=(f+g)+1 by omega];exact ⟨fun h0=>absurd h0 h.1,fun i hi=>wpOp_of_mOp hT hs hw hF (fun a' F' w' hw' hs' hF' h'=>wpAny_of_M hT hFin f _ a' F' w' hs' hw' hF' h') (h.2 i hi).2⟩
theorem YieldsS_mOp {i:Nat} {o:Oper} {v:Value} {a:Act} {F:World->Prop} (hi:ops[i]?=some o) (hl:L i=none) (hy:YieldsS P ops W o v a) {K:Act->(World->Prop)->Prop} (h:K (a.put o.dst v) F):mOp P ops W L i K a F:=by
 unfold mOp;simp only [hi,hl];rcases hy with ⟨hw,hv⟩ | ⟨hw,rfl⟩
 ·simp only [hw,if_true];exact ⟨v,hv,h⟩
 ·simp only [hw,Bool.false_eq_true,if_false];exact h
theorem mOp_put {j:Nat} {oi oj:Oper} {v:Value} (hj:ops[j]?=some oj) (hap:oi.apart ops oj=true)
  (hsi:∀ cs b,oi.op≠.select cs b) (hsj:∀ cs b,oj.op≠.select cs b) {K:Act->(World->Prop)->Prop} {a:Act} {F:World->Prop}
  (hy:YieldsS P ops W oi v a) (h:mOp P ops W L j K (a.put oi.dst v) F) :
  mOp P ops W L j (fun a' F'=>YieldsS P ops W oi v a'/\K (a'.put oi.dst v) F') a F:=by
 obtain ⟨h1,h2,h3⟩:=Oper.apart_spec hap;have h2':∀ d,oj.dst=some d->oi.dst≠some d:=fun d hd hi'=>h2 d hi' hd
 have keep:∀ (a:Act),YieldsS P ops W oi v a->∀ u,YieldsS P ops W oi v (a.put oj.dst u):=fun a hy u=>by
  unfold YieldsS at *
  rw [wanted_put oi a oj.dst u h3];exact hy.imp (fun hh=>⟨hh.1,late_put' hsi h3 h2' hh.2⟩) id
 unfold mOp at *
 cases hl:L j with
 | none =>
  simp only [hj,hl] at h ⊢;rw [wanted_put oj a oi.dst v h1] at h
  split
  ·rename_i hw;simp only [hw,if_true] at h;obtain ⟨u,hu,hn⟩:=h;exact ⟨u,late_put hsj h1 h2 hu,keep a hy u,by rw [<- Act.put_comm a v u h2];exact hn⟩
  ·rename_i hw;simp only [hw] at h;exact ⟨keep a hy _,by rw [<- Act.put_comm a v undef h2];exact h⟩
 | some T =>
  simp only [hj,hl] at h ⊢;exact ⟨h.1,lateF_put hsj h1 h2 h.2.1,fun u=>⟨keep a hy u,by rw [<- Act.put_comm a v u h2];exact h.2.2 u⟩⟩
theorem mOp_same {j:Nat} {a:Act} {F:World->Prop} {K K':Act->(World->Prop)->Prop} (h:∀ a F,K a F->K' a F) (hh:mOp P ops W L j K a F):mOp P ops W L j K' a F:=by
 unfold mOp at *
 split
 ·rename_i o ho hl;simp only [ho,hl] at hh
  split
  ·rename_i hw;simp only [hw,if_true] at hh;obtain ⟨v,h1,h2⟩:=hh;exact ⟨v,h1,h _ _ h2⟩
  ·rename_i hw;simp only [hw] at hh;exact h _ _ hh
 ·rename_i o T ho hl;simp only [ho,hl] at hh;exact ⟨hh.1,hh.2.1,fun v=>h _ _ (hh.2.2 v)⟩
 ·rename_i ho;simp only [ho] at hh
theorem wpAnyM_first {n i:Nat} {oi:Oper} {v:Value} {Fin:Array Bool->Act->(World->Prop)->Prop} (hi:ops[i]?=some oi) (hl:L i=none) (hsel:∀ (j:Nat) (o:Oper) cs b,ops[j]?=some o->o.op≠.select cs b)
  (ht:Region.tailB md ops n=true) (hin:i<n) (hdone:∀ listed a F,Fin listed a F->∀ j∈Region.ready md ops listed,n<=j) :
  ∀ (f:Nat) (listed:Array Bool) (a:Act) (F:World->Prop),HeadInv md ops n listed ->
   (∀ j oj,ops[j]?=some oj->j≠i->listed.getD j true=false->(∀ e∈oj.after,Region.binds md e=true->e.on≠i)->oi.apart ops oj=true) ->
   i∈Region.ready md ops listed->YieldsS P ops W oi v a ->
   wpAnyM P md ops W L n Fin f (listed.setIfInBounds i true) (a.put oi.dst v) F->wpAnyM P md ops W L n Fin (f+1) listed a F:=by
 intro f
 induction f with
 | zero =>
  intro listed a F inv _ hr hy H;have hun:=(mem_ready.1 hr).1;refine ⟨fun h=>(by rw [h] at hr;cases hr),fun j hj=>?_⟩;have hjn:=ready_lt ht inv hin hun hj;refine ⟨hjn,?_⟩
  by_cases hji:j=i
  ·subst hji;exact YieldsS_mOp hi hl hy H
  ·have:=hdone _ _ _ H j (ready_mono hj hji);omega
 | succ f ih =>
  intro listed a F inv hfree hr hy H;have hun:=(mem_ready.1 hr).1;refine ⟨fun h=>(by rw [h] at hr;cases hr),fun j hj=>?_⟩;have hjn:=ready_lt ht inv hin hun hj;refine ⟨hjn,?_⟩
  by_cases hji:j=i
  ·subst hji;exact YieldsS_mOp hi hl hy H
  ·have h1:=(H.2 j (ready_mono hj hji)).2;obtain ⟨hjun,oj,hoj,hall⟩:=mem_ready.1 hj;have hnot:∀ e∈oj.after,Region.binds md e=true->e.on≠i:=fun e he hb heq=>by
    have h1:=hall e he hb;rw [heq,getD_both hun] at h1;cases h1
   have h2:=mOp_put hoj (hfree j oj hoj hji hjun hnot) (fun cs b=>hsel i oi cs b hi) (fun cs b=>hsel j oj cs b hoj) hy h1;have hfree':∀ k ok,ops[k]?=some ok->k≠i->(listed.setIfInBounds j true).getD k true=false ->
     (∀ e∈ok.after,Region.binds md e=true->e.on≠i)->oi.apart ops ok=true:=fun k ok hk hki hun hno=>by
    refine hfree k ok hk hki ?_ hno
    by_cases hjk:j=k
    ·subst hjk;exact hjun
    ·rw [getD_set_ne true hjk] at hun;exact hun
   refine mOp_same (fun a' F' h3=>ih (listed.setIfInBounds j true) a' F' (inv.set hj hjn) hfree' (ready_mono hr (Ne.symm hji)) h3.1 ?_) h2;rw [Array.setIfInBounds_comm _ _ hji];exact h3.2
theorem wpAnyM_ord {n m:Nat} {late:List Nat} {Fin:Array Bool->Act->(World->Prop)->Prop} {F:World->Prop} {K:Act->Prop} (hsel:Region.noSelect ops=true)
  (ht:Region.tailB md ops n=true) (hdone:∀ listed a F,Fin listed a F->∀ j∈Region.ready md ops listed,n<=j) (hL:∀ i,late.contains i=false->L i=none)
  (hK:∀ a listed,HeadInv md ops n listed->Region.ordB md ops n late [] listed=true->K a->wpAnyM P md ops W L n Fin m listed a F) :
  ∀ (l:List Nat) (listed:Array Bool) (a:Act),HeadInv md ops n listed->Region.ordB md ops n late l listed=true->wpSteady P ops W K l a ->
   wpAnyM P md ops W L n Fin (l.length+m) listed a F
 | [],listed,a,inv,hB,h=>by rw [List.length_nil,Nat.zero_add];exact hK _ _ inv hB h
 | i::l,listed,a,inv,hB,h=>by
  simp only [Region.ordB,Bool.and_eq_true,decide_eq_true_eq,Bool.not_eq_true'] at hB;obtain ⟨⟨⟨⟨hin,hnl⟩,hr⟩,hf⟩,hB'⟩:=hB;have hr':i∈Region.ready md ops listed:=by simpa using hr
  unfold wpSteady at h;cases ho:ops[i]? with
  | none=>simp only [ho] at h
  | some o =>
   simp only [ho] at h;obtain ⟨v,hy,hk⟩:∃ v,YieldsS P ops W o v a/\wpSteady P ops W K l (a.put o.dst v):=by
    by_cases hw:Region.wanted o (yielded ops a.tmps)=true
    ·simp only [hw,if_true] at h;obtain ⟨v,h1,h2⟩:=h;exact ⟨v,.inl ⟨hw,h1⟩,h2⟩
    ·simp only [hw] at h;exact ⟨undef,.inr ⟨by simpa using hw,rfl⟩,h⟩
   rw [List.length_cons,show l.length+1+m=(l.length+m)+1 by omega];exact wpAnyM_first ho (hL i hnl) (Region.noSelect_spec hsel) ht hin hdone (l.length+m) listed a F inv (Region.free_spec ho hf) hr' hy
    (wpAnyM_ord hsel ht hdone hL hK l _ _ (inv.set hr' hin) hB' hk)
def wpChain (P:Program) (ops:Array Oper) (W:World) (E:Act->(World->Prop)->Prop):List (Nat×(Value->World->Prop))->Act->(World->Prop)->Prop
 | [],a,F=>E a F
 | p::l,a,F=>match ops[p.1]? with
  | none=>False
  | some o=>o.guard=none/\LateF P o a W F p.2/\∀ v,wpChain P ops W E l (a.put o.dst v) (fun w=>F w/\p.2 v w)
theorem wpChain_mono {E E':Act->(World->Prop)->Prop} (hE:∀ a F F',(∀ w,F' w->F w)->E a F->E' a F'):∀ (l:List (Nat×(Value->World->Prop))) (a:Act) (F F':World->Prop),(∀ w,F' w->F w)->wpChain P ops W E l a F->wpChain P ops W E' l a F'
 | [],_,_,_,hF,h=>hE _ _ _ hF h
 | p::l,a,F,F',hF,h=>by
  unfold wpChain at *
  split
  ·rename_i ho;simp only [ho] at h
  ·rename_i o ho;simp only [ho] at h;exact ⟨h.1,h.2.1.weak hF,fun v=>wpChain_mono hE l _ _ _ (fun w hw=>⟨hF w hw.1,hw.2⟩) (h.2.2 v)⟩
def chainC (md:Region.Mode) (ops:Array Oper):List Nat->Bool
 | i::j::l=>(match ops[j]? with | some o=>o.after.any fun e=>Region.binds md e && e.on == i | none=>false) && chainC md ops (j::l)
 | _=>true
def apartC (ops:Array Oper) (c late:List Nat):Bool:=c.all fun i=>late.all fun j=>match ops[i]?,ops[j]? with | some x,some y=>x.apart ops y | _,_=>false
theorem chain_take {E:Act->(World->Prop)->Prop} (hE:∀ a F F',(∀ w,F' w->F w)->E a F->E a F') (hsel:∀ (j:Nat) (o:Oper) cs b,ops[j]?=some o->o.op≠.select cs b) {i:Nat} {T:Value->World->Prop}
  (la:List (Nat×(Value->World->Prop))) (hap:lateApart ops (la.map (·.1))=true) (hm:(i,T)∈la) :
  ∀ (l:List (Nat×(Value->World->Prop))) (a:Act) (F:World->Prop),(∀ p∈l,∃ x y,ops[p.1]?=some x/\ops[i]?=some y/\x.apart ops y=true)->wpChain P ops W (wpLates P ops W E la) l a F ->
   ∃ o,ops[i]?=some o/\o.guard=none/\Late P o a W T/\∀ v,wpChain P ops W (wpLates P ops W E (la.filter fun p=>p.1 != i)) l (a.put o.dst v) (fun w=>F w/\T v w)
 | [],a,F,_,h=>wpLates_take hE hsel la a F hap hm h
 | p::l,a,F,hall,h=>by
  unfold wpChain at h;cases ho:ops[p.1]? with
  | none=>simp only [ho] at h
  | some o =>
   simp only [ho] at h;obtain ⟨hg,hla,hK⟩:=h;obtain ⟨x,y,hx,hy,hxy⟩:=hall p (by simp);rw [ho] at hx;cases hx;obtain ⟨h1,h2,h3⟩:=Oper.apart_spec hxy;have h2':∀ d,y.dst=some d->o.dst≠some d:=fun d hd ho'=>h2 d ho' hd
   have ih:=fun u=>chain_take hE hsel la hap hm l (a.put o.dst u) _ (fun q hq=>hall q (List.mem_cons_of_mem _ hq)) (hK u)
   obtain ⟨o',ho',hg',hl',_⟩:=ih undef;rw [hy] at ho';cases ho';refine ⟨y,hy,hg',late_put (hsel i y · · hy) h1 h2 hl',fun v=>?_⟩;unfold wpChain;simp only [ho];refine ⟨hg,(lateF_put' (hsel p.1 o · · ho) h3 h2' hla).weak (fun w hw=>hw.1),fun u=>?_⟩;obtain ⟨o',ho',_,_,hk⟩:=ih u;rw [hy] at ho';cases ho';rw [Act.put_comm a v u h2'];exact wpChain_mono (E:=wpLates P ops W E (la.filter fun p=>p.1 != i)) (E':=wpLates P ops W E (la.filter fun p=>p.1 != i)) (fun a F F' hF h=>wpLates_mono hE (la.filter fun p=>p.1 != i) a F F' hF h) l _ (fun w=>(F w/\p.2 u w)/\T v w) (fun w=>(F w/\T v w)/\p.2 u w) (fun w hw=>⟨⟨hw.1.1,hw.2⟩,hw.1.2⟩) (hk v)
theorem chain_head {listed:Array Bool}:∀ (l:List Nat) (i:Nat),chainC md ops (i::l)=true->(∀ k∈i::l,listed.getD k true=false)->∀ j∈l,j ∉ Region.ready md ops listed
 | [],_,_,_,j,hj=>by cases hj
 | k::l,i,hc,hun,j,hj=>by
  simp only [chainC,Bool.and_eq_true] at hc;rcases List.mem_cons.1 hj with rfl | hj'
  ·intro hr;obtain ⟨_,o,ho,hall⟩:=mem_ready.1 hr;have h1:=hc.1;rw [ho] at h1;obtain ⟨e,he,h2⟩:=Array.any_eq_true'.1 h1;simp only [Bool.and_eq_true,beq_iff_eq] at h2;have h3:=hall e he h2.1;rw [h2.2,getD_both (hun i (by simp))] at h3;cases h3
  ·exact chain_head l k hc.2 (fun q hq=>hun q (List.mem_cons_of_mem _ hq)) j hj'
theorem wpAnyM_chain {n g:Nat} {E:Act->(World->Prop)->Prop} (hE:∀ a F F',(∀ w,F' w->F w)->E a F->E a F') (hsel:∀ (j:Nat) (o:Oper) cs b,ops[j]?=some o->o.op≠.select cs b)
  (ht:Region.tailB md ops n=true) (hd:Region.downB md ops=true) (hn:n<=ops.size) (hseq:Region.seqB md ops g n (Region.canon ops n)=true) :
  ∀ (m:Nat) (lc l:List (Nat×(Value->World->Prop))) (listed:Array Bool) (a:Act) (F:World->Prop),lc.length+l.length=m->HeadInv md ops n listed->lateApart ops (l.map (·.1))=true ->
   chainC md ops (lc.map (·.1))=true->(∀ p∈lc,∀ q∈l,∃ x y,ops[p.1]?=some x/\ops[q.1]?=some y/\x.apart ops y=true)->(lc.map (·.1)).Nodup->(∀ p∈lc,p.1 ∉ l.map (·.1)) ->
   (∀ p∈lc,L p.1=some p.2)->(∀ p∈l,L p.1=some p.2)->(∀ i,i<n->(listed.getD i true=false↔(i∈lc.map (·.1)∨i∈l.map (·.1))))->(∀ p∈lc,p.1<n)->(∀ p∈l,p.1<n) ->
   wpChain P ops W (wpLates P ops W E l) lc a F ->
   wpAnyM P md ops W L n (fun listed' a' F'=>Region.seqB md ops g n listed'=true/\E a' F') m listed a F:=by
 intro m
 induction m with
 | zero =>
  intro lc l listed a F hlen inv _ _ _ _ _ _ _ hun _ _ h;obtain rfl:=List.length_eq_zero_iff.1 (show lc.length=0 by omega);obtain rfl:=List.length_eq_zero_iff.1 (show l.length=0 by omega);refine ⟨?_,h⟩;have:listed=Region.canon ops n:=by
   refine Array.ext (by simp [Region.canon,inv.size]) fun i hi hi'=>?_
   simp only [Region.canon,List.getElem_toArray,List.getElem_map,List.getElem_range]
   by_cases hin:i<n
   ·have:=(hun i hin).1;simp [hi] at this;simp [this,hin]
   ·have h2:=inv.tail i (by omega) (by rw [<- inv.size];exact hi);simp [hi] at h2;simp [h2,hin]
  rw [this];exact hseq
 | succ m ih =>
  intro lc l listed a F hlen inv hap hcc hac hnd hdj hLc hL hun hltc hlt h;obtain ⟨i0,hi0,hi0u⟩:∃ i,i<n/\listed.getD i true=false:=by
   cases lc with
   | cons p lc=>exact ⟨p.1,hltc p (by simp),(hun p.1 (hltc p (by simp))).2 (.inl (by simp))⟩
   | nil =>
    cases l with
    | cons p l=>exact ⟨p.1,hlt p (by simp),(hun p.1 (hlt p (by simp))).2 (.inr (by simp))⟩
    | nil=>simp at hlen
  refine ⟨ready_some hd i0 (by omega) hi0u,fun j hj=>?_⟩;have hjn:=ready_lt ht inv hi0 hi0u hj;refine ⟨hjn,?_⟩;have hsz:j<listed.size:=by rw [inv.size];omega
  rcases (hun j hjn).1 (mem_ready.1 hj).1 with hjl | hjl
  ·cases lc with
   | nil=>simp at hjl
   | cons p lc =>
    have hjp:j=p.1:=by
     rcases List.mem_cons.1 (by simpa using hjl:j∈p.1::lc.map (·.1)) with h1 | h1
     ·exact h1
     ·exact absurd hj (chain_head (lc.map (·.1)) p.1 (by simpa using hcc) (fun k hk=>(hun k (by
       obtain ⟨q,hq,rfl⟩:=List.mem_map.1 (by simpa using hk:k∈(p::lc).map (·.1))
       exact hltc q hq)).2 (.inl (by simpa using hk))) j h1)
    subst hjp;unfold wpChain at h;cases ho:ops[p.1]? with
    | none=>simp only [ho] at h
    | some o =>
     simp only [ho] at h;unfold mOp;simp only [ho,hLc p (by simp)];have hnd':=List.nodup_cons.1 (by simpa using hnd:(p.1::lc.map (·.1)).Nodup);refine ⟨h.1,h.2.1,fun v=>ih lc l _ _ _ (by simp at hlen;omega) (inv.set hj hjn) hap ?_ (fun q hq=>hac q (List.mem_cons_of_mem _ hq)) hnd'.2 (fun q hq=>hdj q (List.mem_cons_of_mem _ hq)) (fun q hq=>hLc q (List.mem_cons_of_mem _ hq)) hL ?_ (fun q hq=>hltc q (List.mem_cons_of_mem _ hq)) hlt (h.2.2 v)⟩
     ·cases lc with
      | nil=>rfl
      | cons q lc=>simp only [List.map_cons,chainC,Bool.and_eq_true] at hcc ⊢;exact hcc.2
     ·intro i hin
      by_cases hij:p.1=i
      ·subst hij;have h1:=hdj p (by simp);constructor
       ·intro h2;simp [hsz] at h2
       ·rintro (h2 | h2)
        ·exact absurd h2 hnd'.1
        ·exact absurd h2 h1
      ·rw [getD_set_ne true hij,hun i hin];simp only [List.map_cons,List.mem_cons];constructor
       ·rintro ((h2 | h2) | h2)
        ·exact absurd h2.symm hij
        ·exact .inl h2
        ·exact .inr h2
       ·rintro (h2 | h2)
        ·exact .inl (.inr h2)
        ·exact .inr h2
  ·obtain ⟨⟨j',T⟩,hp,hpj⟩:=List.mem_map.1 hjl;simp only at hpj;subst hpj;obtain ⟨o,ho,hg,hla,hk⟩:=chain_take hE hsel l hap hp lc a F (fun p hpc=>hac p hpc _ hp) h;unfold mOp;have hLj:L j'=some T:=hL _ hp;simp only [ho,hLj];refine ⟨hg,fun w hw _=>hla w hw,fun v=>ih lc _ _ _ _ ?_ (inv.set hj hjn) ?_ hcc ?_ hnd ?_ hLc ?_ ?_ hltc ?_ (hk v)⟩
   ·have:=length_filter_ne l j' (lateApart_nodup hap) hjl;omega
   ·exact lateApart_filter _ hap
   ·exact fun p hp q hq=>hac p hp q (List.mem_filter.1 hq).1
   ·intro p hpc h1;obtain ⟨q,hq,h2⟩:=List.mem_map.1 h1;exact hdj p hpc (List.mem_map.2 ⟨q,(List.mem_filter.1 hq).1,h2⟩)
   ·exact fun p hp=>hL p (List.mem_filter.1 hp).1
   ·intro i hin
    by_cases hij:j'=i
    ·subst hij;constructor
     ·intro h2;simp [hsz] at h2
     ·rintro (h2 | h2)
      ·obtain ⟨q,hq,h3⟩:=List.mem_map.1 h2;exact absurd (h3 ▸ hjl) (hdj q hq)
      ·obtain ⟨q,hq,h3⟩:=List.mem_map.1 h2;have h4:=(List.mem_filter.1 hq).2;rw [h3] at h4;simp at h4
    ·rw [getD_set_ne true hij,hun i hin];simp only [List.mem_map,List.mem_filter,bne_iff_ne,ne_eq];constructor
     ·rintro (h2 | ⟨q,hq,rfl⟩)
      ·exact .inl h2
      ·exact .inr ⟨q,⟨hq,fun h=>hij h.symm⟩,rfl⟩
     ·rintro (h2 | ⟨q,⟨hq,_⟩,rfl⟩)
      ·exact .inl h2
      ·exact .inr ⟨q,hq,rfl⟩
   ·exact fun p hp=>hlt p (List.mem_filter.1 hp).1
theorem wpSteady_mono {K K':Act->Prop} (h:∀ a,K a->K' a):∀ (l:List Nat) (a:Act),wpSteady P ops W K l a->wpSteady P ops W K' l a
 | [],a,hh=>h a hh
 | i::l,a,hh=>by
  unfold wpSteady at *
  split
  ·rename_i ho;simp only [ho] at hh
  ·rename_i o ho;simp only [ho] at hh
   split
   ·rename_i hw;simp only [hw,if_true] at hh;obtain ⟨v,h1,h2⟩:=hh;exact ⟨v,h1,wpSteady_mono h l _ h2⟩
   ·rename_i hw;simp only [hw] at hh;exact wpSteady_mono h l _ hh
theorem ready_below (hd:Region.downB md ops=true) {listed:Array Bool}:∀ (i:Nat),i<ops.size->listed.getD i true=false->∃ j,j∈Region.ready md ops listed/\j<=i:=by
 intro i
 induction i using Nat.strongRecOn with
 | _ i ih =>
  intro hi hun
  by_cases hex:∃ j,j<i/\listed.getD j true=false
  ·obtain ⟨j,hj,hjun⟩:=hex;obtain ⟨k,hk,hkj⟩:=ih j hj (by omega) hjun;exact ⟨k,hk,by omega⟩
  ·refine ⟨i,mem_ready.2 ⟨hun,ops[i],by simp [hi],fun e he hb=>?_⟩,nR _⟩;have h1:=List.all_eq_true.1 hd i (List.mem_range.2 hi);simp only [hi,getElem?_pos] at h1;have h2:=Array.all_eq_true_iff_forall_mem.1 h1 e he;simp only [hb,Bool.not_true,Bool.false_or,decide_eq_true_eq] at h2;cases hl:listed.getD e.on false with
   | true=>rfl
   | false =>
    have hsz:e.on<listed.size:=by
     rcases Nat.lt_or_ge i listed.size with h | h
     ·omega
     ·simp [Array.getElem?_eq_none h] at hun
    exact absurd ⟨e.on,h2,getD_in hsz hl⟩ hex
def dval (ops:Array Oper) (a:Act) (i:Nat):Option Value:=((ops[i]?).bind (·.dst)).bind (a.tmps[·]?)
structure Inv (ops:Array Oper) (A:List Nat) (listed:Array Bool) (a:Act) (w:World):Prop where
 is:∀ i∈A,listed.getD i true=true->∃ b,dval ops a i=some (.pointer (some ⟨b,0,none⟩))/\b<w.heap.size
 apart:∀ i∈A,∀ j∈A,i≠j->listed.getD i true=true->listed.getD j true=true->dval ops a i≠dval ops a j
def slotsB (ops:Array Oper) (A:List Nat) (size:Nat):Bool:=A.all fun i=>match ops[i]? with
 | some o=>(match o.dst with | some d=>decide (d<size) && (List.range ops.size).all (fun j=>j == i || match ops[j]? with | some p=>p.dst != some d | none=>true) | none=>false)
 | none=>false
def IsAlloc (P:Program) (o:Oper):Prop:=∃ cs t,∀ ρ w,(execOp ρ o).run P w=.ok (.value (.pointer (some ⟨w.heap.size,0,none⟩))) (w.alloc (.cells cs t))
theorem slots_get {A:List Nat} {size i:Nat} (h:slotsB ops A size=true) (hi:i∈A):∃ o d,ops[i]?=some o/\o.dst=some d/\d<size/\∀ j p,ops[j]?=some p->j≠i->p.dst≠some d:=by
 have h1:=List.all_eq_true.1 h i hi;cases ho:ops[i]? with
 | none=>rw [ho] at h1;cases h1
 | some o =>
  rw [ho] at h1;simp only at h1;cases hd:o.dst with
  | none=>rw [hd] at h1;cases h1
  | some d =>
   rw [hd] at h1;simp only [Bool.and_eq_true,decide_eq_true_eq] at h1;refine ⟨o,d,rfl,hd,h1.1,fun j p hj hji=>?_⟩;have h2:=List.all_eq_true.1 h1.2 j (List.mem_range.2 (Array.getElem?_eq_some_iff.1 hj).1);simp only [hj,Bool.or_eq_true,beq_iff_eq,hji,false_or] at h2;simpa using h2
theorem put_size (a:Act) (d:Option Tmp) (v:Value):(a.put d v).tmps.size=a.tmps.size:=by cases d <;> simp [Act.put]
theorem dval_put {A:List Nat} {size i j:Nat} {o:Oper} (h:slotsB ops A size=true) (hi:i∈A) (hj:ops[j]?=some o) (hji:j≠i) (a:Act) (v:Value):dval ops (a.put o.dst v) i=dval ops a i:=by
 obtain ⟨o',d,ho',hd,_,hall⟩:=slots_get h hi;have h1:=hall j o hj hji;unfold dval;rw [ho'];simp only [Option.bind_some,hd];cases ho:o.dst with
 | none=>rfl
 | some e =>
  have:e≠d:=fun he=>h1 (by rw [ho,he])
  simp [Act.put,Array.getElem?_setIfInBounds_ne this]
theorem dval_self {A:List Nat} {i:Nat} {o:Oper} {a:Act} (h:slotsB ops A a.tmps.size=true) (hi:i∈A) (ho:ops[i]?=some o) (v:Value):dval ops (a.put o.dst v) i=some v:=by
 obtain ⟨o',d,ho',hd,hs,_⟩:=slots_get h hi;rw [ho] at ho';obtain rfl:=Option.some.inj ho';unfold dval;rw [ho];simp [Act.put,hd,hs]
theorem Inv.step {A:List Nat} {size j:Nat} {listed:Array Bool} {a:Act} {w w':World} {o:Oper} (I:Inv ops A listed a w) (h:slotsB ops A size=true) (hj:ops[j]?=some o) (hjA:j ∉ A) (v:Value) (hs:w.heap.size<=w'.heap.size) :
  Inv ops A (listed.setIfInBounds j true) (a.put o.dst v) w':=by
 have hne:∀ i∈A,j≠i:=fun i hi he=>hjA (he ▸ hi)
 refine ⟨fun i hi hl=>?_,fun i hi k hk hik hl hl'=>?_⟩
 ·rw [getD_set_ne true (hne i hi)] at hl;rw [dval_put h hi hj (hne i hi)];obtain ⟨b,h1,h2⟩:=I.is i hi hl;exact ⟨b,h1,by omega⟩
 ·rw [getD_set_ne true (hne i hi)] at hl;rw [getD_set_ne true (hne k hk)] at hl';rw [dval_put h hi hj (hne i hi),dval_put h hk hj (hne k hk)];exact I.apart i hi k hk hik hl hl'
theorem Inv.alloc {A:List Nat} {j:Nat} {listed:Array Bool} {a:Act} {w:World} {o:Oper} (I:Inv ops A listed a w) (h:slotsB ops A a.tmps.size=true) (hj:ops[j]?=some o) (hjA:j∈A) (ob:Obj) :
  Inv ops A (listed.setIfInBounds j true) (a.put o.dst (.pointer (some ⟨w.heap.size,0,none⟩))) (w.alloc ob):=by
 have hsz:(w.alloc ob).heap.size=w.heap.size+1:=by simp
 have key:∀ i∈A,i≠j->(listed.setIfInBounds j true).getD i true=true->∃ b,dval ops (a.put o.dst (.pointer (some ⟨w.heap.size,0,none⟩))) i=some (.pointer (some ⟨b,0,none⟩))/\b<w.heap.size:=fun i hi hij hl=>by
  rw [getD_set_ne true (Ne.symm hij)] at hl;rw [dval_put h hi hj (Ne.symm hij)];exact I.is i hi hl
 refine ⟨fun i hi hl=>?_,fun i hi k hk hik hl hl'=>?_⟩
 ·by_cases hij:i=j
  ·subst hij;exact ⟨w.heap.size,dval_self h hi hj _,by omega⟩
  ·obtain ⟨b,h1,h2⟩:=key i hi hij hl;exact ⟨b,h1,by omega⟩
 ·by_cases hij:i=j
  ·subst hij;obtain ⟨b,h1,h2⟩:=key k hk (Ne.symm hik) hl';rw [dval_self h hi hj,h1];intro he;have:=Option.some.inj he;simp at this
   try omega
  ·by_cases hkj:k=j
   ·subst hkj;obtain ⟨b,h1,h2⟩:=key i hi hij hl;rw [dval_self h hk hj,h1];intro he;have:=Option.some.inj he;simp at this
    try omega
   ·rw [getD_set_ne true (Ne.symm hij)] at hl;rw [getD_set_ne true (Ne.symm hkj)] at hl';rw [dval_put h hi hj (Ne.symm hij),dval_put h hk hj (Ne.symm hkj)];exact I.apart i hi k hk hik hl hl'
theorem wpOp_of_mOpA {i:Nat} {a:Act} {F:World->Prop} {K:Act->(World->Prop)->Prop} {K':Act->World->Prop} {Q:Exit->Act->World->Prop} {w:World} {A:List Nat} {listed:Array Bool}
  (hT:∀ i T,L i=some T->∀ v,Stays (T v)) (hAl:∀ j∈A,(∃ T,L j=some T)/\∀ o,ops[j]?=some o->IsAlloc P o) (hsl:slotsB ops A a.tmps.size=true) (I:Inv ops A listed a w) (hs:Stays F) (hw:Mod [] W w) (hF:F w)
  (h:∀ a' F w',a'.tmps.size=a.tmps.size->Inv ops A (listed.setIfInBounds i true) a' w'->Mod [] W w'->Stays F->F w'->K a' F->K' a' w') (hh:mOp P ops W L i K a F):wpOp P ops Q i K' a w:=by
 unfold mOp at hh;unfold wpOp
 split at hh
 ·rename_i o ho hl;have hiA:i ∉ A:=fun hi=>by obtain ⟨⟨T,hT'⟩,_⟩:=hAl i hi;rw [hl] at hT';cases hT'
  simp only [ho]
  split
  ·rename_i hwn;simp only [hwn,if_true] at hh;obtain ⟨v,h1,h2⟩:=hh;exact .inl (wp_of_steady hw h1 fun w' m=>h _ _ _ (put_size _ _ _) (I.step hsl ho hiA v m.size) (hw.then m) hs (hs _ _ hF m) h2)
  ·rename_i hwn;simp only [hwn] at hh;exact h _ _ _ (put_size _ _ _) (I.step hsl ho hiA _ (nR _)) hw hs hF hh
 ·rename_i o T ho hl;obtain ⟨hg,h1,h2⟩:=hh;simp only [ho,Region.wanted,hg,if_true];left
  by_cases hiA:i∈A
  ·obtain ⟨cs,t,hr⟩:=(hAl i hiA).2 o ho;have h3:=h1 w hw hF;unfold Oper.wp at *
   rw [hr] at h3 ⊢;simp only [Oper.upon] at h3 ⊢;obtain ⟨v,e,m,t'⟩:=h3;refine h _ (fun w=>F w/\T v w) _ (put_size _ _ _) (I.alloc hsl ho hiA _) (hw.then m) (fun x y hx hm=>⟨hs _ _ hx.1 hm,hT i T hl v _ _ hx.2 hm⟩) ⟨hs _ _ hF m,t'⟩ ?_;rw [e];exact h2 v
  ·exact wp_of_lateF hw hF h1 fun v w' m t=>h _ (fun w=>F w/\T v w) _ (put_size _ _ _) (I.step hsl ho hiA v m.size) (hw.then m) (fun x y hx hm=>⟨hs _ _ hx.1 hm,hT i T hl v _ _ hx.2 hm⟩) ⟨hs _ _ hF m,t⟩ (h2 v)
 ·exact hh.elim
theorem wpAny_of_MA {n g:Nat} {Fin:Array Bool->Act->(World->Prop)->Prop} {Q:Exit->Act->World->Prop} {A:List Nat} (hT:∀ i T,L i=some T->∀ v,Stays (T v)) (hAl:∀ j∈A,(∃ T,L j=some T)/\∀ o,ops[j]?=some o->IsAlloc P o)
  (hFin:∀ listed a F w,Inv ops A listed a w->Mod [] W w->F w->Fin listed a F->wpAny P md ops Q g listed a w) :
  ∀ (f:Nat) (listed:Array Bool) (a:Act) (F:World->Prop) (w:World),slotsB ops A a.tmps.size=true->Inv ops A listed a w->Stays F->Mod [] W w->F w->wpAnyM P md ops W L n Fin f listed a F->wpAny P md ops Q (f+g) listed a w
 | 0,listed,a,F,w,_,I,_,hw,hF,h=>by rw [Nat.zero_add];exact hFin _ _ _ _ I hw hF h
 | f+1,listed,a,F,w,hsl,I,hs,hw,hF,h=>by
  rw [show f+1+g=(f+g)+1 by omega];exact ⟨fun h0=>absurd h0 h.1,fun i hi=>wpOp_of_mOpA hT hAl hsl I hs hw hF (fun a' F' w' hz I' hw' hs' hF' h'=>wpAny_of_MA hT hAl hFin f _ a' F' w' (by rw [hz];exact hsl) I' hs' hw' hF' h') (h.2 i hi).2⟩
def Dist (ops:Array Oper) (a:Act):List Nat->Prop
 | []=>True
 | i::l=>(∀ j∈l,dval ops a i≠dval ops a j)/\Dist ops a l
theorem Inv.dist {A:List Nat} {listed:Array Bool} {a:Act} {w:World} (I:Inv ops A listed a w) (hl:∀ i∈A,listed.getD i true=true):∀ l:List Nat,l.Nodup->(∀ i∈l,i∈A)->Dist ops a l
 | [],_,_=>trivial
 | i::l,hn,hs=>by
  obtain ⟨h1,h2⟩:=List.nodup_cons.1 hn;exact ⟨fun j hj=>I.apart i (hs i (by simp)) j (hs j (by simp [hj])) (fun he=>h1 (he ▸ hj)) (hl i (hs i (by simp))) (hl j (hs j (by simp [hj]))),I.dist hl l h2 fun k hk=>hs k (by simp [hk])⟩
def chainB (md:Region.Mode) (ops:Array Oper) (n:Nat) (ord c late:List Nat):Bool :=
 Region.noSelect ops && decide (n<=ops.size) && decide (ord.length+(c.length+late.length)=n) && late.all (fun i=>decide (i<n)) && c.all (fun i=>decide (i<n)) && Region.tailB md ops n && Region.downB md ops && Region.seqB md ops (ops.size - n) n (Region.canon ops n) &&
  lateApart ops late && Region.ordB md ops n (c++late) ord (Array.replicate ops.size false) && chainC md ops c && apartC ops c late && decide (c.Nodup) && c.all fun i=>!late.contains i
theorem wpAny_chain {Q:Exit->Act->World->Prop} {a:Act} {w:World} {l:List Oper} (n:Nat) (ord:List Nat) (c late:List (Nat×(Value->World->Prop)))
  (hB:chainB .any l.toArray n ord (c.map (·.1)) (late.map (·.1))=true) (hT:∀ p∈c++late,∀ v,Stays (p.2 v)) (hsl:slotsB l.toArray (late.map (·.1)) a.tmps.size=true) (hAl:∀ i∈late.map (·.1),∀ o,l.toArray[i]?=some o->IsAlloc P o)
  (h:wpSteady P l.toArray w (fun a'=>wpChain P l.toArray w (wpLates P l.toArray w (fun a'' F=>Dist l.toArray a'' (late.map (·.1))->∀ w',Mod [] w w'->F w'->wpList P l.toArray Q (l.drop n) a'' w') late) c a' (fun _=>True)) ord a) :
  wpAny P .any l.toArray Q l.toArray.size (Array.replicate l.toArray.size false) a { w with drawn:=w.drawn+1 }:=by
 simp only [chainB,Bool.and_eq_true,decide_eq_true_eq] at hB;obtain ⟨⟨⟨⟨⟨⟨⟨⟨⟨⟨⟨⟨⟨hsel,hn⟩,hlen⟩,hlt⟩,hltc⟩,ht⟩,hd⟩,hseq⟩,hap⟩,hord⟩,hcc⟩,hac⟩,hnd⟩,hdj⟩:=hB
 let L:Nat->Option (Value->World->Prop):=fun i=>((c++late).find? fun p=>p.1 == i).map (·.2)
 have hdj':∀ p∈c,p.1 ∉ late.map (·.1):=fun p hp=>by
  have:=List.all_eq_true.1 hdj p.1 (mM hp);simpa using this
 have hnd2:((c++late).map (·.1)).Nodup:=by
  rw [List.map_append,List.nodup_append];refine ⟨hnd,lateApart_nodup hap,fun x hx y hy hxy=>?_⟩;obtain ⟨p,hp,rfl⟩:=List.mem_map.1 hx;exact hdj' p hp (hxy ▸ hy)
 have hLn:∀ i,(c.map (·.1)++late.map (·.1)).contains i=false->L i=none:=fun i hi=>by
  simp only [L,Option.map_eq_none_iff,List.find?_eq_none];intro p hp he;have:(c.map (·.1)++late.map (·.1)).contains i=true:=by
   rw [<- List.map_append];have h1:i∈(c++late).map (·.1):=(beq_iff_eq.1 he) ▸ mM hp;simpa using h1
  rw [hi] at this;cases this
 have hLs:∀ p∈c++late,L p.1=some p.2:=fun p hp=>lookup_late (c++late) p hp hnd2
 have hLT:∀ i T,L i=some T->∀ v,Stays (T v):=fun i T hi v=>by
  simp only [L,Option.map_eq_some_iff] at hi;obtain ⟨p,hp,rfl⟩:=hi;exact hT p (List.mem_of_find?_eq_some hp) v
 have inv0:HeadInv .any l.toArray n (Array.replicate l.toArray.size false) :=
  ⟨by simp,fun j oj _ hl=>(by rw [getD_replicate_false] at hl;cases hl),fun t _ ht=>getD_in (by simpa using ht) (getD_replicate_false _ _)⟩
 have hE:∀ (a:Act) (F F':World->Prop),(∀ w,F' w->F w)->(Dist l.toArray a (late.map (·.1))->∀ w',Mod [] w w'->F w'->wpList P l.toArray Q (l.drop n) a w')->(Dist l.toArray a (late.map (·.1))->∀ w',Mod [] w w'->F' w'->wpList P l.toArray Q (l.drop n) a w') :=
  fun a F F' hF h hd w' hw hf=>h hd w' hw (hF w' hf)
 have hdl:(l.drop n).length=l.toArray.size - n:=by simp
 have H:=wpAnyM_ord (P:=P) (W:=w) (L:=L) (m:=c.length+late.length) (late:=c.map (·.1)++late.map (·.1)) (F:=fun _=>True)
  (Fin:=fun listed a F=>Region.seqB .any l.toArray (l.toArray.size - n) n listed=true/\(Dist l.toArray a (late.map (·.1))->∀ w',Mod [] w w'->F w'->wpList P l.toArray Q (l.drop n) a w'))
  hsel ht (fun listed a F hf=>seqB_ready hf.1) hLn (fun a listed inv hB hk=>by
   refine wpAnyM_chain hE (Region.noSelect_spec hsel) ht hd hn hseq (c.length+late.length) c late listed a _ rfl inv hap hcc (fun p hp q hq=>?_) hnd hdj' (fun p hp=>hLs p (by simp [hp])) (fun p hp=>hLs p (by simp [hp])) (fun i hi=>?_) (fun p hp=>?_) (fun p hp=>?_) hk
   ·have h1:=List.all_eq_true.1 (List.all_eq_true.1 hac p.1 (mM hp)) q.1 (mM hq)
    split at h1
    ·rename_i x y hx hy;exact ⟨x,y,hx,hy,h1⟩
    ·cases h1
   ·have:=List.all_eq_true.1 hB i (List.mem_range.2 hi);simp only [beq_iff_eq] at this;rw [Bool.eq_iff_iff] at this;simp only [beq_iff_eq,List.contains_iff_mem,List.mem_append] at this;exact this
   ·have:=List.all_eq_true.1 hltc p.1 (mM hp);simpa using this
   ·have:=List.all_eq_true.1 hlt p.1 (mM hp)
    simpa using this) ord _ a inv0 hord h
 have inv1:Inv l.toArray (late.map (·.1)) (Array.replicate l.toArray.size false) a { w with drawn:=w.drawn+1 }:=by
  have hf:∀ i∈late.map (·.1),(Array.replicate l.toArray.size false).getD i true=true->False:=fun i hi h1=>by
   have h2:=List.all_eq_true.1 hlt i hi;simp only [decide_eq_true_eq] at h2;rw [getD_in (by simp at hn ⊢;omega) (getD_replicate_false _ _)] at h1;cases h1
  exact ⟨fun i hi h1=>(hf i hi h1).elim,fun i hi _ _ _ h1=>(hf i hi h1).elim⟩
 have hfin:=wpAny_of_MA (P:=P) (md:=.any) (ops:=l.toArray) (W:=w) (Q:=Q) (g:=l.toArray.size - n) (A:=late.map (·.1)) hLT
  (fun j hj=>⟨by obtain ⟨p,hp,rfl⟩:=List.mem_map.1 hj;exact ⟨_,hLs p (by simp [hp])⟩,hAl j hj⟩) (fun listed a F w' I hw hF hf=>by
  have hdone:∀ i∈late.map (·.1),listed.getD i true=true:=fun i hi=>by
   have h2:=List.all_eq_true.1 hlt i hi;simp only [decide_eq_true_eq] at h2;cases hx:listed.getD i true with
   | true=>rfl
   | false =>
    obtain ⟨j,hj,hji⟩:=ready_below hd i (by omega) hx;have h3:=seqB_ready hf.1 j hj;omega
  have:=wpAny_of_seq (md:=.any) (Q':=Q) (l.drop n) n listed a w' (fun j=>by simp [List.getElem?_drop]) (by rw [hdl];exact hf.1) (hf.2 (I.dist hdone _ (lateApart_nodup hap) fun _ h=>h) w' hw hF)
  rwa [hdl] at this) _ _ _ _ { w with drawn:=w.drawn+1 } hsl inv1 (fun _ _ _ _=>trivial) ((Mod.refl [] w).drew) trivial H
 have hl2:ord.length+(c.length+late.length)+(l.toArray.size - n)=l.toArray.size:=by simp only [List.length_map] at hlen;omega
 rwa [hl2] at hfin
def waitsFor:List (Nat×Nat)->List Oper->List Oper
 | [],l=>l
 | p::ps,l=>waitsFor ps (waitFor p.1 p.2 l)
def floatsB (md:Region.Mode):List (Nat×Nat)->List Oper->Bool
 | [],_=>true
 | p::ps,l=>floatB md l.toArray p.1 p.2 && Region.noSelect l.toArray && decide (p.1<l.length) && decide (p.2<l.length) && floatsB md ps (waitFor p.1 p.2 l)
theorem wpAny_floats {Q:Exit->Act->World->Prop} (hQ:∀ c a d v w,Q (.panic c) (a.put d v) w->Q (.panic c) a w):∀ (ps:List (Nat×Nat)) (l:List Oper) (a:Act) (w:World),floatsB md ps l=true ->
  wpAny P md (waitsFor ps l).toArray Q (waitsFor ps l).toArray.size (Array.replicate (waitsFor ps l).toArray.size false) a w->wpAny P md l.toArray Q l.toArray.size (Array.replicate l.toArray.size false) a w
 | [],l,a,w,_,h=>h
 | p::ps,l,a,w,hB,h=>by
  simp only [floatsB,Bool.and_eq_true,decide_eq_true_eq] at hB;obtain ⟨⟨⟨⟨hf,hs⟩,ht⟩,hi⟩,hr⟩:=hB;have H:=wpAny_floats hQ ps (waitFor p.1 p.2 l) a w hr h;have e:(waitFor p.1 p.2 l).toArray.size=l.toArray.size:=by simp [wait_length]
  rw [e] at H;exact wpAny_float (wait_waits (gE ht)) hf hs hQ _ _ _ _ (getD_in (by simpa using hi) (getD_replicate_false _ _)) H
structure WChain (P:Program) (ops:Array Oper) (W:World) (E:Act->(World->Prop)->Prop) (l:List (Nat×(Value->World->Prop))) (a:Act) (F:World->Prop):Prop where
 out:wpChain P ops W E l a F
theorem wp_region_chain {id:Nat} {Q:Exit->Act->World->Prop} {a:Act} {w:World} {l:List Oper} (ps:List (Nat×Nat)) (l':List Oper) (n:Nat) (mask:List Bool) (c late:List (Nat×(Value->World->Prop)))
  (hm:P.follows .mixedOrders=true) (hl:l'=waitsFor ps l)
  (hB:(chainB .any l'.toArray n (idxM 0 mask) (c.map (·.1)) (late.map (·.1)) && decide (mask.length<=l'.length) && floatsB .any ps l)=true) (hT:∀ p∈c++late,∀ v,Stays (p.2 v)) (hsl:slotsB l'.toArray (late.map (·.1)) a.tmps.size=true) (hAl:∀ i∈late.map (·.1),∀ o,l'.toArray[i]?=some o->IsAlloc P o)
  (hQ:∀ c a d v w,Q (.panic c) (a.put d v) w->Q (.panic c) a w)
  (h:WSteady P l'.toArray w (fun a'=>WChain P l'.toArray w (wpLates P l'.toArray w (fun a'' F=>Dist l'.toArray a'' (late.map (·.1))->∀ w',Mod [] w w'->F w'->wpList P l'.toArray Q (l'.drop n) a'' w') late) c a' (fun _=>True)) (pickM l' mask) a) :
  (Code.region id l.toArray true).wp P Q a w:=by
 simp only [Bool.and_eq_true,decide_eq_true_eq] at hB;refine wp_region_any hm ?_;refine wpAny_floats hQ ps l _ _ hB.2 ?_;rw [<- hl];have h2:=steady_of_list mask 0 l' a (by simp) hB.1.2 h.out;refine wpAny_chain n (idxM 0 mask) c late hB.1.1 hT hsl hAl ?_;exact wpSteady_mono (fun a h=>h.out) _ _ h2
theorem chain_go {E:Act->(World->Prop)->Prop} {i:Nat} {T:Value->World->Prop} {l:List (Nat×(Value->World->Prop))} {a:Act} {F:World->Prop} {o:Oper} {f:Value->Act} (ho:ops[i]?=some o) (hg:o.guard=none) (hf:∀ v,f v=a.put o.dst v)
  (h:∀ w,Mod [] W w->F w->∀ (K:Act->World->Prop) (Q:Exit->Act->World->Prop),(∀ v w',Mod [] w w'->T v w'->K (f v) w')->o.wp P a w K Q)
  (hk:∀ v,WChain P ops W E l (f v) (fun w=>F w/\T v w)):WChain P ops W E ((i,T)::l) a F:=by
 refine ⟨?_⟩;unfold wpChain;simp only [ho];refine ⟨hg,fun w hw hF=>h w hw hF _ _ fun v w' m t=>⟨v,hf v,m,t⟩,fun v=>?_⟩;rw [<- hf v];exact (hk v).out
theorem chain_end {E:Act->(World->Prop)->Prop} {a:Act} {F:World->Prop} (h:E a F):WChain P ops W E [] a F:=⟨h⟩
end
end Ch
namespace Rg
section
variable {P:Program} {ops:Array Oper} {md:Region.Mode} {I:World->Prop} {L:Nat->Option (Value->World->Prop)}
def Late (P:Program) (o:Oper) (a:Act) (I:World->Prop) (T:Value->World->Prop):Prop :=
 ∀ w,I w->o.wp P a w (fun a' w'=>∃ v,a'=a.put o.dst v/\Mod [] w w'/\T v w') (fun _ _ _=>False)
def Steady (P:Program) (o:Oper) (a:Act) (I:World->Prop) (v:Value):Prop:=Late P o a I (fun u _=>u=v)
theorem wp_of_late {o:Oper} {a:Act} {T:Value->World->Prop} {K:Act->World->Prop} {Q:Exit->Act->World->Prop} {w:World} (hw:I w) (h:Late P o a I T)
  (hK:∀ v w',Mod [] w w'->T v w'->K (a.put o.dst v) w'):o.wp P a w K Q:=by
 have h3:=h w hw;unfold Oper.wp at *
 generalize (execOp a.eval o).run P w=r at *
 cases r with
 | ok n w' =>
  cases n <;> simp only [Oper.upon] at h3 ⊢
  case value u=>obtain ⟨v,e,m,t⟩:=h3;rw [e];exact hK _ _ m t
  case skip=>obtain ⟨v,e,m,t⟩:=h3;rw [e];exact hK _ _ m t
  case defer d=>obtain ⟨v,e,m,t⟩:=h3;rw [e];exact hK _ _ m t
  case enter f args =>
   refine Calls.mono h3 fun e w'' he=>?_
   cases e with
   | returned u =>
    obtain ⟨v,e,m,t⟩:=he;show K (a.put o.dst u) w'';rw [e];exact hK _ _ m t
   | panicked c=>exact he.elim
   | outgrown=>obtain ⟨_,_,h⟩:=he;exact h.elim
  case row row args=>exact Rows.mono h3 fun u w'' he=>by obtain ⟨v,e,m,t⟩:=he;rw [e];exact hK _ _ m t
 | halt x w'=>cases x <;> simp only [Oper.upon] at h3
theorem wp_of_steady {o:Oper} {a:Act} {v:Value} {K:Act->World->Prop} {Q:Exit->Act->World->Prop} {w:World} (hw:I w) (h:Steady P o a I v)
  (hK:∀ w',Mod [] w w'->K (a.put o.dst v) w'):o.wp P a w K Q :=
 wp_of_late hw h fun u w' m hu=>by rw [hu];exact hK w' m
def YieldsS (P:Program) (ops:Array Oper) (I:World->Prop) (o:Oper) (v:Value) (a:Act):Prop :=
 (Region.wanted o (yielded ops a.tmps)=true/\Steady P o a I v)∨(Region.wanted o (yielded ops a.tmps)=false/\v=undef)
theorem late_put {o:Oper} (hs:∀ cs b,o.op≠.select cs b) {a:Act} {d:Option Tmp} {v:Value} {T:Value->World->Prop} (h1:∀ t,d=some t->t ∉ o.looksAt ops) (h2:∀ t,d=some t->o.dst≠some t)
  (h:Late P o (a.put d v) I T):Late P o a I T:=by
 intro w hw;have h3:=h w hw;unfold Oper.wp at *
 rw [execOp_put o hs a d v h1] at h3;have key:∀ (x:Value) w',(∃ u,(a.put d v).put o.dst x=(a.put d v).put o.dst u/\Mod [] w w'/\T u w')->∃ u,a.put o.dst x=a.put o.dst u/\Mod [] w w'/\T u w':=by
  rintro x w' ⟨u,e,m,t⟩;refine ⟨u,?_,m,t⟩;rw [Act.put_comm a v x h2,Act.put_comm a v u h2] at e;cases d with
  | none=>exact e
  | some t =>
   cases ho:o.dst with
   | none=>rfl
   | some s =>
    rw [ho] at e;have hne:s≠t:=fun hst=>h2 t rfl (by rw [ho,hst])
    have e2:=congrArg Act.tmps e;simp only [Act.put] at e2 ⊢;have e3:a.tmps.setIfInBounds s x=a.tmps.setIfInBounds s u:=by
     apply Array.ext_getElem?;intro k;have:=congrArg (fun z=>z[k]?) e2
     by_cases hk:t=k
     ·subst hk;rw [Array.getElem?_setIfInBounds_ne hne,Array.getElem?_setIfInBounds_ne hne]
     ·rwa [Array.getElem?_setIfInBounds_ne hk,Array.getElem?_setIfInBounds_ne hk] at this
    rw [e3]
 generalize (execOp a.eval o).run P w=r at *
 cases r with
 | ok n w' =>
  cases n <;> simp only [Oper.upon] at h3 ⊢
  case value u=>exact key _ _ h3
  case skip=>exact key _ _ h3
  case defer x =>
   obtain ⟨u,e,m,t⟩:=h3;have e2:=congrArg Act.defers e;exfalso;have hl:∀ (b:Act) (d:Option Tmp) (v:Value),(b.put d v).defers=b.defers:=fun b d v=>by cases d <;> rfl
   have e3:x::a.defers=a.defers:=by simpa only [hl] using e2
   have:=congrArg List.length e3;simp at this
  case enter f args =>
   refine Calls.mono h3 fun e w'' he=>?_
   cases e with
   | returned u=>exact key _ _ he
   | panicked c=>exact he.elim
   | outgrown=>obtain ⟨_,_,h⟩:=he;exact h.elim
  case row row args=>exact Rows.mono h3 fun u w'' he=>key _ _ he
 | halt x w'=>cases x <;> simp only [Oper.upon] at h3
theorem late_put' {o:Oper} (hs:∀ cs b,o.op≠.select cs b) {a:Act} {d:Option Tmp} {v:Value} {T:Value->World->Prop} (h1:∀ t,d=some t->t ∉ o.looksAt ops) (h2:∀ t,d=some t->o.dst≠some t)
  (h:Late P o a I T):Late P o (a.put d v) I T:=by
 intro w hw;have h3:=h w hw;unfold Oper.wp at *
 rw [execOp_put o hs a d v h1];have key:∀ (x:Value) w',(∃ u,a.put o.dst x=a.put o.dst u/\Mod [] w w'/\T u w')->∃ u,(a.put d v).put o.dst x=(a.put d v).put o.dst u/\Mod [] w w'/\T u w':=by
  rintro x w' ⟨u,e,m,t⟩;exact ⟨u,by rw [Act.put_comm a v x h2,Act.put_comm a v u h2,e],m,t⟩
 generalize (execOp a.eval o).run P w=r at *
 cases r with
 | ok n w' =>
  cases n <;> simp only [Oper.upon] at h3 ⊢
  case value u=>exact key _ _ h3
  case skip=>exact key _ _ h3
  case defer x =>
   obtain ⟨u,e,m,t⟩:=h3;have e2:=congrArg Act.defers e;exfalso;have hl:∀ (b:Act) (d:Option Tmp) (v:Value),(b.put d v).defers=b.defers:=fun b d v=>by cases d <;> rfl
   have e3:x::a.defers=a.defers:=by simpa only [hl] using e2
   have:=congrArg List.length e3;simp at this
  case enter f args =>
   refine Calls.mono h3 fun e w'' he=>?_
   cases e with
   | returned u=>exact key _ _ he
   | panicked c=>exact he.elim
   | outgrown=>obtain ⟨_,_,h⟩:=he;exact h.elim
  case row row args=>exact Rows.mono h3 fun u w'' he=>key _ _ he
 | halt x w'=>cases x <;> simp only [Oper.upon] at h3
def LateF (P:Program) (o:Oper) (a:Act) (I:World->Prop) (F:World->Prop) (T:Value->World->Prop):Prop :=
 ∀ w,I w->F w->o.wp P a w (fun a' w'=>∃ v,a'=a.put o.dst v/\I w'/\T v w') (fun _ _ _=>False)
theorem lateF_put {o:Oper} (hs:∀ cs b,o.op≠.select cs b) {a:Act} {d:Option Tmp} {v:Value} {F:World->Prop} {T:Value->World->Prop} (h1:∀ t,d=some t->t ∉ o.looksAt ops) (h2:∀ t,d=some t->o.dst≠some t)
  (h:LateF P o (a.put d v) I F T):LateF P o a I F T:=by
 intro w hw hF;have h3:=h w hw hF;unfold Oper.wp at *
 rw [execOp_put o hs a d v h1] at h3;have key:∀ (x:Value) w',(∃ u,(a.put d v).put o.dst x=(a.put d v).put o.dst u/\I w'/\T u w')->∃ u,a.put o.dst x=a.put o.dst u/\I w'/\T u w':=by
  rintro x w' ⟨u,e,m,t⟩;refine ⟨u,?_,m,t⟩;rw [Act.put_comm a v x h2,Act.put_comm a v u h2] at e;cases d with
  | none=>exact e
  | some t =>
   cases ho:o.dst with
   | none=>rfl
   | some s =>
    rw [ho] at e;have hne:s≠t:=fun hst=>h2 t rfl (by rw [ho,hst])
    have e2:=congrArg Act.tmps e;simp only [Act.put] at e2 ⊢;have e3:a.tmps.setIfInBounds s x=a.tmps.setIfInBounds s u:=by
     apply Array.ext_getElem?;intro k;have:=congrArg (fun z=>z[k]?) e2
     by_cases hk:t=k
     ·subst hk;rw [Array.getElem?_setIfInBounds_ne hne,Array.getElem?_setIfInBounds_ne hne]
     ·rwa [Array.getElem?_setIfInBounds_ne hk,Array.getElem?_setIfInBounds_ne hk] at this
    rw [e3]
 generalize (execOp a.eval o).run P w=r at *
 cases r with
 | ok n w' =>
  cases n <;> simp only [Oper.upon] at h3 ⊢
  case value u=>exact key _ _ h3
  case skip=>exact key _ _ h3
  case defer x =>
   obtain ⟨u,e,m,t⟩:=h3;have e2:=congrArg Act.defers e;exfalso;have hl:∀ (b:Act) (d:Option Tmp) (v:Value),(b.put d v).defers=b.defers:=fun b d v=>by cases d <;> rfl
   have e3:x::a.defers=a.defers:=by simpa only [hl] using e2
   have:=congrArg List.length e3;simp at this
  case enter f args =>
   refine Calls.mono h3 fun e w'' he=>?_
   cases e with
   | returned u=>exact key _ _ he
   | panicked c=>exact he.elim
   | outgrown=>obtain ⟨_,_,h⟩:=he;exact h.elim
  case row row args=>exact Rows.mono h3 fun u w'' he=>key _ _ he
 | halt x w'=>cases x <;> simp only [Oper.upon] at h3
theorem lateF_put' {o:Oper} (hs:∀ cs b,o.op≠.select cs b) {a:Act} {d:Option Tmp} {v:Value} {F:World->Prop} {T:Value->World->Prop} (h1:∀ t,d=some t->t ∉ o.looksAt ops) (h2:∀ t,d=some t->o.dst≠some t)
  (h:LateF P o a I F T):LateF P o (a.put d v) I F T:=by
 intro w hw hF;have h3:=h w hw hF;unfold Oper.wp at *
 rw [execOp_put o hs a d v h1];have key:∀ (x:Value) w',(∃ u,a.put o.dst x=a.put o.dst u/\I w'/\T u w')->∃ u,(a.put d v).put o.dst x=(a.put d v).put o.dst u/\I w'/\T u w':=by
  rintro x w' ⟨u,e,m,t⟩;exact ⟨u,by rw [Act.put_comm a v x h2,Act.put_comm a v u h2,e],m,t⟩
 generalize (execOp a.eval o).run P w=r at *
 cases r with
 | ok n w' =>
  cases n <;> simp only [Oper.upon] at h3 ⊢
  case value u=>exact key _ _ h3
  case skip=>exact key _ _ h3
  case defer x =>
   obtain ⟨u,e,m,t⟩:=h3;have e2:=congrArg Act.defers e;exfalso;have hl:∀ (b:Act) (d:Option Tmp) (v:Value),(b.put d v).defers=b.defers:=fun b d v=>by cases d <;> rfl
   have e3:x::a.defers=a.defers:=by simpa only [hl] using e2
   have:=congrArg List.length e3;simp at this
  case enter f args =>
   refine Calls.mono h3 fun e w'' he=>?_
   cases e with
   | returned u=>exact key _ _ he
   | panicked c=>exact he.elim
   | outgrown=>obtain ⟨_,_,h⟩:=he;exact h.elim
  case row row args=>exact Rows.mono h3 fun u w'' he=>key _ _ he
 | halt x w'=>cases x <;> simp only [Oper.upon] at h3
theorem wp_of_lateF {o:Oper} {a:Act} {F:World->Prop} {T:Value->World->Prop} {K:Act->World->Prop} {Q:Exit->Act->World->Prop} {w:World} (hw:I w) (hF:F w) (h:LateF P o a I F T)
  (hK:∀ v w',I w'->T v w'->K (a.put o.dst v) w'):o.wp P a w K Q:=by
 have h3:=h w hw hF;unfold Oper.wp at *
 generalize (execOp a.eval o).run P w=r at *
 cases r with
 | ok n w' =>
  cases n <;> simp only [Oper.upon] at h3 ⊢
  case value u=>obtain ⟨v,e,m,t⟩:=h3;rw [e];exact hK _ _ m t
  case skip=>obtain ⟨v,e,m,t⟩:=h3;rw [e];exact hK _ _ m t
  case defer d=>obtain ⟨v,e,m,t⟩:=h3;rw [e];exact hK _ _ m t
  case enter f args =>
   refine Calls.mono h3 fun e w'' he=>?_
   cases e with
   | returned u =>
    obtain ⟨v,e,m,t⟩:=he;show K (a.put o.dst u) w'';rw [e];exact hK _ _ m t
   | panicked c=>exact he.elim
   | outgrown=>obtain ⟨_,_,h⟩:=he;exact h.elim
  case row row args=>exact Rows.mono h3 fun u w'' he=>by obtain ⟨v,e,m,t⟩:=he;rw [e];exact hK _ _ m t
 | halt x w'=>cases x <;> simp only [Oper.upon] at h3
variable (hI:∀ w w',I w->Mod [] w w'->I w')
include hI
omit hI
end
def Know (Post:World->Prop) (r:Value) (v:Value) (w:World):Prop:=v=r/\Post w
theorem know_stays {Post:World->Prop} (hP:Stays Post) (r v:Value):Stays (Know Post r v):=fun w w' h k=>⟨h.1,hP _ _ h.2 k⟩
end Rg
namespace Sw
abbrev Fact:=Value->World->Prop
section
variable {P:Program} {ops:Array Oper} {md:Region.Mode} {I:World->Prop} {L:Nat->Option Fact}
def mOp (P:Program) (ops:Array Oper) (I:World->Prop) (L:Nat->Option (Value->World->Prop)) (i:Nat) (K:Act->(World->Prop)->Prop) (a:Act) (F:World->Prop):Prop :=
 match ops[i]?,L i with
 | some o,none=>if Region.wanted o (yielded ops a.tmps) then ∃ v,Rg.Steady P o a I v/\K (a.put o.dst v) F else K (a.put o.dst undef) F
 | some o,some T=>Region.wanted o (yielded ops a.tmps)=true/\Rg.LateF P o a I F T/\∀ v,(∃ w,I w/\T v w)->K (a.put o.dst v) (fun w=>T v w)
 | none,_=>False
def wpAnyM (P:Program) (md:Region.Mode) (ops:Array Oper) (I:World->Prop) (L:Nat->Option (Value->World->Prop)) (n:Nat) (Fin:Array Bool->Act->(World->Prop)->Prop):Nat->Array Bool->Act->(World->Prop)->Prop
 | 0,listed,a,F=>Fin listed a F
 | f+1,listed,a,F=>Region.ready md ops listed≠[]/\∀ i∈Region.ready md ops listed,i<n/\mOp P ops I L i (wpAnyM P md ops I L n Fin f (listed.setIfInBounds i true)) a F
variable (hI:∀ w w',I w->Mod [] w w'->I w')
include hI
theorem wpOp_of_mOp {i:Nat} {a:Act} {F:World->Prop} {K:Act->(World->Prop)->Prop} {K':Act->World->Prop} {Q:Exit->Act->World->Prop} {w:World}
  (hT:∀ i T,L i=some T->∀ v,Stays (T v)) (hs:Stays F) (hw:I w) (hF:F w) (h:∀ a F w',I w'->Stays F->F w'->K a F->K' a w') (hh:mOp P ops I L i K a F):wpOp P ops Q i K' a w:=by
 unfold mOp at hh;unfold wpOp
 split at hh
 ·rename_i o ho hl;simp only [ho]
  split
  ·rename_i hwn;simp only [hwn,if_true] at hh;obtain ⟨v,h1,h2⟩:=hh;exact .inl (Rg.wp_of_steady hw h1 fun w' m=>h _ _ _ (hI _ _ hw m) hs (hs _ _ hF m) h2)
  ·rename_i hwn;simp only [hwn] at hh;exact h _ _ _ hw hs hF hh
 ·rename_i o T ho hl;obtain ⟨hg,h1,h2⟩:=hh;simp only [ho,hg,if_true];exact .inl (Rg.wp_of_lateF hw hF h1 fun v w' m t=>h _ _ _ m (hT i T hl v) t (h2 v ⟨w',m,t⟩))
 ·exact hh.elim
theorem wpAny_of_M {n g:Nat} {Fin:Array Bool->Act->(World->Prop)->Prop} {Q:Exit->Act->World->Prop} (hT:∀ i T,L i=some T->∀ v,Stays (T v))
  (hFin:∀ listed a F w,I w->F w->Fin listed a F->wpAny P md ops Q g listed a w) :
  ∀ (f:Nat) (listed:Array Bool) (a:Act) (F:World->Prop) (w:World),Stays F->I w->F w->wpAnyM P md ops I L n Fin f listed a F->wpAny P md ops Q (f+g) listed a w
 | 0,listed,a,F,w,_,hw,hF,h=>by rw [Nat.zero_add];exact hFin _ _ _ _ hw hF h
 | f+1,listed,a,F,w,hs,hw,hF,h=>by
  rw [show f+1+g=(f+g)+1 by omega];exact ⟨fun h0=>absurd h0 h.1,fun i hi=>wpOp_of_mOp hI hT hs hw hF (fun a' F' w' hw' hs' hF' h'=>wpAny_of_M hT hFin f _ a' F' w' hs' hw' hF' h') (h.2 i hi).2⟩
omit hI
theorem YieldsS_mOp {i:Nat} {o:Oper} {v:Value} {a:Act} {F:World->Prop} (hi:ops[i]?=some o) (hl:L i=none) (hy:Rg.YieldsS P ops I o v a) {K:Act->(World->Prop)->Prop} (h:K (a.put o.dst v) F):mOp P ops I L i K a F:=by
 unfold mOp;simp only [hi,hl];rcases hy with ⟨hw,hv⟩ | ⟨hw,rfl⟩
 ·simp only [hw,if_true];exact ⟨v,hv,h⟩
 ·simp only [hw,Bool.false_eq_true,if_false];exact h
theorem mOp_put {j:Nat} {oi oj:Oper} {v:Value} (hj:ops[j]?=some oj) (hap:oi.apart ops oj=true)
  (hsi:∀ cs b,oi.op≠.select cs b) (hsj:∀ cs b,oj.op≠.select cs b) {K:Act->(World->Prop)->Prop} {a:Act} {F:World->Prop}
  (hy:Rg.YieldsS P ops I oi v a) (h:mOp P ops I L j K (a.put oi.dst v) F) :
  mOp P ops I L j (fun a' F'=>Rg.YieldsS P ops I oi v a'/\K (a'.put oi.dst v) F') a F:=by
 obtain ⟨h1,h2,h3⟩:=Oper.apart_spec hap;have h2':∀ d,oj.dst=some d->oi.dst≠some d:=fun d hd hi'=>h2 d hi' hd
 have keep:∀ (a:Act),Rg.YieldsS P ops I oi v a->∀ u,Rg.YieldsS P ops I oi v (a.put oj.dst u):=fun a hy u=>by
  unfold Rg.YieldsS at *
  rw [wanted_put oi a oj.dst u h3];exact hy.imp (fun hh=>⟨hh.1,Rg.late_put' hsi h3 h2' hh.2⟩) id
 unfold mOp at *
 cases hl:L j with
 | none =>
  simp only [hj,hl] at h ⊢;rw [wanted_put oj a oi.dst v h1] at h
  split
  ·rename_i hw;simp only [hw,if_true] at h;obtain ⟨u,hu,hn⟩:=h;exact ⟨u,Rg.late_put hsj h1 h2 hu,keep a hy u,by rw [<- Act.put_comm a v u h2];exact hn⟩
  ·rename_i hw;simp only [hw] at h;exact ⟨keep a hy _,by rw [<- Act.put_comm a v undef h2];exact h⟩
 | some T =>
  simp only [hj,hl] at h ⊢;rw [wanted_put oj a oi.dst v h1] at h;exact ⟨h.1,Rg.lateF_put hsj h1 h2 h.2.1,fun u hu=>⟨keep a hy u,by rw [<- Act.put_comm a v u h2];exact h.2.2 u hu⟩⟩
theorem mOp_same {j:Nat} {a:Act} {F:World->Prop} {K K':Act->(World->Prop)->Prop} (h:∀ a F,K a F->K' a F) (hh:mOp P ops I L j K a F):mOp P ops I L j K' a F:=by
 unfold mOp at *
 split
 ·rename_i o ho hl;simp only [ho,hl] at hh
  split
  ·rename_i hw;simp only [hw,if_true] at hh;obtain ⟨v,h1,h2⟩:=hh;exact ⟨v,h1,h _ _ h2⟩
  ·rename_i hw;simp only [hw] at hh;exact h _ _ hh
 ·rename_i o T ho hl;simp only [ho,hl] at hh;exact ⟨hh.1,hh.2.1,fun v hv=>h _ _ (hh.2.2 v hv)⟩
 ·rename_i ho;simp only [ho] at hh
theorem wpAnyM_first {n i:Nat} {oi:Oper} {v:Value} {Fin:Array Bool->Act->(World->Prop)->Prop} (hi:ops[i]?=some oi) (hl:L i=none) (hsel:∀ (j:Nat) (o:Oper) cs b,ops[j]?=some o->o.op≠.select cs b)
  (ht:Region.tailB md ops n=true) (hin:i<n) (hdone:∀ listed a F,Fin listed a F->∀ j∈Region.ready md ops listed,n<=j) :
  ∀ (f:Nat) (listed:Array Bool) (a:Act) (F:World->Prop),HeadInv md ops n listed ->
   (∀ j oj,ops[j]?=some oj->j≠i->listed.getD j true=false->(∀ e∈oj.after,Region.binds md e=true->e.on≠i)->oi.apart ops oj=true) ->
   i∈Region.ready md ops listed->Rg.YieldsS P ops I oi v a ->
   wpAnyM P md ops I L n Fin f (listed.setIfInBounds i true) (a.put oi.dst v) F->wpAnyM P md ops I L n Fin (f+1) listed a F:=by
 intro f
 induction f with
 | zero =>
  intro listed a F inv _ hr hy H;have hun:=(mem_ready.1 hr).1;refine ⟨fun h=>(by rw [h] at hr;cases hr),fun j hj=>?_⟩;have hjn:=ready_lt ht inv hin hun hj;refine ⟨hjn,?_⟩
  by_cases hji:j=i
  ·subst hji;exact YieldsS_mOp hi hl hy H
  ·have:=hdone _ _ _ H j (ready_mono hj hji);omega
 | succ f ih =>
  intro listed a F inv hfree hr hy H;have hun:=(mem_ready.1 hr).1;refine ⟨fun h=>(by rw [h] at hr;cases hr),fun j hj=>?_⟩;have hjn:=ready_lt ht inv hin hun hj;refine ⟨hjn,?_⟩
  by_cases hji:j=i
  ·subst hji;exact YieldsS_mOp hi hl hy H
  ·have h1:=(H.2 j (ready_mono hj hji)).2;obtain ⟨hjun,oj,hoj,hall⟩:=mem_ready.1 hj;have hnot:∀ e∈oj.after,Region.binds md e=true->e.on≠i:=fun e he hb heq=>by
    have h1:=hall e he hb;rw [heq,getD_both hun] at h1;cases h1
   have h2:=mOp_put hoj (hfree j oj hoj hji hjun hnot) (fun cs b=>hsel i oi cs b hi) (fun cs b=>hsel j oj cs b hoj) hy h1;have hfree':∀ k ok,ops[k]?=some ok->k≠i->(listed.setIfInBounds j true).getD k true=false ->
     (∀ e∈ok.after,Region.binds md e=true->e.on≠i)->oi.apart ops ok=true:=fun k ok hk hki hun hno=>by
    refine hfree k ok hk hki ?_ hno
    by_cases hjk:j=k
    ·subst hjk;exact hjun
    ·rw [getD_set_ne true hjk] at hun;exact hun
   refine mOp_same (fun a' F' h3=>ih (listed.setIfInBounds j true) a' F' (inv.set hj hjn) hfree' (ready_mono hr (Ne.symm hji)) h3.1 ?_) h2;rw [Array.setIfInBounds_comm _ _ hji];exact h3.2
def wpToks (P:Program) (ops:Array Oper) (I:World->Prop) (E:Act->(World->Prop)->Prop):List (Nat×Option Fact)->Act->(World->Prop)->Prop
 | [],a,F=>E a F
 | p::l,a,F=>match ops[p.1]?,p.2 with
  | none,_=>False
  | some o,none=>if Region.wanted o (yielded ops a.tmps) then ∃ v,Rg.Steady P o a I v/\wpToks P ops I E l (a.put o.dst v) F else wpToks P ops I E l (a.put o.dst undef) F
  | some o,some T=>Region.wanted o (yielded ops a.tmps)=true/\Rg.LateF P o a I F T/\∀ v,(∃ w,I w/\T v w)->wpToks P ops I E l (a.put o.dst v) (fun w=>T v w)
def toksB (md:Region.Mode) (ops:Array Oper) (n:Nat):List (Nat×Bool)->Array Bool->Bool
 | [],listed=>Region.seqB md ops (ops.size - n) n listed
 | p::l,listed=>decide (p.1<n) && (if p.2 then Region.ready md ops listed == [p.1] else (Region.ready md ops listed).contains p.1 && Region.free md ops listed p.1) && toksB md ops n l (listed.setIfInBounds p.1 true)
theorem wpAnyM_toks {n:Nat} {E:Act->(World->Prop)->Prop} (hsel:Region.noSelect ops=true) (ht:Region.tailB md ops n=true) :
  ∀ (l:List (Nat×Option Fact)) (listed:Array Bool) (a:Act) (F:World->Prop),HeadInv md ops n listed->toksB md ops n (l.map fun p=>(p.1,p.2.isSome)) listed=true->(∀ p∈l,L p.1=p.2)->wpToks P ops I E l a F ->
   wpAnyM P md ops I L n (fun listed' a' F'=>Region.seqB md ops (ops.size - n) n listed'=true/\E a' F') l.length listed a F
 | [],listed,a,F,inv,hB,hL,h=>⟨hB,h⟩
 | (i,none)::l,listed,a,F,inv,hB,hL,h=>by
  simp only [List.map_cons,toksB,Bool.and_eq_true,decide_eq_true_eq,Option.isSome_none,Bool.false_eq_true,if_false] at hB;obtain ⟨⟨hin,hr,hf⟩,hB'⟩:=hB;have hr':i∈Region.ready md ops listed:=by simpa using hr
  unfold wpToks at h;cases ho:ops[i]? with
  | none=>simp only [ho] at h
  | some o =>
   simp only [ho] at h;obtain ⟨v,hy,hk⟩:∃ v,Rg.YieldsS P ops I o v a/\wpToks P ops I E l (a.put o.dst v) F:=by
    by_cases hw:Region.wanted o (yielded ops a.tmps)=true
    ·simp only [hw,if_true] at h;obtain ⟨v,h1,h2⟩:=h;exact ⟨v,.inl ⟨hw,h1⟩,h2⟩
    ·simp only [hw] at h;exact ⟨undef,.inr ⟨by simpa using hw,rfl⟩,h⟩
   exact wpAnyM_first ho (hL (i,none) (by simp)) (Region.noSelect_spec hsel) ht hin (fun listed a F hf=>seqB_ready hf.1) l.length listed a F inv (Region.free_spec ho hf) hr' hy
    (wpAnyM_toks hsel ht l _ _ _ (inv.set hr' hin) hB' (fun p hp=>hL p (List.mem_cons_of_mem _ hp)) hk)
 | (i,some T)::l,listed,a,F,inv,hB,hL,h=>by
  simp only [List.map_cons,toksB,Bool.and_eq_true,decide_eq_true_eq,Option.isSome_some,if_true] at hB;obtain ⟨⟨hin,hr⟩,hB'⟩:=hB;have hr':Region.ready md ops listed=[i]:=by simpa using hr
  unfold wpToks at h;cases ho:ops[i]? with
  | none=>simp only [ho] at h
  | some o =>
   simp only [ho] at h;refine ⟨by rw [hr'];simp,fun j hj=>?_⟩;rw [hr'] at hj;obtain rfl:=mI.1 hj;refine ⟨hin,?_⟩;unfold mOp;simp only [ho,hL (j,some T) (by simp)];exact ⟨h.1,h.2.1,fun v hv=>wpAnyM_toks hsel ht l _ _ _ (inv.set (by rw [hr'];simp) hin) hB' (fun p hp=>hL p (List.mem_cons_of_mem _ hp)) (h.2.2 v hv)⟩
def lookT (l:List (Nat×Option Fact)) (i:Nat):Option Fact:=(l.find? fun p=>p.1 == i).bind (·.2)
theorem lookT_mem:∀ (l:List (Nat×Option Fact)),(l.map (·.1)).Nodup->∀ p∈l,lookT l p.1=p.2
 | q::l,hn,p,hp=>by
  simp only [List.map_cons,List.nodup_cons] at hn;unfold lookT
  by_cases hq:q.1=p.1
  ·rw [List.find?_cons_of_pos (by simpa using hq)];rcases List.mem_cons.1 hp with h | h
   ·rw [h];rfl
   ·exact absurd (by rw [hq];exact mM h) hn.1
  ·rw [List.find?_cons_of_neg (by simpa using hq)];rcases List.mem_cons.1 hp with h | h
   ·exact absurd (by rw [h]) hq
   ·exact lookT_mem l hn.2 p h
theorem lookT_some {l:List (Nat×Option Fact)} {i:Nat} {T:Fact} (h:lookT l i=some T):(i,some T)∈l:=by
 unfold lookT at h;cases hf:l.find? (fun p=>p.1 == i) with
 | none=>rw [hf] at h;cases h
 | some p =>
  rw [hf] at h;have h1:=List.find?_some hf;have h2:=List.mem_of_find?_eq_some hf;simp only [beq_iff_eq] at h1;obtain ⟨q,r⟩:=p;simp only at h1;subst h1;simp only [Option.bind_some] at h;subst h;exact h2
structure WToks (P:Program) (ops:Array Oper) (I:World->Prop) (E:Act->(World->Prop)->Prop) (l:List (Nat×Option Fact)) (a:Act) (F:World->Prop):Prop where
 out:wpToks P ops I E l a F
def ndB:List Nat->Bool
 | []=>true
 | x::l=>!l.contains x && ndB l
theorem nodup_of:∀ {l:List Nat},ndB l=true->l.Nodup
 | [],_=>List.nodup_nil
 | x::l,h=>by
  simp only [ndB,Bool.and_eq_true,Bool.not_eq_true'] at h;exact List.nodup_cons.2 ⟨by simpa using h.1,nodup_of h.2⟩
include hI in
theorem wp_region_sw {id:Nat} {Q:Exit->Act->World->Prop} {a:Act} {w:World} {l:List Oper} (n:Nat) (toks:List (Nat×Option Fact))
  (hm:P.follows .mixedOrders=true) (hB:(Region.noSelect l.toArray && decide (n<=l.length) && decide (toks.length=n) && Region.tailB .any l.toArray n && toksB .any l.toArray n (toks.map fun p=>(p.1,p.2.isSome)) (Array.replicate l.toArray.size false))=true)
  (hn:(toks.map (·.1)).Nodup) (hT:∀ p∈toks,∀ T,p.2=some T->∀ v,Stays (T v)) (hw:I w.drew) {F0:World->Prop} (hF0:Stays F0) (hw0:F0 w.drew)
  (h:WToks P l.toArray I (fun a' F=>∀ w',I w'->F w'->wpList P l.toArray Q (l.drop n) a' w') toks a F0) :
  (Code.region id l.toArray true).wp P Q a w:=by
 simp only [Bool.and_eq_true,decide_eq_true_eq] at hB;obtain ⟨⟨⟨⟨hsel,hnl⟩,hlen⟩,ht⟩,hB'⟩:=hB;have inv0:HeadInv .any l.toArray n (Array.replicate l.toArray.size false) :=
  ⟨by simp,fun j oj _ hl=>(by rw [getD_replicate_false] at hl;cases hl),fun t _ ht=>getD_in (by simpa using ht) (getD_replicate_false _ _)⟩
 have H:=wpAnyM_toks (P:=P) (I:=I) (L:=lookT toks) hsel ht toks _ a _ inv0 hB' (lookT_mem toks hn) h.out;refine wp_region_any hm ?_;have hdl:(l.drop n).length=l.toArray.size - n:=by simp
 have hfin:=wpAny_of_M hI (P:=P) (md:=.any) (ops:=l.toArray) (Q:=Q) (g:=l.toArray.size - n) (fun i T hi v=>hT _ (lookT_some hi) T rfl v) (fun listed a F w' hw hF hf=>by
  have:=wpAny_of_seq (md:=.any) (Q':=Q) (l.drop n) n listed a w' (fun j=>by simp [List.getElem?_drop]) (by rw [hdl];exact hf.1) (hf.2 w' hw hF)
  rwa [hdl] at this) _ _ _ _ w.drew hF0 hw hw0 H
 have hl2:toks.length+(l.toArray.size - n)=l.toArray.size:=by simp;omega
 rwa [hl2] at hfin
theorem nil_go {E:Act->(World->Prop)->Prop} {a:Act} {F:World->Prop} (h:E a F):WToks P ops I E [] a F:=⟨h⟩
theorem v_go {w0:World} (hw0:I w0) {E:Act->(World->Prop)->Prop} {l:List (Nat×Option Fact)} {a a':Act} {F:World->Prop} {i:Nat} {o:Oper} (ho:ops[i]?=some o) (hg:Region.wanted o (yielded ops a.tmps)=true) (hd:a'.defers=a.defers)
  (h:∀ w,I w->∀ (K:Act->World->Prop) (Q:Exit->Act->World->Prop),(∀ w',Mod [] w w'->K a' w')->o.wp P a w K Q) (hr:WToks P ops I E l a' F):WToks P ops I E ((i,none)::l) a F:=by
 refine ⟨?_⟩;obtain ⟨u,hu⟩:=put_of_wp (R:=fun _=>True) hd (h w0 hw0 _ _ fun w' _=>⟨rfl,trivial⟩);unfold wpToks;simp only [ho];rw [if_pos hg];refine ⟨u,fun w hw=>h w hw _ _ fun w' m=>⟨u,hu.symm,m,rfl⟩,?_⟩;rw [hu];exact hr.out
theorem p_go {E:Act->(World->Prop)->Prop} {l:List (Nat×Option Fact)} {a a':Act} {F:World->Prop} {i:Nat} {o:Oper} (ho:ops[i]?=some o) (hg:Region.wanted o (yielded ops a.tmps)=false) (hp:a.put o.dst undef=a') (hr:WToks P ops I E l a' F):WToks P ops I E ((i,none)::l) a F:=by
 refine ⟨?_⟩;unfold wpToks;simp only [ho];rw [if_neg (by rw [hg];exact Bool.false_ne_true),hp];exact hr.out
theorem x_go {E:Act->(World->Prop)->Prop} {l:List (Nat×Option Fact)} {a:Act} {F:World->Prop} {T:Fact} {f:Value->Act} {i:Nat} {o:Oper} (ho:ops[i]?=some o) (hg:Region.wanted o (yielded ops a.tmps)=true) (hf:∀ v,f v=a.put o.dst v)
  (h:∀ w,I w->F w->∀ (K:Act->World->Prop) (Q:Exit->Act->World->Prop),(∀ v w',I w'->T v w'->K (f v) w')->o.wp P a w K Q)
  (hk:∀ v,(∃ w,I w/\T v w)->WToks P ops I E l (f v) (fun w=>T v w)):WToks P ops I E ((i,some T)::l) a F:=by
 refine ⟨?_⟩;unfold wpToks;simp only [ho];refine ⟨hg,fun w hw hF=>h w hw hF _ _ fun v w' m t=>⟨v,hf v,m,t⟩,fun v hv=>?_⟩;rw [<- hf v];exact (hk v hv).out
end
end Sw
namespace Sa
abbrev Fc:=World->Prop
inductive Tok where
 | v
 | x (T:Fc)
 | al (f:Nat->Value) (T:Nat->Fc)
section
variable {P:Program} {ops:Array Oper} {md:Region.Mode} {I:World->Prop} {J:World->World->Prop}
def Run (P:Program) (o:Oper) (a:Act) (pre:Fc) (post:World->Value->World->Prop):Prop:=∀ w0,pre w0->Rg.LateF P o a (fun _=>True) (fun w=>w=w0) (post w0)
theorem Run.weak {o:Oper} {a:Act} {pre pre':Fc} {post:World->Value->World->Prop} (h:Run P o a pre post) (hp:∀ w,pre' w->pre w):Run P o a pre' post:=fun w0 h0=>h w0 (hp w0 h0)
theorem Run.put {o:Oper} (hs:∀ cs b,o.op≠.select cs b) {a:Act} {d:Option Tmp} {v:Value} {pre:Fc} {post:World->Value->World->Prop} (h1:∀ t,d=some t->t ∉ o.looksAt ops) (h2:∀ t,d=some t->o.dst≠some t)
  (h:Run P o (a.put d v) pre post):Run P o a pre post:=fun w0 h0=>Rg.lateF_put hs h1 h2 (h w0 h0)
theorem Run.put' {o:Oper} (hs:∀ cs b,o.op≠.select cs b) {a:Act} {d:Option Tmp} {v:Value} {pre:Fc} {post:World->Value->World->Prop} (h1:∀ t,d=some t->t ∉ o.looksAt ops) (h2:∀ t,d=some t->o.dst≠some t)
  (h:Run P o a pre post):Run P o (a.put d v) pre post:=fun w0 h0=>Rg.lateF_put' hs h1 h2 (h w0 h0)
def postV (u:Value) (w0:World) (v:Value) (w:World):Prop:=v=u/\Mod [] w0 w
def postX (I:World->Prop) (J:World->World->Prop) (r:Value) (T:Fc) (w0:World) (v:Value) (w:World):Prop:=v=r/\I w/\J w0 w/\T w
def postA (f:Nat->Value) (T:Nat->Fc) (w0:World) (v:Value) (w:World):Prop:=∃ b,v=f b/\Mod [] w0 w/\T b w
def step (P:Program) (ops:Array Oper) (I:World->Prop) (J:World->World->Prop) (p:Nat×Tok) (K:Act->Fc->Fc->Prop) (a:Act) (F G:Fc):Prop :=
 match ops[p.1]? with
 | none=>False
 | some o=>match p.2 with
  | .v=>if Region.wanted o (yielded ops a.tmps)=true then ∃ u,Run P o a (fun w=>I w/\G w) (postV u)/\K (a.put o.dst u) F G else K (a.put o.dst undef) F G
  | .x T=>Region.wanted o (yielded ops a.tmps)=true/\∃ r,Run P o a (fun w=>I w/\F w) (postX I J r T)/\K (a.put o.dst r) T G
  | .al f T=>Region.wanted o (yielded ops a.tmps)=true/\Run P o a I (postA f T)/\∀ b,K (a.put o.dst (f b)) F (fun w=>G w/\T b w)
def game (P:Program) (ops:Array Oper) (I:World->Prop) (J:World->World->Prop) (E:Act->Fc->Fc->Prop):List (Nat×Tok)->Act->Fc->Fc->Prop
 | []=>E
 | p::l=>step P ops I J p (game P ops I J E l)
def Mono (K:Act->Fc->Fc->Prop):Prop:=∀ a F G G',(∀ w,G' w->G w)->K a F G->K a F G'
theorem step_same {p:Nat×Tok} {K K':Act->Fc->Fc->Prop} (h:∀ a F G,K a F G->K' a F G) {a:Act} {F G:Fc} (hh:step P ops I J p K a F G):step P ops I J p K' a F G:=by
 unfold step at *
 split at hh
 ·exact hh
 ·rename_i o ho
  split at hh
  ·split at hh
   ·rename_i hw;rw [if_pos hw];obtain ⟨u,h1,h2⟩:=hh;exact ⟨u,h1,h _ _ _ h2⟩
   ·rename_i hw;rw [if_neg hw];exact h _ _ _ hh
  ·obtain ⟨h1,r,h2,h3⟩:=hh;exact ⟨h1,r,h2,h _ _ _ h3⟩
  ·exact ⟨hh.1,hh.2.1,fun b=>h _ _ _ (hh.2.2 b)⟩
theorem step_mono {p:Nat×Tok} {K:Act->Fc->Fc->Prop} (hK:Mono K):Mono (step P ops I J p K):=by
 intro a F G G' hG hh;unfold step at *
 split at hh
 ·exact hh
 ·rename_i o ho
  split at hh
  ·split at hh
   ·rename_i hw;rw [if_pos hw];obtain ⟨u,h1,h2⟩:=hh;exact ⟨u,h1.weak fun w h=>⟨h.1,hG w h.2⟩,hK _ _ _ _ hG h2⟩
   ·rename_i hw;rw [if_neg hw];exact hK _ _ _ _ hG hh
  ·obtain ⟨h1,r,h2,h3⟩:=hh;exact ⟨h1,r,h2,hK _ _ _ _ hG h3⟩
  ·exact ⟨hh.1,hh.2.1,fun b=>hK _ _ _ _ (fun w h=>⟨hG w h.1,h.2⟩) (hh.2.2 b)⟩
theorem game_mono {E:Act->Fc->Fc->Prop} (hE:Mono E):∀ l,Mono (game P ops I J E l)
 | []=>hE
 | p::l=>step_mono (game_mono hE l)
theorem step_swap {h p:Nat×Tok} {K:Act->Fc->Fc->Prop} (hK:Mono K) (hsel:∀ (j:Nat) (o:Oper) cs b,ops[j]?=some o->o.op≠.select cs b) {oh op:Oper} (hh:ops[h.1]?=some oh) (hp:ops[p.1]?=some op)
  (hap:oh.apart ops op=true) (hxx:∀ T T',h.2=.x T->p.2≠.x T') (hal:∀ f T,h.2=.al f T->∃ f' T',p.2=.al f' T')
  {a:Act} {F G:Fc} (H:step P ops I J h (step P ops I J p K) a F G):step P ops I J p (step P ops I J h K) a F G:=by
 obtain ⟨h1,h2,h3⟩:=Oper.apart_spec hap;have h2':∀ d,op.dst=some d->oh.dst≠some d:=fun d hd hi'=>h2 d hi' hd
 have sh:=fun cs b=>hsel h.1 oh cs b hh
 have sp:=fun cs b=>hsel p.1 op cs b hp
 have wp:∀ a v,Region.wanted op (yielded ops (Act.put a oh.dst v).tmps)=Region.wanted op (yielded ops a.tmps):=fun a v=>wanted_put op a oh.dst v h1
 have wh:∀ a v,Region.wanted oh (yielded ops (Act.put a op.dst v).tmps)=Region.wanted oh (yielded ops a.tmps):=fun a v=>wanted_put oh a op.dst v h3
 have cm:∀ a v u,(Act.put a oh.dst v).put op.dst u=(Act.put a op.dst u).put oh.dst v:=fun a v u=>Act.put_comm a v u h2
 unfold step at H ⊢;simp only [hh,hp] at H ⊢;rcases hk:h.2 with _ | T | ⟨f,T⟩
 ·simp only [hk] at H;rcases hq:p.2 with _ | T' | ⟨f',T'⟩
  ·simp only [hq] at H ⊢
   by_cases w1:Region.wanted oh (yielded ops a.tmps)=true
   ·rw [if_pos w1] at H;obtain ⟨u,r1,r2⟩:=H;rw [wp] at r2
    by_cases w2:Region.wanted op (yielded ops a.tmps)=true
    ·rw [if_pos w2] at r2 ⊢;obtain ⟨u',r3,r4⟩:=r2;refine ⟨u',r3.put sp h1 h2,?_⟩;rw [wh,if_pos w1];exact ⟨u,r1.put' sh h3 h2',by rw [<- cm];exact r4⟩
    ·rw [if_neg w2] at r2 ⊢;rw [wh,if_pos w1];exact ⟨u,r1.put' sh h3 h2',by rw [<- cm];exact r2⟩
   ·rw [if_neg w1] at H;rw [wp] at H
    by_cases w2:Region.wanted op (yielded ops a.tmps)=true
    ·rw [if_pos w2] at H ⊢;obtain ⟨u',r3,r4⟩:=H;refine ⟨u',r3.put sp h1 h2,?_⟩;rw [wh,if_neg w1,<- cm];exact r4
    ·rw [if_neg w2] at H ⊢;rw [wh,if_neg w1,<- cm];exact H
  ·simp only [hq] at H ⊢
   by_cases w1:Region.wanted oh (yielded ops a.tmps)=true
   ·rw [if_pos w1] at H;obtain ⟨u,r1,r2,r,r3,r4⟩:=H;rw [wp] at r2;refine ⟨r2,r,r3.put sp h1 h2,?_⟩;rw [wh,if_pos w1];exact ⟨u,r1.put' sh h3 h2',by rw [<- cm];exact r4⟩
   ·rw [if_neg w1] at H;obtain ⟨r2,r,r3,r4⟩:=H;rw [wp] at r2;refine ⟨r2,r,r3.put sp h1 h2,?_⟩;rw [wh,if_neg w1,<- cm];exact r4
  ·simp only [hq] at H ⊢
   by_cases w1:Region.wanted oh (yielded ops a.tmps)=true
   ·rw [if_pos w1] at H;obtain ⟨u,r1,r2,r3,r4⟩:=H;rw [wp] at r2;refine ⟨r2,r3.put sp h1 h2,fun b=>?_⟩;rw [wh,if_pos w1];exact ⟨u,(r1.put' sh h3 h2').weak fun w h=>⟨h.1,h.2.1⟩,by rw [<- cm];exact r4 b⟩
   ·rw [if_neg w1] at H;obtain ⟨r2,r3,r4⟩:=H;rw [wp] at r2;refine ⟨r2,r3.put sp h1 h2,fun b=>?_⟩;rw [wh,if_neg w1,<- cm];exact r4 b
 ·simp only [hk] at H;obtain ⟨w1,r,r1,H⟩:=H;rcases hq:p.2 with _ | T' | ⟨f',T'⟩
  ·simp only [hq] at H ⊢;rw [wp] at H
   by_cases w2:Region.wanted op (yielded ops a.tmps)=true
   ·rw [if_pos w2] at H ⊢;obtain ⟨u',r3,r4⟩:=H;refine ⟨u',r3.put sp h1 h2,by rw [wh];exact w1,r,r1.put' sh h3 h2',by rw [<- cm];exact r4⟩
   ·rw [if_neg w2] at H ⊢;exact ⟨by rw [wh];exact w1,r,r1.put' sh h3 h2',by rw [<- cm];exact H⟩
  ·exact absurd hq (hxx T T' hk)
  ·simp only [hq] at H ⊢;obtain ⟨r2,r3,r4⟩:=H;rw [wp] at r2;exact ⟨r2,r3.put sp h1 h2,fun b=>⟨by rw [wh];exact w1,r,r1.put' sh h3 h2',by rw [<- cm];exact r4 b⟩⟩
 ·simp only [hk] at H;obtain ⟨w1,r1,H⟩:=H;obtain ⟨f',T',hq⟩:=hal f T hk;simp only [hq] at H ⊢;have H0:=H 0;refine ⟨by have:=H0.1;rw [wp] at this;exact this,H0.2.1.put sp h1 h2,fun b=>⟨by rw [wh];exact w1,r1.put' sh h3 h2',fun b'=>?_⟩⟩;rw [<- cm];exact hK _ _ _ _ (fun w hw=>⟨⟨hw.1.1,hw.2⟩,hw.1.2⟩) ((H b').2.2 b)
def waitsB (md:Region.Mode) (ops:Array Oper):Nat->Nat->Nat->Bool
 | 0,_,_=>false
 | f+1,i,j=>match ops[i]? with
  | none=>false
  | some o=>o.after.any fun e=>Region.binds md e && (e.on == j || waitsB md ops f e.on j)
theorem waits_listed {n:Nat} {listed:Array Bool} (inv:HeadInv md ops n listed) {j:Nat}:∀ (f i:Nat),(∀ o,ops[i]?=some o->∀ e∈o.after,Region.binds md e=true->listed.getD e.on false=true)->waitsB md ops f i j=true->listed.getD j false=true
 | f+1,i,h,hw=>by
  unfold waitsB at hw;cases ho:ops[i]? with
  | none=>simp only [ho] at hw;cases hw
  | some o =>
   simp only [ho,Array.any_eq_true,Bool.and_eq_true,Bool.or_eq_true,beq_iff_eq] at hw;obtain ⟨q,hq,hb,hj⟩:=hw;have he:o.after[q]∈o.after:=Array.getElem_mem hq;generalize o.after[q]=e at *
   have hl:=h o ho e he hb;rcases hj with rfl | hj
   ·exact hl
   ·exact waits_listed inv f e.on (fun o' ho' e' he' hb'=>inv.closed e.on o' ho' hl e' he' hb') hj
def kind:Tok->Nat | .v=>0 | .x _=>1 | .al _ _=>2
def pairB (md:Region.Mode) (ops:Array Oper) (h p:Nat×Nat):Bool :=
 waitsB md ops ops.size p.1 h.1 || ((match ops[h.1]?,ops[p.1]? with | some oh,some op=>oh.apart ops op | _,_=>false) && !(h.2 == 1 && p.2 == 1) && (h.2 != 2 || p.2 == 2))
def pairsB (md:Region.Mode) (ops:Array Oper):List (Nat×Nat)->Bool
 | []=>true
 | h::l=>l.all (fun p=>pairB md ops h p) && pairsB md ops l
def rem (i:Nat) (l:List (Nat×Tok)):List (Nat×Tok):=l.filter fun p=>p.1 != i
theorem rem_head {h:Nat×Tok} {l:List (Nat×Tok)} (hn:h.1 ∉ l.map (·.1)):rem h.1 (h::l)=l:=by
 unfold rem;rw [List.filter_cons_of_neg (by simp)];exact List.filter_eq_self.2 fun p hp=>by
  have:p.1≠h.1:=fun he=>hn (by rw [<- he];exact mM hp)
  simpa using this
theorem rem_tail {h:Nat×Tok} {l:List (Nat×Tok)} {i:Nat} (hn:h.1≠i):rem i (h::l)=h::rem i l:=by
 unfold rem;rw [List.filter_cons_of_pos (by simpa using hn)]
theorem game_pick {E:Act->Fc->Fc->Prop} (hE:Mono E) (hsel:Region.noSelect ops=true) {p:Nat×Tok}:∀ (l:List (Nat×Tok)) (a:Act) (F G:Fc),pairsB md ops (l.map fun q=>(q.1,kind q.2))=true->(l.map (·.1)).Nodup->p∈l ->
  (∀ q∈l,waitsB md ops ops.size p.1 q.1=false)->game P ops I J E l a F G->step P ops I J p (game P ops I J E (rem p.1 l)) a F G
 | h::l,a,F,G,hB,hn,hp,hw,H=>by
  simp only [List.map_cons,List.nodup_cons] at hn
  by_cases he:h.1=p.1
  ·obtain rfl:p=h:=by
    rcases List.mem_cons.1 hp with h1 | h1
    ·exact h1
    ·exact absurd (he ▸ mM h1) hn.1
   rw [rem_head hn.1];exact H
  ·have hp':p∈l:=by
    rcases List.mem_cons.1 hp with h1 | h1
    ·exact absurd (by rw [h1]) he
    ·exact h1
   simp only [List.map_cons,pairsB,Bool.and_eq_true,List.all_eq_true] at hB;have hpair:=hB.1 (p.1,kind p.2) (List.mem_map.2 ⟨p,hp',rfl⟩);unfold pairB at hpair;simp only [hw h (by simp),Bool.false_or,Bool.and_eq_true] at hpair;obtain ⟨⟨hap,hxx⟩,hal⟩:=hpair;rw [rem_tail he];cases hoh:ops[h.1]? with
   | none=>simp only [hoh] at hap;cases hap
   | some oh =>
    cases hop:ops[p.1]? with
    | none=>simp only [hoh,hop] at hap;cases hap
    | some op =>
     simp only [hoh,hop] at hap;refine step_swap (game_mono hE _) (Region.noSelect_spec hsel) hoh hop hap ?_ ?_ (step_same (fun a F G h=>game_pick hE hsel l a F G hB.2 hn.2 hp' (fun q hq=>hw q (List.mem_cons_of_mem _ hq)) h) H)
     ·intro T T' h1 h2;rw [h1,h2] at hxx;simp [kind] at hxx
     ·intro f T h1;rw [h1] at hal;rcases hq:p.2 with _ | T' | ⟨f',T'⟩
      ·rw [hq] at hal;simp [kind] at hal
      ·rw [hq] at hal;simp [kind] at hal
      ·exact ⟨f',T',rfl⟩
def JStays (J:World->World->Prop) (T:Fc):Prop:=∀ w w',T w->J w w'->T w'
def Good (J:World->World->Prop):Tok->Prop
 | .v=>True
 | .x T=>Stays T
 | .al _ T=>∀ b,JStays J (T b)
theorem rem_length {i:Nat}:∀ {l:List (Nat×Tok)},(l.map (·.1)).Nodup->i∈l.map (·.1)->(rem i l).length+1=l.length
 | h::l,hn,hi=>by
  simp only [List.map_cons,List.nodup_cons] at hn
  by_cases he:h.1=i
  ·subst he;rw [rem_head hn.1];rfl
  ·rw [rem_tail he,List.length_cons,List.length_cons]
   have:=rem_length hn.2 (by
    rcases List.mem_cons.1 (by simpa using hi:i∈h.1::l.map (·.1)) with h1 | h1
    ·exact absurd h1.symm he
    ·exact h1)
   omega
theorem rem_sub {i:Nat} {l:List (Nat×Tok)}:(rem i l).Sublist l:=List.filter_sublist
theorem pairsB_sub {l l':List (Nat×Nat)} (h:l'.Sublist l):pairsB md ops l=true->pairsB md ops l'=true:=by
 induction h with
 | slnil=>exact id
 | cons a _ ih=>intro hb;simp only [pairsB,Bool.and_eq_true] at hb;exact ih hb.2
 | cons_cons a hs ih =>
  intro hb;simp only [pairsB,Bool.and_eq_true,List.all_eq_true] at hb ⊢;exact ⟨fun p hp=>hb.1 p (hs.subset hp),ih hb.2⟩
theorem mem_rem {i:Nat} {l:List (Nat×Tok)} {j:Nat}:j∈(rem i l).map (·.1)↔j∈l.map (·.1)/\j≠i:=by
 unfold rem;simp only [List.mem_map,List.mem_filter,bne_iff_ne,ne_eq];constructor
 ·rintro ⟨p,⟨h1,h2⟩,rfl⟩;exact ⟨⟨p,h1,rfl⟩,h2⟩
 ·rintro ⟨⟨p,h1,rfl⟩,h2⟩;exact ⟨p,⟨h1,h2⟩,rfl⟩
theorem wpAny_game (hI:∀ w w',I w->Mod [] w w'->I w') (hJ:∀ w w',Mod [] w w'->J w w') {Q:Exit->Act->World->Prop} {rest:List Oper} {n:Nat} (hsel:Region.noSelect ops=true) (ht:Region.tailB md ops n=true) (hd:Region.downB md ops=true) (hn:n<=ops.size)
  (hseq:Region.seqB md ops rest.length n (Region.canon ops n)=true) (hrest:∀ j,rest[j]?=ops[n+j]?) :
  ∀ (m:Nat) (l:List (Nat×Tok)) (listed:Array Bool) (a:Act) (F G:Fc) (w:World),l.length=m->HeadInv md ops n listed->pairsB md ops (l.map fun q=>(q.1,kind q.2))=true->(l.map (·.1)).Nodup->(∀ i,i<n->(listed.getD i true=false↔i∈l.map (·.1)))->(∀ p∈l,p.1<n)->(∀ p∈l,Good J p.2) ->
   Stays F->JStays J G->I w->F w->G w->game P ops I J (fun a F G=>∀ w',I w'->F w'->G w'->wpList P ops Q rest a w') l a F G->wpAny P md ops Q (m+rest.length) listed a w:=by
 intro m
 induction m with
 | zero =>
  intro l listed a F G w hlen inv _ _ hun _ _ _ _ hw hF hG H;obtain rfl:=List.length_eq_zero_iff.1 hlen;rw [Nat.zero_add];have hc:listed=Region.canon ops n:=by
   refine Array.ext (by simp [Region.canon,inv.size]) fun i hi hi'=>?_
   simp only [Region.canon,List.getElem_toArray,List.getElem_map,List.getElem_range]
   by_cases hin:i<n
   ·have:=(hun i hin).1;simp [hi] at this;simp [this,hin]
   ·have h2:=inv.tail i (by omega) (by rw [<- inv.size];exact hi);simp [hi] at h2;simp [h2,hin]
  exact wpAny_of_seq rest n listed a w hrest (by rw [hc];exact hseq) (H w hw hF hG)
 | succ m ih =>
  intro l listed a F G w hlen inv hB hnd hun hlt hgood hsF hsG hw hF hG H;rw [show m+1+rest.length=(m+rest.length)+1 by omega];obtain ⟨p0,hp0⟩:∃ p,p∈l:=by
   cases l with
   | nil=>simp at hlen
   | cons p _=>exact ⟨p,by simp⟩
  have hu0:listed.getD p0.1 true=false:=(hun p0.1 (hlt p0 hp0)).2 (mM hp0);refine ⟨fun h0=>absurd h0 (ready_some hd p0.1 (by have:=hlt p0 hp0;omega) hu0),fun i hi=>?_⟩;have hin:=ready_lt ht inv (hlt p0 hp0) hu0 hi;obtain ⟨hiu,oi,hoi,hall⟩:=mem_ready.1 hi;obtain ⟨p,hp,rfl⟩:=List.mem_map.1 ((hun i hin).1 hiu);have hnw:∀ q∈l,waitsB md ops ops.size p.1 q.1=false:=fun q hq=>by
   by_cases hb:waitsB md ops ops.size p.1 q.1=true
   ·have h1:=waits_listed inv ops.size p.1 (fun o ho e he hb=>by rw [hoi] at ho;cases ho;exact hall e he hb) hb;have h2:=getD_both ((hun q.1 (hlt q hq)).2 (mM hq));rw [h2] at h1;cases h1
   ·simpa using hb
  have hE:Mono (fun (a:Act) (F G:Fc)=>∀ w',I w'->F w'->G w'->wpList P ops Q rest a w'):=fun a F G G' hG' h w' h1 h2 h3=>h w' h1 h2 (hG' w' h3)
  have hpk:=game_pick hE hsel l a F G hB hnd hp hnw H;have next:∀ a' F' G' w',Stays F'->JStays J G'->I w'->F' w'->G' w'->game P ops I J (fun a F G=>∀ w',I w'->F w'->G w'->wpList P ops Q rest a w') (rem p.1 l) a' F' G'->wpAny P md ops Q (m+rest.length) (listed.setIfInBounds p.1 true) a' w':=by
   intro a' F' G' w' s1 s2 i1 i2 i3 hg;refine ih (rem p.1 l) _ a' F' G' w' ?_ (inv.set hi hin) (pairsB_sub (rem_sub.map _) hB) (List.Nodup.sublist (rem_sub.map _) hnd) ?_ (fun q hq=>hlt q (rem_sub.subset hq)) (fun q hq=>hgood q (rem_sub.subset hq)) s1 s2 i1 i2 i3 hg
   ·have:=rem_length hnd (mM hp);omega
   ·intro j hj;rw [mem_rem]
    by_cases hij:p.1=j
    ·subst hij;constructor
     ·intro h2;simp [show p.1<listed.size by rw [inv.size];omega] at h2
     ·intro h2;exact absurd rfl h2.2
    ·rw [getD_set_ne true hij,hun j hj];exact ⟨fun h=>⟨h,fun he=>hij he.symm⟩,fun h=>h.1⟩
  unfold step at hpk;unfold wpOp;simp only [hoi] at hpk ⊢;have hgp:=hgood p hp;rcases hk:p.2 with _ | T | ⟨f,T⟩
  ·simp only [hk] at hpk
   by_cases w1:Region.wanted oi (yielded ops a.tmps)=true
   ·rw [if_pos w1] at hpk ⊢;obtain ⟨u,r1,r2⟩:=hpk;left;exact Rg.wp_of_lateF (F:=fun x=>x=w) trivial rfl (r1 w ⟨hw,hG⟩) fun v w' _ h=>by
     obtain ⟨rfl,hm⟩:=h;exact next _ _ _ w' hsF hsG (hI _ _ hw hm) (hsF _ _ hF hm) (hsG _ _ hG (hJ _ _ hm)) r2
   ·rw [if_neg w1] at hpk ⊢;exact next _ _ _ w hsF hsG hw hF hG hpk
  ·simp only [hk] at hpk;obtain ⟨w1,r,r1,r2⟩:=hpk;rw [if_pos w1];left;exact Rg.wp_of_lateF (F:=fun x=>x=w) trivial rfl (r1 w ⟨hw,hF⟩) fun v w' _ h=>by
    obtain ⟨rfl,h1,h2,h3⟩:=h;exact next _ _ _ w' (by rw [hk] at hgp;exact hgp) hsG h1 h3 (hsG _ _ hG h2) r2
  ·simp only [hk] at hpk;obtain ⟨w1,r1,r2⟩:=hpk;rw [if_pos w1];left;exact Rg.wp_of_lateF (F:=fun x=>x=w) trivial rfl (r1 w hw) fun v w' _ h=>by
    obtain ⟨b,rfl,hm,h3⟩:=h;rw [hk] at hgp;exact next _ _ _ w' hsF (fun x y hx hy=>⟨hsG _ _ hx.1 hy,hgp b _ _ hx.2 hy⟩) (hI _ _ hw hm) (hsF _ _ hF hm) ⟨hsG _ _ hG (hJ _ _ hm),h3⟩ (r2 b)
def gameB (md:Region.Mode) (ops:Array Oper) (n:Nat) (l:List (Nat×Nat)):Bool :=
 Region.noSelect ops && decide (n<=ops.size) && decide (l.length=n) && l.all (fun p=>decide (p.1<n)) && Region.tailB md ops n && Region.downB md ops && Region.seqB md ops (ops.size - n) n (Region.canon ops n) && pairsB md ops l && Sw.ndB (l.map (·.1)) && (List.range n).all (fun i=>(l.map (·.1)).contains i)
structure WGame (P:Program) (ops:Array Oper) (I:World->Prop) (J:World->World->Prop) (E:Act->Fc->Fc->Prop) (l:List (Nat×Tok)) (a:Act) (F G:Fc):Prop where
 out:game P ops I J E l a F G
theorem wp_region_sa (hI:∀ w w',I w->Mod [] w w'->I w') (hJ:∀ w w',Mod [] w w'->J w w') {id:Nat} {Q:Exit->Act->World->Prop} {a:Act} {w:World} {l:List Oper} (n:Nat) (toks:List (Nat×Tok)) (ks:List (Nat×Nat)) (hks:toks.map (fun q=>(q.1,kind q.2))=ks)
  (hm:P.follows .mixedOrders=true) (hB:gameB .any l.toArray n ks=true) (hgood:∀ p∈toks,Good J p.2) (hw:I w.drew) {F0:Fc} (hF0:Stays F0) (hw0:F0 w.drew)
  (h:WGame P l.toArray I J (fun a' F G=>∀ w',I w'->F w'->G w'->wpList P l.toArray Q (l.drop n) a' w') toks a F0 (fun _=>True)) :
  (Code.region id l.toArray true).wp P Q a w:=by
 subst hks;simp only [gameB,Bool.and_eq_true,decide_eq_true_eq,List.length_map] at hB;obtain ⟨⟨⟨⟨⟨⟨⟨⟨⟨hsel,hn⟩,hlen⟩,hlt⟩,ht⟩,hd⟩,hseq⟩,hpairs⟩,hnd⟩,hall⟩:=hB;have hmap:(toks.map fun q=>(q.1,kind q.2)).map (·.1)=toks.map (·.1):=by rw [List.map_map];rfl
 rw [hmap] at hnd hall;have inv0:HeadInv .any l.toArray n (Array.replicate l.toArray.size false) :=
  ⟨by simp,fun j oj _ hl=>(by rw [getD_replicate_false] at hl;cases hl),fun t _ ht=>getD_in (by simpa using ht) (getD_replicate_false _ _)⟩
 have hdl:(l.drop n).length=l.toArray.size - n:=by simp
 refine wp_region_any hm ?_;have H:=wpAny_game (P:=P) hI hJ (Q:=Q) (rest:=l.drop n) hsel ht hd hn (by rw [hdl];exact hseq) (fun j=>by simp [List.getElem?_drop]) toks.length toks _ a F0 (fun _=>True) w.drew rfl inv0 hpairs (Sw.nodup_of hnd)
  (fun i hi=>by
   have:=List.all_eq_true.1 hall i (List.mem_range.2 hi);constructor
   ·intro _;simpa using this
   ·intro _;exact getD_in (by simp at hn ⊢;omega) (getD_replicate_false _ _))
  (fun p hp=>by
   have:=List.all_eq_true.1 hlt (p.1,kind p.2) (List.mem_map.2 ⟨p,hp,rfl⟩)
   simpa using this) hgood hF0 (fun _ _ _ _=>trivial) hw hw0 trivial h.out
 have hl2:toks.length+(l.drop n).length=l.toArray.size:=by rw [hdl];simp only [List.size_toArray] at hn ⊢;omega
 rwa [hl2] at H
def slotOf (a:Act):Option Tmp->Value
 | some t=>a.tmps.getD t undef
 | none=>undef
theorem v_go {E:Act->Fc->Fc->Prop} {l:List (Nat×Tok)} {a a':Act} {F G:Fc} {i:Nat} {o:Oper} (ho:ops[i]?=some o) (hg:Region.wanted o (yielded ops a.tmps)=true)
  (h:∀ w,I w->G w->∀ (K:Act->World->Prop) (Q:Exit->Act->World->Prop),(∀ w',Mod [] w w'->K a' w')->o.wp P a w K Q) (hp:a.put o.dst (slotOf a' o.dst)=a') (hr:WGame P ops I J E l a' F G):WGame P ops I J E ((i,.v)::l) a F G:=by
 refine ⟨?_⟩;unfold game step;simp only [ho];rw [if_pos hg];refine ⟨slotOf a' o.dst,fun w1 h1 w _ e=>?_,by rw [hp];exact hr.out⟩;subst e;exact h w h1.1 h1.2 _ _ fun w' m=>⟨_,hp.symm,trivial,rfl,m⟩
theorem x_go {E:Act->Fc->Fc->Prop} {l:List (Nat×Tok)} {a a':Act} {F G T:Fc} {i:Nat} {o:Oper} (ho:ops[i]?=some o) (hg:Region.wanted o (yielded ops a.tmps)=true)
  (h:∀ w,I w->F w->∀ (K:Act->World->Prop) (Q:Exit->Act->World->Prop),(∀ w',I w'->J w w'->T w'->K a' w')->o.wp P a w K Q) (hp:a.put o.dst (slotOf a' o.dst)=a') (hr:WGame P ops I J E l a' T G):WGame P ops I J E ((i,.x T)::l) a F G:=by
 refine ⟨?_⟩;unfold game step;simp only [ho];refine ⟨hg,slotOf a' o.dst,fun w1 h1 w _ e=>?_,by rw [hp];exact hr.out⟩;subst e;exact h w h1.1 h1.2 _ _ fun w' a1 a2 a3=>⟨_,hp.symm,trivial,rfl,a1,a2,a3⟩
theorem a_go {E:Act->Fc->Fc->Prop} {l:List (Nat×Tok)} {a:Act} {F G:Fc} {g:Nat->Value} {T:Nat->Fc} {f:Value->Act} {i:Nat} {o:Oper} (ho:ops[i]?=some o) (hg:Region.wanted o (yielded ops a.tmps)=true) (hf:∀ v,f v=a.put o.dst v)
  (h:∀ w,I w->∀ (K:Act->World->Prop) (Q:Exit->Act->World->Prop),(∀ b w',Mod [] w w'->T b w'->K (f (g b)) w')->o.wp P a w K Q) (hr:∀ b,WGame P ops I J E l (f (g b)) F (fun w=>G w/\T b w)):WGame P ops I J E ((i,.al g T)::l) a F G:=by
 refine ⟨?_⟩;unfold game step;simp only [ho];refine ⟨hg,fun w1 h1 w _ e=>?_,fun b=>by rw [<- hf];exact (hr b).out⟩;subst e;exact h w h1 _ _ fun b w' m t=>⟨g b,hf _,trivial,b,rfl,m,t⟩
theorem nil_go {E:Act->Fc->Fc->Prop} {a:Act} {F G:Fc} (h:E a F G):WGame P ops I J E [] a F G:=⟨h⟩
end
end Sa
namespace Sq
section
def ndB:List Nat->Bool
 | []=>true
 | x::l=>!l.contains x && ndB l
theorem nodup_of:∀ {l:List Nat},ndB l=true->l.Nodup
 | [],_=>List.nodup_nil
 | x::l,h=>by
  simp only [ndB,Bool.and_eq_true,Bool.not_eq_true'] at h;exact List.nodup_cons.2 ⟨by simpa using h.1,nodup_of h.2⟩
end
end Sq
section
variable {P:Program} {ops:Array Oper} {W:World}
theorem sv {K:Act->Prop} {l:List Oper} {a a':Act} {o:Oper} (hr:WSteady P ops W K l a') (hg:Region.wanted o (yielded ops a.tmps)=true:=by kernel_rfl)
  (h:∀ w,Mod [] W w->∀ (K:Act->World->Prop) (Q:Exit->Act->World->Prop),(∀ w',Mod [] w w'->K a' w')->o.wp P a w K Q:=by (intro w' hw' K Q hK;go_wp2_with fail;first | exact hK _ mR | exact mR)) (hd:a'.defers=a.defers:=by rfl):WSteady P ops W K (o::l) a:=steady_go hg hd h hr
theorem sc {K:Act->Prop} {l:List Oper} {a a':Act} {o:Oper} (h:∀ w,Mod [] W w->∀ (K:Act->World->Prop) (Q:Exit->Act->World->Prop),(∀ w',Mod [] w w'->K a' w')->o.wp P a w K Q) (hd:a'.defers=a.defers) (hr:WSteady P ops W K l a')
  (hg:Region.wanted o (yielded ops a.tmps)=true:=by kernel_rfl):WSteady P ops W K (o::l) a:=steady_go hg hd h hr
namespace Sw
theorem vv {I:World->Prop} {w0:World} (hw0:I w0) {E:Act->(World->Prop)->Prop} {l:List (Nat×Option Fact)} {a a':Act} {F:World->Prop} {i:Nat} {o:Oper} (hr:WToks P ops I E l a' F) (ho:ops[i]?=some o:=by rfl) (hg:Region.wanted o (yielded ops a.tmps)=true:=by kernel_rfl)
  (h:∀ w,I w->∀ (K:Act->World->Prop) (Q:Exit->Act->World->Prop),(∀ w',Mod [] w w'->K a' w')->o.wp P a w K Q:=by (intro w' hw' K Q hK;go_wp2_with fail;first | exact hK _ mR | exact mR)) (hd:a'.defers=a.defers:=by rfl):WToks P ops I E ((i,none)::l) a F:=v_go hw0 ho hg hd h hr
theorem xx {I:World->Prop} {E:Act->(World->Prop)->Prop} {l:List (Nat×Option Fact)} {a:Act} {F:World->Prop} {T:Fact} {f:Value->Act} {i:Nat} {o:Oper}
  (h:∀ w,I w->F w->∀ (K:Act->World->Prop) (Q:Exit->Act->World->Prop),(∀ v w',I w'->T v w'->K (f v) w')->o.wp P a w K Q)
  (hk:∀ v,(∃ w,I w/\T v w)->WToks P ops I E l (f v) (fun w=>T v w)) (ho:ops[i]?=some o:=by rfl) (hg:Region.wanted o (yielded ops a.tmps)=true:=by kernel_rfl)
  (hf:∀ v,f v=a.put o.dst v:=by (intro v;simp only [Act.put];(try simp only [List.setIfInBounds_toArray]);(try simp only [List.set_cons_succ,List.set_cons_zero]);exact rfl)):WToks P ops I E ((i,some T)::l) a F:=x_go ho hg hf h hk
end Sw
namespace Sa
theorem vv {I:World->Prop} {J:World->World->Prop} {E:Act->Fc->Fc->Prop} {l:List (Nat×Tok)} {a a':Act} {F G:Fc} {i:Nat} {o:Oper} (hr:WGame P ops I J E l a' F G) (ho:ops[i]?=some o:=by rfl) (hg:Region.wanted o (yielded ops a.tmps)=true:=by kernel_rfl)
  (h:∀ w,I w->G w->∀ (K:Act->World->Prop) (Q:Exit->Act->World->Prop),(∀ w',Mod [] w w'->K a' w')->o.wp P a w K Q:=by (intro w' hw' hG K Q hK;go_wp2_with fail;first | exact hK _ mR | exact mR)) (hp:a.put o.dst (slotOf a' o.dst)=a':=by kernel_rfl):WGame P ops I J E ((i,.v)::l) a F G:=v_go ho hg h hp hr
end Sa
end
namespace Dm
section
variable {P:Program} {ops:Array Oper} {md:Region.Mode} {W:World} {D:List PanicEntry->World->Prop} {late:List Nat}
end
end Dm
end Go.Proofs.YthheaflbbficgaaGreat
namespace Go.Proofs.YthheaflbbficgaaGreat
open Go.RowKit Go.MapKept
open Go.ChangeMaps (setBlock)
section
variable {P:Program} {w:World} {b:Nat} {m:List (Int×Value)} {t kt et:TypeId}
end
open Go.RowKit
section
variable {F:List Nat} {w0 w w':World} {l:List (Nat×Array Value×TypeId)} {b:Nat} {cs:Array Value} {t:TypeId}
end
section
variable {ops:Array Oper} {md:Region.Mode}
end
section
variable {P:Program} {md:Region.Mode} {ops ops':Array Oper} {Q:Exit->Act->World->Prop} {t i:Nat} {ot oi:Oper}
def floatM (md:Region.Mode) (ops:Array Oper) (t i:Nat):Bool :=
 match ops[t]?,ops[i]? with
 | some ot,some oi=>decide (t≠i) && oi.guard.isNone && (match oi.op with | .move _=>true | _=>false) &&
  oi.after.all (fun e=>!Region.binds md e || ot.after.any fun e'=>Region.binds md e' && e'.on == e.on) &&
  (List.range ops.size).all fun j=>j == i || oi.after.any (fun e=>Region.binds md e && e.on == j) || match ops[j]? with
   | some oj=>oj.after.any (fun e=>Region.binds md e && e.on == i) || oi.apart ops oj
   | none=>true
 | _,_=>false
theorem move_yields {o:Oper} (hg:o.guard=none) {x:Operand} (ho:o.op=.move x) {j:Nat} (hj:ops[j]?=some o) {K:Act->World->Prop} {a:Act} {w:World} (hh:wpOp P ops Q j K a w) :
  ∃ v,Yields P ops o v a/\K (a.put o.dst v) w:=by
 unfold wpOp at hh;have hw:Region.wanted o (yielded ops a.tmps)=true:=by unfold Region.wanted;rw [hg]
 simp only [hj,hw,if_true] at hh;have hE:execOp a.eval o=pure (.value (a.eval x)):=by
  unfold execOp;simp only [ho]
 have h1:∀ w,(execOp a.eval o).run P w=.ok (.value (a.eval x)) w:=fun w=>by rw [hE];rfl
 have h2:(execOp a.eval o).runT P w #[]=(.ok (.value (a.eval x)) w,#[]):=by rw [hE];rfl
 refine ⟨a.eval x,.inl ⟨hw,h1⟩,?_⟩;rcases hh with hh | hh
 ·unfold Oper.wp at hh;rw [h1 w] at hh;exact hh
 ·unfold Oper.asks at hh;rw [h2] at hh;simp at hh
theorem wpAny_floatM (W:Waits ops ops' t i ot) (hB:floatM md ops t i=true) (hs:Region.noSelect ops=true) (hQ:∀ c a d v w,Q (.panic c) (a.put d v) w->Q (.panic c) a w) :
  ∀ (g:Nat) (listed:Array Bool) (a:Act) (w:World),listed.getD i true=false->wpAny P md ops' Q g listed a w->wpAny P md ops Q g listed a w:=by
 unfold floatM at hB;rw [W.old] at hB;cases ho:ops[i]? with
 | none=>rw [ho] at hB;cases hB
 | some oi =>
  rw [ho] at hB;simp only [Bool.and_eq_true,decide_eq_true_eq] at hB;obtain ⟨⟨⟨⟨hne,hg⟩,hx⟩,hdeps⟩,hfree⟩:=hB;have hg':oi.guard=none:=by simpa using hg
  obtain ⟨x,hop⟩:∃ x,oi.op=.move x:=by
   cases hop:oi.op <;> simp [hop] at hx
   exact ⟨_,rfl⟩
  have hT:∀ listed,listed.getD i true=false->t∈Region.ready md ops listed->i∈Region.ready md ops listed:=fun listed hun ht=>by
   rw [mem_ready] at *
   obtain ⟨_,o,ho',hall⟩:=ht;rw [W.old] at ho';obtain rfl:=Option.some.inj ho';refine ⟨hun,oi,ho,fun e he hb=>?_⟩;have h1:=Array.all_eq_true_iff_forall_mem.1 hdeps e he;rw [hb] at h1;simp only [Bool.not_true,Bool.false_or] at h1;obtain ⟨e',he',h2⟩:=Array.any_eq_true'.1 h1;simp only [Bool.and_eq_true,beq_iff_eq] at h2;rw [<- h2.2];exact hall e' he' h2.1
  have hF:∀ listed,i∈Region.ready md ops listed->∀ j oj,ops[j]?=some oj->j≠i->listed.getD j true=false->(∀ e∈oj.after,Region.binds md e=true->e.on≠i)->oi.apart ops oj=true:=fun listed hr j oj hj hji hun hno=>by
   have h1:=List.all_eq_true.1 hfree j (List.mem_range.2 (Array.getElem?_eq_some_iff.1 hj).1);simp only [hj,Bool.or_eq_true,beq_iff_eq,hji,false_or] at h1;rcases h1 with h1 | h1 | h1
   ·obtain ⟨e,he,h2⟩:=Array.any_eq_true'.1 h1;simp only [Bool.and_eq_true,beq_iff_eq] at h2;obtain ⟨_,o,ho',hall⟩:=mem_ready.1 hr;rw [ho] at ho';obtain rfl:=Option.some.inj ho';have h3:=hall e he h2.1;rw [h2.2,getD_both hun] at h3;cases h3
   ·obtain ⟨e,he,h2⟩:=Array.any_eq_true'.1 h1;simp only [Bool.and_eq_true,beq_iff_eq] at h2;exact absurd h2.2 (hno e he h2.1)
   ·exact h1
  intro g
  induction g with
  | zero =>
   intro listed a w hun hh;refine ⟨List.eq_nil_iff_forall_not_mem.2 fun j hj=>?_,hh.2⟩
   by_cases hjt:j=t
   ·subst hjt;have:=W.ready_ne (Ne.symm hne) (hT listed hun hj);rw [hh.1] at this;exact absurd this List.not_mem_nil
   ·have:=W.ready_ne hjt hj;rw [hh.1] at this;exact absurd this List.not_mem_nil
  | succ g ih =>
   intro listed a w hun hh
   by_cases hr:i∈Region.ready md ops listed
   ·obtain ⟨v,hy,hk⟩:=move_yields hg' hop ho (W.wpOp (hh.2 i (W.ready_ne (Ne.symm hne) hr)));refine wpAny_first ho (Region.noSelect_spec hs) (fun c a w=>hQ c a oi.dst v w) g listed a w (hF listed hr) hr hy ?_;refine W.behind g _ _ _ ?_ hk;have hlt:i<listed.size:=by
     rcases Nat.lt_or_ge i listed.size with h' | h'
     ·exact h'
     ·rw [Array.getD_eq_getD_getElem?,Array.getElem?_eq_none h'] at hun;cases hun
    simp [hlt]
   ·refine ⟨fun h0=>hh.1 (List.eq_nil_iff_forall_not_mem.2 fun j hj=>?_),fun j hj=>?_⟩
    ·have:=W.ready_of hj;rw [h0] at this;exact absurd this List.not_mem_nil
    ·have hji:j≠i:=fun he=>hr (he ▸ hj)
     have hjt:j≠t:=fun he=>hr (hT listed hun (he ▸ hj))
     refine wpOp_mono (fun a' w' h'=>ih _ a' w' ?_ h') (W.wpOp (hh.2 j (W.ready_ne hjt hj)));rw [getD_set_ne true hji];exact hun
end
section
variable {P:Program} {md:Region.Mode}
def movesB (md:Region.Mode):List (Nat×Nat)->List Oper->Bool
 | [],_=>true
 | p::ps,l=>floatM md l.toArray p.1 p.2 && Region.noSelect l.toArray && decide (p.1<l.length) && decide (p.2<l.length) && movesB md ps (waitFor p.1 p.2 l)
theorem wpAny_moves {Q:Exit->Act->World->Prop} (hQ:∀ c a d v w,Q (.panic c) (a.put d v) w->Q (.panic c) a w):∀ (ps:List (Nat×Nat)) (l:List Oper) (a:Act) (w:World),movesB md ps l=true ->
  wpAny P md (Ch.waitsFor ps l).toArray Q (Ch.waitsFor ps l).toArray.size (Array.replicate (Ch.waitsFor ps l).toArray.size false) a w->wpAny P md l.toArray Q l.toArray.size (Array.replicate l.toArray.size false) a w
 | [],l,a,w,_,h=>h
 | p::ps,l,a,w,hB,h=>by
  simp only [movesB,Bool.and_eq_true,decide_eq_true_eq] at hB;obtain ⟨⟨⟨⟨hf,hs⟩,ht⟩,hi⟩,hr⟩:=hB;have H:=wpAny_moves hQ ps (waitFor p.1 p.2 l) a w hr h;have e:(waitFor p.1 p.2 l).toArray.size=l.toArray.size:=by simp [wait_length]
  rw [e] at H;exact wpAny_floatM (wait_waits (gE ht)) hf hs hQ _ _ _ _ (getD_in (by simpa using hi) (getD_replicate_false _ _)) H
theorem wp_region_moves {id:Nat} {Q:Exit->Act->World->Prop} {a:Act} {w:World} {l:List Oper} (ps:List (Nat×Nat)) (l':List Oper) (hl:l'=Ch.waitsFor ps l) (n:Nat) (mask:List Bool) (late:List (Nat×(Value->World->Prop)))
  (hm:P.follows .mixedOrders=true)
  (hB:(Region.monoB .any l'.toArray n (idxM 0 mask) (late.map (·.1)) && decide (mask.length<=l'.length) && movesB .any ps l)=true) (hT:∀ p∈late,∀ v,Stays (p.2 v))
  (hQ:∀ c a d v w,Q (.panic c) (a.put d v) w->Q (.panic c) a w)
  (h:WSteady P l'.toArray w (fun a'=>wpLates P l'.toArray w (fun a'' F=>∀ w',Mod [] w w'->F w'->wpList P l'.toArray Q (l'.drop n) a'' w') late a' (fun _=>True)) (pickM l' mask) a) :
  (Code.region id l.toArray true).wp P Q a w:=by
 simp only [Bool.and_eq_true,decide_eq_true_eq] at hB;refine wp_region_any hm ?_;refine wpAny_moves hQ ps l _ _ hB.2 ?_;rw [<- hl];exact wpAny_mono (P:=P) (Q:=Q) n (idxM 0 mask) late hB.1.1 hT (steady_of_list mask 0 l' a (by simp) hB.1.2 h.out)
end
namespace Dg
abbrev Fct:=Value->World->Prop
section
variable {P:Program} {ops:Array Oper} {md:Region.Mode} {W:World} {L:Nat->Option Fct}
structure Like (ops:Array Oper) (c:List (Nat×Fct)) (a0 a:Act):Prop where
 size:a.tmps.size=a0.tmps.size
 defers:a.defers=a0.defers
 same:∀ t,(∀ p∈c,∀ o,ops[p.1]?=some o->o.dst≠some t)->a.tmps[t]?=a0.tmps[t]?
theorem Like.put {c:List (Nat×Fct)} {a0 a:Act} (h:Like ops c a0 a) {p:Nat×Fct} (hp:p∈c) {o:Oper} (ho:ops[p.1]?=some o) (v:Value):Like ops c a0 (a.put o.dst v):=by
 refine ⟨by rw [Ch.put_size];exact h.size,by cases hd:o.dst <;> exact h.defers,fun t ht=>?_⟩;have h1:=ht p hp o ho;rw [<- h.same t ht];cases hd:o.dst with
 | none=>rfl
 | some d =>
  have:d≠t:=fun he=>h1 (by rw [hd,he])
  simp [Act.put,Array.getElem?_setIfInBounds_ne this]
def Dep (ops:Array Oper) (c:List (Nat×Fct)) (a:Act) (o:Oper) (w:World):Prop :=
 ∀ e∈o.after,Region.binds .any e=true->∀ q∈c,q.1=e.on->∃ v,Ch.dval ops a q.1=some v/\q.2 v w
def StepOK (P:Program) (ops:Array Oper) (W:World) (c:List (Nat×Fct)) (a0:Act) (p:Nat×Fct):Prop :=
 ∀ o,ops[p.1]?=some o->o.guard=none/\∀ a,Like ops c a0 a->Ch.LateF P o a W (Dep ops c a o) p.2
def All (ops:Array Oper) (c:List (Nat×Fct)) (a:Act) (w:World):Prop:=∀ p∈c,∃ v,Ch.dval ops a p.1=some v/\p.2 v w
theorem wpAnyM_dag {n g size:Nat} {c:List (Nat×Fct)} {a0:Act} (ht:Region.tailB .any ops n=true) (hd:Region.downB .any ops=true) (hn:n<=ops.size) (hseq:Region.seqB .any ops g n (Region.canon ops n)=true)
  (hsl:Ch.slotsB ops (c.map (·.1)) size=true) (hnd:(c.map (·.1)).Nodup) (hL:∀ p∈c,L p.1=some p.2) (hlt:∀ p∈c,p.1<n) (hst:∀ p∈c,StepOK P ops W c a0 p) (hs0:a0.tmps.size=size) :
  ∀ (m:Nat) (listed:Array Bool) (a:Act) (F:World->Prop),((c.map (·.1)).filter fun i=>!listed.getD i true).length=m->HeadInv .any ops n listed->(∀ i,i<n->listed.getD i true=false->i∈c.map (·.1))->Like ops c a0 a ->
   (∀ p∈c,listed.getD p.1 true=true->∃ v,Ch.dval ops a p.1=some v/\∀ w,F w->p.2 v w) ->
   Ch.wpAnyM P .any ops W L n (fun listed' a' F'=>Region.seqB .any ops g n listed'=true/\Like ops c a0 a'/\∀ w,F' w->All ops c a' w) m listed a F:=by
 intro m
 induction m with
 | zero =>
  intro listed a F hlen inv hun hlk htold;have hall:∀ p∈c,listed.getD p.1 true=true:=fun p hp=>by
   have h1:=List.eq_nil_of_length_eq_zero hlen;cases hx:listed.getD p.1 true with
   | true=>rfl
   | false =>
    have:p.1∈(c.map (·.1)).filter fun i=>!listed.getD i true:=List.mem_filter.2 ⟨mM hp,by rw [hx];rfl⟩
    rw [h1] at this;cases this
  refine ⟨?_,hlk,fun w hF p hp=>?_⟩
  ·have:listed=Region.canon ops n:=by
    refine Array.ext (by simp [Region.canon,inv.size]) fun i hi hi'=>?_
    simp only [Region.canon,List.getElem_toArray,List.getElem_map,List.getElem_range]
    by_cases hin:i<n
    ·have h3:listed.getD i true=true:=by
      cases hx:listed.getD i true with
      | true=>rfl
      | false =>
       obtain ⟨p,hp,rfl⟩:=List.mem_map.1 (hun i hin hx);rw [hall p hp] at hx;cases hx
     simp [hi] at h3;simp [h3,hin]
    ·have h2:=inv.tail i (by omega) (by rw [<- inv.size];exact hi);simp [hi] at h2;simp [h2,hin]
   rw [this];exact hseq
  ·obtain ⟨v,h1,h2⟩:=htold p hp (hall p hp);exact ⟨v,h1,h2 w hF⟩
 | succ m ih =>
  intro listed a F hlen inv hun hlk htold;obtain ⟨i0,hi0⟩:=List.exists_mem_of_length_pos (l:=(c.map (·.1)).filter fun i=>!listed.getD i true) (by omega);obtain ⟨hi1,hi2⟩:=List.mem_filter.1 hi0;obtain ⟨p0,hp0,rfl⟩:=List.mem_map.1 hi1;have hu0:listed.getD p0.1 true=false:=by simpa using hi2
  refine ⟨ready_some hd p0.1 (by have:=hlt p0 hp0;omega) hu0,fun j hj=>?_⟩;have hjn:=ready_lt ht inv (hlt p0 hp0) hu0 hj;refine ⟨hjn,?_⟩;obtain ⟨hju,o,ho,hdeps⟩:=mem_ready.1 hj;obtain ⟨p,hp,rfl⟩:=List.mem_map.1 (hun j hjn hju);have hpc:p.1∈c.map (·.1):=mM hp;have hsz:p.1<listed.size:=by rw [inv.size];omega
  obtain ⟨hg,hstep⟩:=hst p hp o ho;unfold Ch.mOp;simp only [ho,hL p hp];refine ⟨hg,(hstep a hlk).weak fun w hF e he hb q hq hqe=>?_,fun v=>ih _ _ _ ?_ (inv.set hj hjn) (fun i hin hiu=>?_) (hlk.put hp ho v) (fun q hq hql=>?_)⟩
  ·have h1:=hdeps e he hb;have hb2:listed.getD q.1 true=true:=by
    rw [hqe];rcases Nat.lt_or_ge e.on listed.size with h | h
    ·simp [h] at h1 ⊢;exact h1
    ·simp [Array.getElem?_eq_none h] at h1
   obtain ⟨v,h2,h3⟩:=htold q hq hb2;exact ⟨v,h2,h3 w hF⟩
  ·have h1:((c.map (·.1)).filter fun i=>!(listed.setIfInBounds p.1 true).getD i true)=((c.map (·.1)).filter fun i=>!listed.getD i true).filter fun i=>i != p.1:=by
    rw [List.filter_filter];refine List.filter_congr fun i hi=>?_
    by_cases he:p.1=i
    ·subst he;simp [hsz]
    ·rw [getD_set_ne true he];have:(i != p.1)=true:=by simpa using Ne.symm he
     rw [this,Bool.true_and]
   rw [h1,<- List.Nodup.erase_eq_filter (hnd.filter _),List.length_erase_of_mem (List.mem_filter.2 ⟨hpc,by rw [hju];rfl⟩),hlen];rfl
  ·by_cases he:p.1=i
   ·exact he ▸ hpc
   ·rw [getD_set_ne true he] at hiu;exact hun i hin hiu
  ·have hsl':Ch.slotsB ops (c.map (·.1)) a.tmps.size=true:=by rw [hlk.size,hs0];exact hsl
   by_cases he:p.1=q.1
   ·have hpq:p.2=q.2:=by
     have h1:=hL p hp;have h2:=hL q hq;rw [he,h2] at h1;exact (Option.some.inj h1).symm
    rw [<- he,<- hpq];exact ⟨v,Ch.dval_self hsl' hpc ho v,fun w hw=>hw.2⟩
   ·rw [getD_set_ne true he] at hql;obtain ⟨u,h1,h2⟩:=htold q hq hql;refine ⟨u,?_,fun w hw=>h2 w hw.1⟩;rw [Ch.dval_put hsl' (mM hq) ho he];exact h1
structure DagOK (P:Program) (ops:Array Oper) (W:World) (c:List (Nat×Fct)) (E:Act->World->Prop) (a0:Act):Prop where
 steps:∀ p∈c,StepOK P ops W c a0 p
 fin:∀ a,Like ops c a0 a->∀ w,Mod [] W w->All ops c a w->E a w
 size:Ch.slotsB ops (c.map (·.1)) a0.tmps.size=true
def dagB (md:Region.Mode) (ops:Array Oper) (n:Nat) (ord c:List Nat):Bool :=
 Region.noSelect ops && decide (n<=ops.size) && decide (ord.length+c.length=n) && c.all (fun i=>decide (i<n)) && Region.tailB md ops n && Region.downB md ops && Region.seqB md ops (ops.size - n) n (Region.canon ops n) &&
  Region.ordB md ops n c ord (Array.replicate ops.size false) && decide c.Nodup
theorem wpAny_dag {Q:Exit->Act->World->Prop} {a:Act} {w:World} {l:List Oper} (n:Nat) (ord:List Nat) (c:List (Nat×Fct))
  (hB:dagB .any l.toArray n ord (c.map (·.1))=true) (hT:∀ p∈c,∀ v,Stays (p.2 v))
  (h:wpSteady P l.toArray w (DagOK P l.toArray w c fun a' w'=>wpList P l.toArray Q (l.drop n) a' w') ord a) :
  wpAny P .any l.toArray Q l.toArray.size (Array.replicate l.toArray.size false) a { w with drawn:=w.drawn+1 }:=by
 simp only [dagB,Bool.and_eq_true,decide_eq_true_eq] at hB;obtain ⟨⟨⟨⟨⟨⟨⟨⟨hsel,hn⟩,hlen⟩,hltc⟩,ht⟩,hd⟩,hseq⟩,hord⟩,hnd⟩:=hB
 let L:Nat->Option Fct:=fun i=>(c.find? fun p=>p.1 == i).map (·.2)
 have hLn:∀ i,(c.map (·.1)).contains i=false->L i=none:=fun i hi=>by
  simp only [L,Option.map_eq_none_iff,List.find?_eq_none];intro p hp he;have:(c.map (·.1)).contains i=true:=by simpa using ⟨p.2,by simpa [<- (beq_iff_eq.1 he)] using hp⟩
  rw [hi] at this;cases this
 have hLs:∀ p∈c,L p.1=some p.2:=fun p hp=>lookup_late c p hp hnd
 have hLT:∀ i T,L i=some T->∀ v,Stays (T v):=fun i T hi v=>by
  simp only [L,Option.map_eq_some_iff] at hi;obtain ⟨p,hp,rfl⟩:=hi;exact hT p (List.mem_of_find?_eq_some hp) v
 have hltc':∀ p∈c,p.1<n:=fun p hp=>by simpa using List.all_eq_true.1 hltc p.1 (mM hp)
 have inv0:HeadInv .any l.toArray n (Array.replicate l.toArray.size false) :=
  ⟨by simp,fun j oj _ hl=>(by rw [getD_replicate_false] at hl;cases hl),fun t _ ht=>getD_in (by simpa using ht) (getD_replicate_false _ _)⟩
 have hdl:(l.drop n).length=l.toArray.size - n:=by simp
 have H:=Ch.wpAnyM_ord (P:=P) (W:=w) (L:=L) (m:=c.length) (late:=c.map (·.1)) (F:=fun _=>True)
  (Fin:=fun listed a F=>Region.seqB .any l.toArray (l.toArray.size - n) n listed=true/\∀ w',Mod [] w w'->F w'->wpList P l.toArray Q (l.drop n) a w')
  hsel ht (fun listed a F hf=>seqB_ready hf.1) hLn (fun a listed inv hB hk=>by
   have hun:∀ i,i<n->(listed.getD i true=false↔i∈c.map (·.1)):=fun i hi=>by
    have:=List.all_eq_true.1 hB i (List.mem_range.2 hi);simp only [beq_iff_eq] at this;rw [Bool.eq_iff_iff] at this;simpa only [beq_iff_eq,List.contains_iff_mem] using this
   have h1:=wpAnyM_dag (P:=P) (W:=w) (L:=L) (g:=l.toArray.size - n) ht hd hn hseq hk.size hnd hLs hltc' hk.steps rfl c.length listed a (fun _=>True) (by
    rw [List.filter_eq_self.2 (fun i hi=>?_),List.length_map];obtain ⟨p,hp,rfl⟩:=List.mem_map.1 hi;have:=(hun p.1 (hltc' p hp)).2 hi
    rw [this];rfl) inv (fun i hi h=>(hun i hi).1 h) ⟨rfl,rfl,fun _ _=>rfl⟩ (fun p hp hl=>by
     have:=(hun p.1 (hltc' p hp)).2 (mM hp)
     rw [hl] at this;cases this)
   exact fin_mono (fun listed' a' F' hf=>⟨hf.1,fun w' hm hF=>hk.fin a' hf.2.1 w' hm (hf.2.2 w' hF)⟩) _ _ _ _ h1) ord _ a inv0 hord h
 have hfin:=Ch.wpAny_of_M (P:=P) (md:=.any) (ops:=l.toArray) (W:=w) (Q:=Q) (g:=l.toArray.size - n) hLT (fun listed a F w' hw hF hf=>by
  have:=wpAny_of_seq (md:=.any) (Q':=Q) (l.drop n) n listed a w' (fun j=>by simp [List.getElem?_drop]) (by rw [hdl];exact hf.1) (hf.2 w' hw hF)
  rwa [hdl] at this) _ _ _ _ { w with drawn:=w.drawn+1 } (fun _ _ _ _=>trivial) ((Mod.refl [] w).drew) trivial H
 have hl2:ord.length+c.length+(l.toArray.size - n)=l.toArray.size:=by simp only [List.length_map] at hlen;omega
 rwa [hl2] at hfin
where
 fin_mono {P:Program} {md:Region.Mode} {ops:Array Oper} {W:World} {L:Nat->Option Fct} {n:Nat} {Fin Fin':Array Bool->Act->(World->Prop)->Prop} (hF:∀ listed a F,Fin listed a F->Fin' listed a F) :
   ∀ (f:Nat) (listed:Array Bool) (a:Act) (F:World->Prop),Ch.wpAnyM P md ops W L n Fin f listed a F->Ch.wpAnyM P md ops W L n Fin' f listed a F
  | 0,_,_,_,h=>hF _ _ _ h
  | f+1,_,_,_,h=>⟨h.1,fun i hi=>⟨(h.2 i hi).1,Ch.mOp_same (fun a F h=>fin_mono hF f _ a F h) (h.2 i hi).2⟩⟩
theorem wp_region_dag {id:Nat} {Q:Exit->Act->World->Prop} {a:Act} {w:World} {l:List Oper} (n:Nat) (mask:List Bool) (c:List (Nat×Fct))
  (hm:P.follows .mixedOrders=true) (hB:(dagB .any l.toArray n (idxM 0 mask) (c.map (·.1)) && decide (mask.length<=l.length))=true) (hT:∀ p∈c,∀ v,Stays (p.2 v))
  (h:WSteady P l.toArray w (DagOK P l.toArray w c fun a' w'=>wpList P l.toArray Q (l.drop n) a' w') (pickM l mask) a) :
  (Code.region id l.toArray true).wp P Q a w:=by
 simp only [Bool.and_eq_true,decide_eq_true_eq] at hB;refine wp_region_any hm ?_;have h2:=steady_of_list mask 0 l a (by simp) hB.2 h.out;exact wpAny_dag n (idxM 0 mask) c hB.1 hT h2
theorem step_go {l:List Oper} {c:List (Nat×Fct)} {a0:Act} {i:Nat} {T:Fct} (o:Oper) (ho:l[i]?=some o) (hg:o.guard=none)
  (h:∀ a,Like l.toArray c a0 a->∀ w,Mod [] W w->Dep l.toArray c a o w->∀ (K:Act->World->Prop) (Q:Exit->Act->World->Prop),(∀ v w',Mod [] w w'->T v w'->K (a.put o.dst v) w')->o.wp P a w K Q):StepOK P l.toArray W c a0 (i,T):=by
 intro o' ho';have:o'=o:=by
  have h1:l.toArray[i]?=l[i]?:=by simp
  rw [h1,ho] at ho';exact (Option.some.inj ho').symm
 subst this;exact ⟨hg,fun a hl w hw hd=>h a hl w hw hd _ _ fun v w' m t=>⟨v,rfl,m,t⟩⟩
theorem dep_get {l:List Oper} {c:List (Nat×Fct)} {a:Act} {o:Oper} {w:World} (h:Dep l.toArray c a o w) (k j:Nat) (d:Nat) {T:Fct} (hq:c[k]?=some (j,T)) (hb:(o.after.any fun e=>Region.binds .any e && e.on == j)=true) (hd:(l[j]?).bind (·.dst)=some d):∃ v,a.eval (.tmp d)=v/\T v w:=by
 obtain ⟨e,he,h2⟩:=Array.any_eq_true'.1 hb;simp only [Bool.and_eq_true,beq_iff_eq] at h2;obtain ⟨v,h3,h4⟩:=h e he h2.1 (j,T) (List.mem_of_getElem? hq) h2.2.symm;refine ⟨v,?_,h4⟩;unfold Ch.dval at h3;have h1:l.toArray[j]?=l[j]?:=by simp
 rw [h1,hd] at h3;simp only [Option.bind_some] at h3;show a.tmps.getD d undef=v;rw [Array.getD_eq_getD_getElem?,h3];rfl
theorem like_eval {l:List Oper} {c:List (Nat×Fct)} {a0 a:Act} (h:Like l.toArray c a0 a) {t:Nat} (hc:(c.all fun p=>match l[p.1]? with | some o=>o.dst != some t | none=>true)=true):a.eval (.tmp t)=a0.eval (.tmp t):=by
 show a.tmps.getD t undef=a0.tmps.getD t undef;rw [Array.getD_eq_getD_getElem?,Array.getD_eq_getD_getElem?,h.same t fun p hp o ho hd=>?_];have h1:=List.all_eq_true.1 hc p hp;have h2:l.toArray[p.1]?=l[p.1]?:=by simp
 rw [h2] at ho;rw [ho] at h1;simp only [hd,bne_self_eq_false] at h1;cases h1
def FinG (ops:Array Oper) (W:World) (E:Act->World->Prop):List (Nat×Fct)->Act->(World->Prop)->Prop
 | [],a,F=>∀ w,Mod [] W w->F w->E a w
 | p::c,a,F=>∀ o,ops[p.1]?=some o->∀ v,FinG ops W E c (a.put o.dst v) (fun w=>F w/\p.2 v w)
theorem fin_of {E:Act->World->Prop}:∀ (c:List (Nat×Fct)) (a0:Act) (F:World->Prop),Ch.slotsB ops (c.map (·.1)) a0.tmps.size=true->FinG ops W E c a0 F->∀ a,Like ops c a0 a->∀ w,Mod [] W w->F w->All ops c a w->E a w
 | [],a0,F,_,h,a,hl,w,hw,hF,_=>by
  have:a=a0:=by
   obtain ⟨t,d⟩:=a;obtain ⟨t0,d0⟩:=a0;have h1:t=t0:=Array.ext_getElem? fun i=>hl.same i (fun p hp=>by cases hp)
   have h2:d=d0:=hl.defers;rw [h1,h2]
  rw [this];exact h w hw hF
 | p::c,a0,F,hs,h,a,hl,w,hw,hF,hA=>by
  obtain ⟨o,d,ho,hd,hds,hother⟩:=Ch.slots_get (i:=p.1) hs (by simp);obtain ⟨v,h1,h2⟩:=hA p (by simp);have h3:a.tmps[d]?=some v:=by
   unfold Ch.dval at h1;rw [ho] at h1;simpa [hd] using h1
  have hs':Ch.slotsB ops (c.map (·.1)) (a0.put o.dst v).tmps.size=true:=by
   rw [Ch.put_size];unfold Ch.slotsB at hs ⊢;rw [List.map_cons,List.all_cons,Bool.and_eq_true] at hs;exact hs.2
  refine fin_of c _ _ hs' (h o ho v) a ⟨by rw [Ch.put_size];exact hl.size,by rw [hl.defers];cases hx:o.dst <;> rfl,fun t ht=>?_⟩ w hw ⟨hF,h2⟩ fun q hq=>hA q (List.mem_cons_of_mem _ hq)
  by_cases htd:t=d
  ·subst htd;rw [h3];simp [Act.put,hd,hds]
  ·rw [hl.same t fun q hq o' ho' hd'=>?_]
   ·simp [Act.put,hd,Array.getElem?_setIfInBounds_ne (Ne.symm htd)]
   ·rcases List.mem_cons.1 hq with rfl | hq
    ·rw [ho] at ho';obtain rfl:=Option.some.inj ho';rw [hd] at hd';exact htd (Option.some.inj hd').symm
    ·exact ht q hq o' ho' hd'
theorem dag_ok {l:List Oper} {c:List (Nat×Fct)} {E:Act->World->Prop} {a0:Act} (hs:Ch.slotsB l.toArray (c.map (·.1)) a0.tmps.size=true) (h1:∀ p∈c,StepOK P l.toArray W c a0 p) (h2:FinG l.toArray W E c a0 fun _=>True):DagOK P l.toArray W c E a0 :=
 ⟨h1,fun a hl w hw hA=>fin_of c a0 _ hs h2 a hl w hw trivial hA,hs⟩
theorem steps_nil {l:List Oper} {c:List (Nat×Fct)} {a0:Act}:∀ p∈([]:List (Nat×Fct)),StepOK P l.toArray W c a0 p:=fun p hp=>by cases hp
theorem steps_cons {l:List Oper} {c c':List (Nat×Fct)} {a0:Act} {q:Nat×Fct} (h:StepOK P l.toArray W c a0 q) (h':∀ p∈c',StepOK P l.toArray W c a0 p):∀ p∈q::c',StepOK P l.toArray W c a0 p:=fun p hp=>by
 rcases List.mem_cons.1 hp with rfl | hp
 ·exact h
 ·exact h' p hp
theorem fin_cons {l:List Oper} {E:Act->World->Prop} {c:List (Nat×Fct)} {ts:List Value} {df:List Deferred} {F:World->Prop} {i:Nat} {T:Fct} {g:Value->List Value} (d:Nat) (o:Oper) (ho:l[i]?=some o) (hd:o.dst=some d) (hf:∀ v,ts.set d v=g v)
  (h:∀ v,FinG l.toArray W E c { tmps:=(g v).toArray,defers:=df } (fun w=>F w/\T v w)):FinG l.toArray W E ((i,T)::c) { tmps:=ts.toArray,defers:=df } F:=by
 intro o' ho' v;have:o'=o:=by
  have h1:l.toArray[i]?=l[i]?:=by simp
  simp only at ho';rw [h1,ho] at ho';exact (Option.some.inj ho').symm
 subst this;have e:Act.put { tmps:=ts.toArray,defers:=df } o'.dst v={ tmps:=(g v).toArray,defers:=df }:=by rw [hd];unfold Act.put;simp only [List.setIfInBounds_toArray,hf]
 rw [e];exact h v
theorem fin_nil {l:List Oper} {E:Act->World->Prop} {a:Act} {F:World->Prop} (h:∀ w,Mod [] W w->F w->E a w):FinG l.toArray W E [] a F:=h
end
end Dg
theorem oper_bs1 {P:Program} {o:Oper} {a:Act} {w w1:World} {K:Act->World->Prop} {Q:Exit->Act->World->Prop} {r v:Value} {t:TypeId} (s:Operand) (ho:o.op=.buildSlice t 1 #[(0,s)]) (hs:a.eval s=v) (hr:(Instr.buildSlice t 1 #[(0,v)]).run P w=.ok r w1) (hK:K (a.put o.dst r) w1):o.wp P a w K Q:=by
 unfold Oper.wp execOp;simp only [ho,List.map_toArray,List.map_cons,List.map_nil,hs,Sem.run_bind,Sem.run_pure,Result.andThen_ok,hr];exact hK
theorem oper_bs0 {P:Program} {o:Oper} {a:Act} {w w1:World} {K:Act->World->Prop} {Q:Exit->Act->World->Prop} {r:Value} {t:TypeId} (ho:o.op=.buildSlice t 0 #[]) (hr:(Instr.buildSlice t 0 #[]).run P w=.ok r w1) (hK:K (a.put o.dst r) w1):o.wp P a w K Q:=by
 unfold Oper.wp execOp;simp only [ho,List.map_toArray,List.map_nil,Sem.run_bind,Sem.run_pure,Result.andThen_ok,hr];exact hK
theorem oper_bd2 {P:Program} {o:Oper} {a:Act} {w w1:World} {K:Act->World->Prop} {Q:Exit->Act->World->Prop} {r v u:Value} {t:TypeId} {i j:Nat} (s y:Operand) (ho:o.op=.build t #[(i,s),(j,y)]) (hs:a.eval s=v) (hy:a.eval y=u) (hr:(Instr.build t #[(i,v),(j,u)]).run P w=.ok r w1) (hK:K (a.put o.dst r) w1):o.wp P a w K Q:=by
 unfold Oper.wp execOp;simp only [ho,List.map_toArray,List.map_cons,List.map_nil,hs,hy,Sem.run_bind,Sem.run_pure,Result.andThen_ok,hr];exact hK
def findB (k:Nat):Code->Option Code
 | .block n a=>if n == k then some (.block n a) else findB k a
 | .seq a b=>(findB k a).orElse fun _=>findB k b
 | .cond _ a b=>(findB k a).orElse fun _=>findB k b
 | .loop a=>findB k a
 | .scope a=>findB k a
 | _=>none
def findC (k:Nat):Code->Option Code
 | .cond c a b=>match c with | .tmp n=>if n == k then some (.cond c a b) else (findC k a).orElse fun _=>findC k b | _=>(findC k a).orElse fun _=>findC k b
 | .seq a b=>(findC k a).orElse fun _=>findC k b
 | .block _ a=>findC k a
 | .loop a=>findC k a
 | .scope a=>findC k a
 | _=>none
namespace Sn
abbrev Fact:=Value->(World->Prop)->World->Prop
section
variable {P:Program} {ops:Array Oper} {md:Region.Mode} {I:World->Prop} {L:Nat->Option Fact}
def mOp (P:Program) (ops:Array Oper) (I:World->Prop) (L:Nat->Option Fact) (i:Nat) (K:Act->(World->Prop)->Prop) (a:Act) (F:World->Prop):Prop :=
 match ops[i]?,L i with
 | some o,none=>if Region.wanted o (yielded ops a.tmps) then ∃ v,Rg.Steady P o a I v/\K (a.put o.dst v) F else K (a.put o.dst undef) F
 | some o,some T=>Region.wanted o (yielded ops a.tmps)=true/\Rg.LateF P o a I F (fun v=>T v F)/\∀ v,(∃ w,I w/\T v F w)->K (a.put o.dst v) (T v F)
 | none,_=>False
def wpAnyM (P:Program) (md:Region.Mode) (ops:Array Oper) (I:World->Prop) (L:Nat->Option Fact) (n:Nat) (Fin:Array Bool->Act->(World->Prop)->Prop):Nat->Array Bool->Act->(World->Prop)->Prop
 | 0,listed,a,F=>Fin listed a F
 | f+1,listed,a,F=>Region.ready md ops listed≠[]/\∀ i∈Region.ready md ops listed,i<n/\mOp P ops I L i (wpAnyM P md ops I L n Fin f (listed.setIfInBounds i true)) a F
variable (hI:∀ w w',I w->Mod [] w w'->I w')
include hI
theorem wpOp_of_mOp {i:Nat} {a:Act} {F:World->Prop} {K:Act->(World->Prop)->Prop} {K':Act->World->Prop} {Q:Exit->Act->World->Prop} {w:World}
  (hT:∀ i T,L i=some T->∀ v F,Stays F->Stays (T v F)) (hs:Stays F) (hw:I w) (hF:F w) (h:∀ a F w',I w'->Stays F->F w'->K a F->K' a w') (hh:mOp P ops I L i K a F):wpOp P ops Q i K' a w:=by
 unfold mOp at hh;unfold wpOp
 split at hh
 ·rename_i o ho hl;simp only [ho]
  split
  ·rename_i hwn;simp only [hwn,if_true] at hh;obtain ⟨v,h1,h2⟩:=hh;exact .inl (Rg.wp_of_steady hw h1 fun w' m=>h _ _ _ (hI _ _ hw m) hs (hs _ _ hF m) h2)
  ·rename_i hwn;simp only [hwn] at hh;exact h _ _ _ hw hs hF hh
 ·rename_i o T ho hl;obtain ⟨hg,h1,h2⟩:=hh;simp only [ho,hg,if_true];exact .inl (Rg.wp_of_lateF hw hF h1 fun v w' m t=>h _ _ _ m (hT i T hl v _ hs) t (h2 v ⟨w',m,t⟩))
 ·exact hh.elim
theorem wpAny_of_M {n g:Nat} {Fin:Array Bool->Act->(World->Prop)->Prop} {Q:Exit->Act->World->Prop} (hT:∀ i T,L i=some T->∀ v F,Stays F->Stays (T v F))
  (hFin:∀ listed a F w,I w->F w->Fin listed a F->wpAny P md ops Q g listed a w) :
  ∀ (f:Nat) (listed:Array Bool) (a:Act) (F:World->Prop) (w:World),Stays F->I w->F w->wpAnyM P md ops I L n Fin f listed a F->wpAny P md ops Q (f+g) listed a w
 | 0,listed,a,F,w,_,hw,hF,h=>by rw [Nat.zero_add];exact hFin _ _ _ _ hw hF h
 | f+1,listed,a,F,w,hs,hw,hF,h=>by
  rw [show f+1+g=(f+g)+1 by omega];exact ⟨fun h0=>absurd h0 h.1,fun i hi=>wpOp_of_mOp hI hT hs hw hF (fun a' F' w' hw' hs' hF' h'=>wpAny_of_M hT hFin f _ a' F' w' hs' hw' hF' h') (h.2 i hi).2⟩
omit hI
theorem YieldsS_mOp {i:Nat} {o:Oper} {v:Value} {a:Act} {F:World->Prop} (hi:ops[i]?=some o) (hl:L i=none) (hy:Rg.YieldsS P ops I o v a) {K:Act->(World->Prop)->Prop} (h:K (a.put o.dst v) F):mOp P ops I L i K a F:=by
 unfold mOp;simp only [hi,hl];rcases hy with ⟨hw,hv⟩ | ⟨hw,rfl⟩
 ·simp only [hw,if_true];exact ⟨v,hv,h⟩
 ·simp only [hw,Bool.false_eq_true,if_false];exact h
theorem mOp_put {j:Nat} {oi oj:Oper} {v:Value} (hj:ops[j]?=some oj) (hap:oi.apart ops oj=true)
  (hsi:∀ cs b,oi.op≠.select cs b) (hsj:∀ cs b,oj.op≠.select cs b) {K:Act->(World->Prop)->Prop} {a:Act} {F:World->Prop}
  (hy:Rg.YieldsS P ops I oi v a) (h:mOp P ops I L j K (a.put oi.dst v) F) :
  mOp P ops I L j (fun a' F'=>Rg.YieldsS P ops I oi v a'/\K (a'.put oi.dst v) F') a F:=by
 obtain ⟨h1,h2,h3⟩:=Oper.apart_spec hap;have h2':∀ d,oj.dst=some d->oi.dst≠some d:=fun d hd hi'=>h2 d hi' hd
 have keep:∀ (a:Act),Rg.YieldsS P ops I oi v a->∀ u,Rg.YieldsS P ops I oi v (a.put oj.dst u):=fun a hy u=>by
  unfold Rg.YieldsS at *
  rw [wanted_put oi a oj.dst u h3];exact hy.imp (fun hh=>⟨hh.1,Rg.late_put' hsi h3 h2' hh.2⟩) id
 unfold mOp at *
 cases hl:L j with
 | none =>
  simp only [hj,hl] at h ⊢;rw [wanted_put oj a oi.dst v h1] at h
  split
  ·rename_i hw;simp only [hw,if_true] at h;obtain ⟨u,hu,hn⟩:=h;exact ⟨u,Rg.late_put hsj h1 h2 hu,keep a hy u,by rw [<- Act.put_comm a v u h2];exact hn⟩
  ·rename_i hw;simp only [hw] at h;exact ⟨keep a hy _,by rw [<- Act.put_comm a v undef h2];exact h⟩
 | some T =>
  simp only [hj,hl] at h ⊢;rw [wanted_put oj a oi.dst v h1] at h;exact ⟨h.1,Rg.lateF_put hsj h1 h2 h.2.1,fun u hu=>⟨keep a hy u,by rw [<- Act.put_comm a v u h2];exact h.2.2 u hu⟩⟩
theorem mOp_same {j:Nat} {a:Act} {F:World->Prop} {K K':Act->(World->Prop)->Prop} (h:∀ a F,K a F->K' a F) (hh:mOp P ops I L j K a F):mOp P ops I L j K' a F:=by
 unfold mOp at *
 split
 ·rename_i o ho hl;simp only [ho,hl] at hh
  split
  ·rename_i hw;simp only [hw,if_true] at hh;obtain ⟨v,h1,h2⟩:=hh;exact ⟨v,h1,h _ _ h2⟩
  ·rename_i hw;simp only [hw] at hh;exact h _ _ hh
 ·rename_i o T ho hl;simp only [ho,hl] at hh;exact ⟨hh.1,hh.2.1,fun v hv=>h _ _ (hh.2.2 v hv)⟩
 ·rename_i ho;simp only [ho] at hh
theorem wpAnyM_first {n i:Nat} {oi:Oper} {v:Value} {Fin:Array Bool->Act->(World->Prop)->Prop} (hi:ops[i]?=some oi) (hl:L i=none) (hsel:∀ (j:Nat) (o:Oper) cs b,ops[j]?=some o->o.op≠.select cs b)
  (ht:Region.tailB md ops n=true) (hin:i<n) (hdone:∀ listed a F,Fin listed a F->∀ j∈Region.ready md ops listed,n<=j) :
  ∀ (f:Nat) (listed:Array Bool) (a:Act) (F:World->Prop),HeadInv md ops n listed ->
   (∀ j oj,ops[j]?=some oj->j≠i->listed.getD j true=false->(∀ e∈oj.after,Region.binds md e=true->e.on≠i)->oi.apart ops oj=true) ->
   i∈Region.ready md ops listed->Rg.YieldsS P ops I oi v a ->
   wpAnyM P md ops I L n Fin f (listed.setIfInBounds i true) (a.put oi.dst v) F->wpAnyM P md ops I L n Fin (f+1) listed a F:=by
 intro f
 induction f with
 | zero =>
  intro listed a F inv _ hr hy H;have hun:=(mem_ready.1 hr).1;refine ⟨fun h=>(by rw [h] at hr;cases hr),fun j hj=>?_⟩;have hjn:=ready_lt ht inv hin hun hj;refine ⟨hjn,?_⟩
  by_cases hji:j=i
  ·subst hji;exact YieldsS_mOp hi hl hy H
  ·have:=hdone _ _ _ H j (ready_mono hj hji);omega
 | succ f ih =>
  intro listed a F inv hfree hr hy H;have hun:=(mem_ready.1 hr).1;refine ⟨fun h=>(by rw [h] at hr;cases hr),fun j hj=>?_⟩;have hjn:=ready_lt ht inv hin hun hj;refine ⟨hjn,?_⟩
  by_cases hji:j=i
  ·subst hji;exact YieldsS_mOp hi hl hy H
  ·have h1:=(H.2 j (ready_mono hj hji)).2;obtain ⟨hjun,oj,hoj,hall⟩:=mem_ready.1 hj;have hnot:∀ e∈oj.after,Region.binds md e=true->e.on≠i:=fun e he hb heq=>by
    have h1:=hall e he hb;rw [heq,getD_both hun] at h1;cases h1
   have h2:=mOp_put hoj (hfree j oj hoj hji hjun hnot) (fun cs b=>hsel i oi cs b hi) (fun cs b=>hsel j oj cs b hoj) hy h1;have hfree':∀ k ok,ops[k]?=some ok->k≠i->(listed.setIfInBounds j true).getD k true=false ->
     (∀ e∈ok.after,Region.binds md e=true->e.on≠i)->oi.apart ops ok=true:=fun k ok hk hki hun hno=>by
    refine hfree k ok hk hki ?_ hno
    by_cases hjk:j=k
    ·subst hjk;exact hjun
    ·rw [getD_set_ne true hjk] at hun;exact hun
   refine mOp_same (fun a' F' h3=>ih (listed.setIfInBounds j true) a' F' (inv.set hj hjn) hfree' (ready_mono hr (Ne.symm hji)) h3.1 ?_) h2;rw [Array.setIfInBounds_comm _ _ hji];exact h3.2
def wpToks (P:Program) (ops:Array Oper) (I:World->Prop) (E:Act->(World->Prop)->Prop):List (Nat×Option Fact)->Act->(World->Prop)->Prop
 | [],a,F=>E a F
 | p::l,a,F=>match ops[p.1]?,p.2 with
  | none,_=>False
  | some o,none=>if Region.wanted o (yielded ops a.tmps) then ∃ v,Rg.Steady P o a I v/\wpToks P ops I E l (a.put o.dst v) F else wpToks P ops I E l (a.put o.dst undef) F
  | some o,some T=>Region.wanted o (yielded ops a.tmps)=true/\Rg.LateF P o a I F (fun v=>T v F)/\∀ v,(∃ w,I w/\T v F w)->wpToks P ops I E l (a.put o.dst v) (T v F)
def toksB (md:Region.Mode) (ops:Array Oper) (n:Nat):List (Nat×Bool)->Array Bool->Bool
 | [],listed=>Region.seqB md ops (ops.size - n) n listed
 | p::l,listed=>decide (p.1<n) && (if p.2 then Region.ready md ops listed == [p.1] else (Region.ready md ops listed).contains p.1 && Region.free md ops listed p.1) && toksB md ops n l (listed.setIfInBounds p.1 true)
theorem wpAnyM_toks {n:Nat} {E:Act->(World->Prop)->Prop} (hsel:Region.noSelect ops=true) (ht:Region.tailB md ops n=true) :
  ∀ (l:List (Nat×Option Fact)) (listed:Array Bool) (a:Act) (F:World->Prop),HeadInv md ops n listed->toksB md ops n (l.map fun p=>(p.1,p.2.isSome)) listed=true->(∀ p∈l,L p.1=p.2)->wpToks P ops I E l a F ->
   wpAnyM P md ops I L n (fun listed' a' F'=>Region.seqB md ops (ops.size - n) n listed'=true/\E a' F') l.length listed a F
 | [],listed,a,F,inv,hB,hL,h=>⟨hB,h⟩
 | (i,none)::l,listed,a,F,inv,hB,hL,h=>by
  simp only [List.map_cons,toksB,Bool.and_eq_true,decide_eq_true_eq,Option.isSome_none,Bool.false_eq_true,if_false] at hB;obtain ⟨⟨hin,hr,hf⟩,hB'⟩:=hB;have hr':i∈Region.ready md ops listed:=by simpa using hr
  unfold wpToks at h;cases ho:ops[i]? with
  | none=>simp only [ho] at h
  | some o =>
   simp only [ho] at h;obtain ⟨v,hy,hk⟩:∃ v,Rg.YieldsS P ops I o v a/\wpToks P ops I E l (a.put o.dst v) F:=by
    by_cases hw:Region.wanted o (yielded ops a.tmps)=true
    ·simp only [hw,if_true] at h;obtain ⟨v,h1,h2⟩:=h;exact ⟨v,.inl ⟨hw,h1⟩,h2⟩
    ·simp only [hw] at h;exact ⟨undef,.inr ⟨by simpa using hw,rfl⟩,h⟩
   exact wpAnyM_first ho (hL (i,none) (by simp)) (Region.noSelect_spec hsel) ht hin (fun listed a F hf=>seqB_ready hf.1) l.length listed a F inv (Region.free_spec ho hf) hr' hy
    (wpAnyM_toks hsel ht l _ _ _ (inv.set hr' hin) hB' (fun p hp=>hL p (List.mem_cons_of_mem _ hp)) hk)
 | (i,some T)::l,listed,a,F,inv,hB,hL,h=>by
  simp only [List.map_cons,toksB,Bool.and_eq_true,decide_eq_true_eq,Option.isSome_some,if_true] at hB;obtain ⟨⟨hin,hr⟩,hB'⟩:=hB;have hr':Region.ready md ops listed=[i]:=by simpa using hr
  unfold wpToks at h;cases ho:ops[i]? with
  | none=>simp only [ho] at h
  | some o =>
   simp only [ho] at h;refine ⟨by rw [hr'];simp,fun j hj=>?_⟩;rw [hr'] at hj;obtain rfl:=mI.1 hj;refine ⟨hin,?_⟩;unfold mOp;simp only [ho,hL (j,some T) (by simp)];exact ⟨h.1,h.2.1,fun v hv=>wpAnyM_toks hsel ht l _ _ _ (inv.set (by rw [hr'];simp) hin) hB' (fun p hp=>hL p (List.mem_cons_of_mem _ hp)) (h.2.2 v hv)⟩
def lookT (l:List (Nat×Option Fact)) (i:Nat):Option Fact:=(l.find? fun p=>p.1 == i).bind (·.2)
theorem lookT_mem:∀ (l:List (Nat×Option Fact)),(l.map (·.1)).Nodup->∀ p∈l,lookT l p.1=p.2
 | q::l,hn,p,hp=>by
  simp only [List.map_cons,List.nodup_cons] at hn;unfold lookT
  by_cases hq:q.1=p.1
  ·rw [List.find?_cons_of_pos (by simpa using hq)];rcases List.mem_cons.1 hp with h | h
   ·rw [h];rfl
   ·exact absurd (by rw [hq];exact mM h) hn.1
  ·rw [List.find?_cons_of_neg (by simpa using hq)];rcases List.mem_cons.1 hp with h | h
   ·exact absurd (by rw [h]) hq
   ·exact lookT_mem l hn.2 p h
theorem lookT_some {l:List (Nat×Option Fact)} {i:Nat} {T:Fact} (h:lookT l i=some T):(i,some T)∈l:=by
 unfold lookT at h;cases hf:l.find? (fun p=>p.1 == i) with
 | none=>rw [hf] at h;cases h
 | some p =>
  rw [hf] at h;have h1:=List.find?_some hf;have h2:=List.mem_of_find?_eq_some hf;simp only [beq_iff_eq] at h1;obtain ⟨q,r⟩:=p;simp only at h1;subst h1;simp only [Option.bind_some] at h;subst h;exact h2
structure WToks (P:Program) (ops:Array Oper) (I:World->Prop) (E:Act->(World->Prop)->Prop) (l:List (Nat×Option Fact)) (a:Act) (F:World->Prop):Prop where
 out:wpToks P ops I E l a F
include hI in
theorem wp_region_sw {id:Nat} {Q:Exit->Act->World->Prop} {a:Act} {w:World} {l:List Oper} (n:Nat) (toks:List (Nat×Option Fact))
  (hm:P.follows .mixedOrders=true) (hB:(Region.noSelect l.toArray && decide (n<=l.length) && decide (toks.length=n) && Region.tailB .any l.toArray n && toksB .any l.toArray n (toks.map fun p=>(p.1,p.2.isSome)) (Array.replicate l.toArray.size false))=true)
  (hn:(toks.map (·.1)).Nodup) (hT:∀ p∈toks,∀ T,p.2=some T->∀ v F,Stays F->Stays (T v F)) (hw:I w.drew) {F0:World->Prop} (hF0:Stays F0) (hw0:F0 w.drew)
  (h:WToks P l.toArray I (fun a' F=>∀ w',I w'->F w'->wpList P l.toArray Q (l.drop n) a' w') toks a F0) :
  (Code.region id l.toArray true).wp P Q a w:=by
 simp only [Bool.and_eq_true,decide_eq_true_eq] at hB;obtain ⟨⟨⟨⟨hsel,hnl⟩,hlen⟩,ht⟩,hB'⟩:=hB;have inv0:HeadInv .any l.toArray n (Array.replicate l.toArray.size false) :=
  ⟨by simp,fun j oj _ hl=>(by rw [getD_replicate_false] at hl;cases hl),fun t _ ht=>getD_in (by simpa using ht) (getD_replicate_false _ _)⟩
 have H:=wpAnyM_toks (P:=P) (I:=I) (L:=lookT toks) hsel ht toks _ a _ inv0 hB' (lookT_mem toks hn) h.out;refine wp_region_any hm ?_;have hdl:(l.drop n).length=l.toArray.size - n:=by simp
 have hfin:=wpAny_of_M hI (P:=P) (md:=.any) (ops:=l.toArray) (Q:=Q) (g:=l.toArray.size - n) (fun i T hi v F hF=>hT _ (lookT_some hi) T rfl v F hF) (fun listed a F w' hw hF hf=>by
  have:=wpAny_of_seq (md:=.any) (Q':=Q) (l.drop n) n listed a w' (fun j=>by simp [List.getElem?_drop]) (by rw [hdl];exact hf.1) (hf.2 w' hw hF)
  rwa [hdl] at this) _ _ _ _ w.drew hF0 hw hw0 H
 have hl2:toks.length+(l.toArray.size - n)=l.toArray.size:=by simp;omega
 rwa [hl2] at hfin
theorem nil_go {E:Act->(World->Prop)->Prop} {a:Act} {F:World->Prop} (h:E a F):WToks P ops I E [] a F:=⟨h⟩
theorem v_go {w0:World} (hw0:I w0) {E:Act->(World->Prop)->Prop} {l:List (Nat×Option Fact)} {a a':Act} {F:World->Prop} {i:Nat} {o:Oper} (ho:ops[i]?=some o) (hg:Region.wanted o (yielded ops a.tmps)=true) (hd:a'.defers=a.defers)
  (h:∀ w,I w->∀ (K:Act->World->Prop) (Q:Exit->Act->World->Prop),(∀ w',Mod [] w w'->K a' w')->o.wp P a w K Q) (hr:WToks P ops I E l a' F):WToks P ops I E ((i,none)::l) a F:=by
 refine ⟨?_⟩;obtain ⟨u,hu⟩:=put_of_wp (R:=fun _=>True) hd (h w0 hw0 _ _ fun w' _=>⟨rfl,trivial⟩);unfold wpToks;simp only [ho];rw [if_pos hg];refine ⟨u,fun w hw=>h w hw _ _ fun w' m=>⟨u,hu.symm,m,rfl⟩,?_⟩;rw [hu];exact hr.out
theorem x_go {E:Act->(World->Prop)->Prop} {l:List (Nat×Option Fact)} {a:Act} {F:World->Prop} {T:Fact} {f:Value->Act} {i:Nat} {o:Oper} (ho:ops[i]?=some o) (hg:Region.wanted o (yielded ops a.tmps)=true) (hf:∀ v,f v=a.put o.dst v)
  (h:∀ w,I w->F w->∀ (K:Act->World->Prop) (Q:Exit->Act->World->Prop),(∀ v w',I w'->T v F w'->K (f v) w')->o.wp P a w K Q)
  (hk:∀ v,(∃ w,I w/\T v F w)->WToks P ops I E l (f v) (T v F)):WToks P ops I E ((i,some T)::l) a F:=by
 refine ⟨?_⟩;unfold wpToks;simp only [ho];refine ⟨hg,fun w hw hF=>h w hw hF _ _ fun v w' m t=>⟨v,hf v,m,t⟩,fun v hv=>?_⟩;rw [<- hf v];exact (hk v hv).out
theorem x_go2 {l0:List Oper} {E:Act->(World->Prop)->Prop} {l:List (Nat×Option Fact)} {ts:List Value} {df:List Deferred} {F:World->Prop} {T:Fact} {g:Value->List Value} {i:Nat} (d:Nat) (o:Oper) (ho:l0[i]?=some o) (hg:Region.wanted o (yielded l0.toArray ts.toArray)=true) (hd:o.dst=some d) (hf:∀ v,ts.set d v=g v)
  (h:∀ w,I w->F w->∀ (K:Act->World->Prop) (Q:Exit->Act->World->Prop),(∀ v w',I w'->T v F w'->K { tmps:=(g v).toArray,defers:=df } w')->o.wp P { tmps:=ts.toArray,defers:=df } w K Q)
  (hk:∀ v,(∃ w,I w/\T v F w)->WToks P l0.toArray I E l { tmps:=(g v).toArray,defers:=df } (T v F)):WToks P l0.toArray I E ((i,some T)::l) { tmps:=ts.toArray,defers:=df } F :=
 x_go (f:=fun v=>{ tmps:=(g v).toArray,defers:=df }) (by simpa using ho) hg (fun v=>by rw [hd];unfold Act.put;simp only [List.setIfInBounds_toArray,hf]) h hk
end
end Sn
end Go.Proofs.YthheaflbbficgaaGreat
