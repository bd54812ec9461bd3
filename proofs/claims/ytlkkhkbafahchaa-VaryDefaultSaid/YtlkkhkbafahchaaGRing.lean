/- Float, Chain, Doom, SeqR, Kit, FindC, FloatMove, IntMap, Ring, SeqW, SeqA, Mini, OwnF, MapRange, MonoT. -/
import Derived.Test.YtlkkhkbafahchaaGBase
import Derived.Deep.LoopGhost
import Derived.Deep.QuietTactic
import Derived.BigQuiet
import Derived.RegionTactic
import Derived.IntWalk
import Derived.WalkLawsBesides
import Derived.Deep.DeepCutAuto
import Derived.Deep.CutBlock
import Derived.MapKept
import Derived.Maps.RangeRun
set_option linter.all false
namespace Go.Proofs.Ytlkkhkbafahchaa
open Go.RowKit
def waitFor (t i:Nat) (l:List Oper):List Oper:=l.modify t fun o=>{ o with after:=o.after.push ⟨i,.data⟩ }
section
variable {P:Program} {md:Region.Mode} {ops ops':Array Oper} {Q:Exit->Act->World->Prop} {t i:Nat} {ot oi:Oper}
structure Waits (ops ops':Array Oper) (t i:Nat) (ot:Oper):Prop where
 other:∀ j,j≠t->ops'[j]?=ops[j]?
 old:ops[t]?=some ot
 new:ops'[t]?=some { ot with after:=ot.after.push ⟨i,.data⟩ }
theorem Waits.yielded (h:Waits ops ops' t i ot) (tmps:Array Value):yielded ops' tmps=yielded ops tmps:=by
 funext j
 unfold Go.yielded
 by_cases hj:j=t
 ·subst hj;rw [h.old,h.new];rfl
 ·rw [h.other j hj]
theorem Waits.wpOp (h:Waits ops ops' t i ot) {j:Nat} {K:Act->World->Prop} {a:Act} {w:World} (hh:wpOp P ops' Q j K a w):wpOp P ops Q j K a w:=by
 unfold Go.wpOp at *
 rw [h.yielded] at hh
 by_cases hj:j=t
 ·subst hj;rw [h.new] at hh;rw [h.old];exact hh
 ·rw [h.other j hj] at hh;exact hh
theorem Waits.ready_of (h:Waits ops ops' t i ot) {j:Nat} {listed:Array Bool} (hj:j∈Region.ready md ops' listed):j∈Region.ready md ops listed:=by
 rw [mem_ready] at *
 obtain ⟨h0,o,ho,hall⟩:=hj
 by_cases hjt:j=t
 ·subst hjt;rw [h.new] at ho;obtain rfl:=Option.some.inj ho;exact ⟨h0,ot,h.old,fun e he hb=>hall e (Array.mem_push.2 (.inl he)) hb⟩
 ·exact ⟨h0,o,by rw [<- h.other j hjt];exact ho,hall⟩
theorem Waits.ready_ne (h:Waits ops ops' t i ot) {j:Nat} {listed:Array Bool} (hjt:j≠t) (hj:j∈Region.ready md ops listed):j∈Region.ready md ops' listed:=by
 rw [mem_ready] at *
 obtain ⟨h0,o,ho,hall⟩:=hj;exact ⟨h0,o,by rw [h.other j hjt];exact ho,hall⟩
theorem Waits.ready_in (h:Waits ops ops' t i ot) {j:Nat} {listed:Array Bool} (hi:listed.getD i false=true) (hj:j∈Region.ready md ops listed):j∈Region.ready md ops' listed:=by
 by_cases hjt:j=t
 ·subst hjt;rw [mem_ready] at *
  obtain ⟨h0,o,ho,hall⟩:=hj;rw [h.old] at ho;obtain rfl:=Option.some.inj ho;refine ⟨h0,_,h.new,fun e he hb=>?_⟩;rcases Array.mem_push.1 he with he | rfl
  ·exact hall e he hb
  ·exact hi
 ·exact h.ready_ne hjt hj
theorem Waits.behind (h:Waits ops ops' t i ot):∀ (g:Nat) (listed:Array Bool) (a:Act) (w:World),listed.getD i false=true->wpAny P md ops' Q g listed a w->wpAny P md ops Q g listed a w
 | 0,listed,a,w,hi,hh=>⟨List.eq_nil_iff_forall_not_mem.2 (fun j hj=>by
   have:=h.ready_in hi hj;rw [hh.1] at this
   exact absurd this (List.not_mem_nil)),hh.2⟩
 | g+1,listed,a,w,hi,hh=>⟨fun h0=>hh.1 (by
   rw [List.eq_nil_iff_forall_not_mem];intro j hj;have:=h.ready_of hj;rw [h0] at this
   cases this),fun j hj=>wpOp_mono (fun a' w' h'=>h.behind g _ a' w' (getD_set_true hi) h') (h.wpOp (hh.2 j (h.ready_in hi hj)))⟩
def floatB (md:Region.Mode) (ops:Array Oper) (t i:Nat):Bool :=
 match ops[t]?,ops[i]? with
 | some ot,some oi=>decide (t≠i) && oi.guard.isNone && (match oi.op with | .extract _ _=>true | _=>false) &&
  oi.after.all (fun e=>!Region.binds md e || ot.after.any fun e'=>Region.binds md e' && e'.on == e.on) &&
  (List.range ops.size).all fun j=>j == i || oi.after.any (fun e=>Region.binds md e && e.on == j) || match ops[j]? with
   | some oj=>oj.after.any (fun e=>Region.binds md e && e.on == i) || oi.apart ops oj
   | none=>true
 | _,_=>false
theorem extract_yields {o:Oper} (hg:o.guard=none) {x:Operand} {ix:Nat} (ho:o.op=.extract x ix) {j:Nat} (hj:ops[j]?=some o) {K:Act->World->Prop} {a:Act} {w:World} (hh:wpOp P ops Q j K a w) :
  ∃ v,Yields P ops o v a/\K (a.put o.dst v) w:=by
 unfold wpOp at hh;have hw:Region.wanted o (yielded ops a.tmps)=true:=by unfold Region.wanted;rw [hg]
 simp only [hj,hw,if_true] at hh;have stuckCase:∀ s,(∀ w,(execOp a.eval o).run P w=.halt (.stuck s) w)->(execOp a.eval o).runT P w #[]=(.halt (.stuck s) w,#[])->False:=fun s h1 h2=>by
  rcases hh with hh | hh
  ·unfold Oper.wp at hh;rw [h1 w] at hh;exact hh
  ·unfold Oper.asks at hh;rw [h2] at hh;simp at hh
 have okCase:∀ v,(∀ w,(execOp a.eval o).run P w=.ok (.value v) w)->(execOp a.eval o).runT P w #[]=(.ok (.value v) w,#[])->∃ v,Yields P ops o v a/\K (a.put o.dst v) w:=fun v h1 h2=>by
  refine ⟨v,.inl ⟨hw,h1⟩,?_⟩;rcases hh with hh | hh
  ·unfold Oper.wp at hh;rw [h1 w] at hh;exact hh
  ·unfold Oper.asks at hh;rw [h2] at hh;simp at hh
 have hE:execOp a.eval o=(do pure (.value (<- Instr.extract (a.eval x) ix))):=by
  unfold execOp;simp only [ho]
 rw [hE] at stuckCase okCase;generalize a.eval x=y at *
 cases y with
 | tuple vs =>
  cases hv:vs[ix]? with
  | none=>exact (stuckCase _ (fun w=>by simp [Instr.extract,hv,go_sem];rfl) (by simp [Instr.extract,hv,go_sem];rfl)).elim
  | some v=>exact okCase v (fun w=>by simp [Instr.extract,hv,go_sem]) (by simp [Instr.extract,hv,go_sem];rfl)
 | _=>exact (stuckCase _ (fun w=>by simp [Instr.extract,go_sem];rfl) (by simp [Instr.extract,go_sem];rfl)).elim
theorem wpAny_float (W:Waits ops ops' t i ot) (hB:floatB md ops t i=true) (hs:Region.noSelect ops=true) (hQ:∀ c a d v w,Q (.panic c) (a.put d v) w->Q (.panic c) a w) :
  ∀ (g:Nat) (listed:Array Bool) (a:Act) (w:World),listed.getD i true=false->wpAny P md ops' Q g listed a w->wpAny P md ops Q g listed a w:=by
 unfold floatB at hB;rw [W.old] at hB;cases ho:ops[i]? with
 | none=>rw [ho] at hB;cases hB
 | some oi =>
  rw [ho] at hB;simp only [Bool.and_eq_true,decide_eq_true_eq] at hB;obtain ⟨⟨⟨⟨hne,hg⟩,hx⟩,hdeps⟩,hfree⟩:=hB;have hg':oi.guard=none:=by simpa using hg
  obtain ⟨x,ix,hop⟩:∃ x ix,oi.op=.extract x ix:=by
   cases hop:oi.op <;> simp [hop] at hx
   exact ⟨_,_,rfl⟩
  have hT:∀ listed,listed.getD i true=false->t∈Region.ready md ops listed->i∈Region.ready md ops listed:=fun listed hun ht=>by
   rw [mem_ready] at *
   obtain ⟨_,o,ho',hall⟩:=ht;rw [W.old] at ho';obtain rfl:=Option.some.inj ho';refine ⟨hun,oi,ho,fun e he hb=>?_⟩;have h1:=Array.all_eq_true_iff_forall_mem.1 hdeps e he;rw [hb] at h1;simp only [Bool.not_true,Bool.false_or] at h1;obtain ⟨e',he',h2⟩:=Array.any_eq_true'.1 h1;simp only [Bool.and_eq_true,beq_iff_eq] at h2;rw [<- h2.2];exact hall e' he' h2.1
  have hF:∀ listed,i∈Region.ready md ops listed->∀ j oj,ops[j]?=some oj->j≠i->listed.getD j true=false->(∀ e∈oj.after,Region.binds md e=true->e.on≠i)->oi.apart ops oj=true:=fun listed hr j oj hj hji hun hno=>by
   have h1:=List.all_eq_true.1 hfree j (List.mem_range.2 (Array.getElem?_eq_some_iff.1 hj).1);simp only [hj,Bool.or_eq_true,beq_iff_eq,hji,false_or] at h1;rcases h1 with h1 | h1 | h1
   ·obtain ⟨e,he,h2⟩:=Array.any_eq_true'.1 h1;simp only [Bool.and_eq_true,beq_iff_eq] at h2;obtain ⟨_,o,ho',hall⟩:=mem_ready.1 hr;rw [ho] at ho';obtain rfl:=Option.some.inj ho';have h3:=hall e he h2.1;rw [h2.2,getD_both hun] at h3;cases h3
   ·obtain ⟨e,he,h2⟩:=Array.any_eq_true'.1 h1;simp only [Bool.and_eq_true,beq_iff_eq] at h2;exact absurd h2.2 (hno e he h2.1)
   ·exact h1
  intro g
  induction g with
  | zero =>
   intro listed a w hun hh;refine ⟨List.eq_nil_iff_forall_not_mem.2 fun j hj=>?_,hh.2⟩
   by_cases hjt:j=t
   ·subst hjt;have:=W.ready_ne (Ne.symm hne) (hT listed hun hj);rw [hh.1] at this;exact absurd this List.not_mem_nil
   ·have:=W.ready_ne hjt hj;rw [hh.1] at this;exact absurd this List.not_mem_nil
  | succ g ih =>
   intro listed a w hun hh
   by_cases hr:i∈Region.ready md ops listed
   ·obtain ⟨v,hy,hk⟩:=extract_yields hg' hop ho (W.wpOp (hh.2 i (W.ready_ne (Ne.symm hne) hr)));refine wpAny_first ho (Region.noSelect_spec hs) (fun c a w=>hQ c a oi.dst v w) g listed a w (hF listed hr) hr hy ?_;refine W.behind g _ _ _ ?_ hk;have hlt:i<listed.size:=by
     rcases Nat.lt_or_ge i listed.size with h' | h'
     ·exact h'
     ·rw [Array.getD_eq_getD_getElem?,Array.getElem?_eq_none h'] at hun;cases hun
    simp [hlt]
   ·refine ⟨fun h0=>hh.1 (List.eq_nil_iff_forall_not_mem.2 fun j hj=>?_),fun j hj=>?_⟩
    ·have:=W.ready_of hj;rw [h0] at this;exact absurd this List.not_mem_nil
    ·have hji:j≠i:=fun he=>hr (he ▸ hj)
     have hjt:j≠t:=fun he=>hr (hT listed hun (he ▸ hj))
     refine wpOp_mono (fun a' w' h'=>ih _ a' w' ?_ h') (W.wpOp (hh.2 j (W.ready_ne hjt hj)));rw [getD_set_ne true hji];exact hun
theorem wait_waits {l:List Oper} {t i:Nat} {o:Oper} (h:l[t]?=some o):Waits l.toArray (waitFor t i l).toArray t i o:=by
 refine ⟨fun j hj=>?_,by simpa using h,?_⟩
 ·simp only [List.getElem?_toArray,waitFor];rw [List.getElem?_modify];cases l[j]? <;> simp [Ne.symm hj]
 ·simp only [List.getElem?_toArray,waitFor];rw [List.getElem?_modify,h];simp
theorem wait_length (t i:Nat) (l:List Oper):(waitFor t i l).length=l.length:=by simp [waitFor]
theorem wpAny_mono {Q:Exit->Act->World->Prop} {a:Act} {w:World} {l:List Oper} (n:Nat) (ord:List Nat) (late:List (Nat×(Value->World->Prop)))
  (hB:Region.monoB .any l.toArray n ord (late.map (·.1))=true) (hT:∀ p∈late,∀ v,Stays (p.2 v))
  (h:wpSteady P l.toArray w (fun a'=>wpLates P l.toArray w (fun a'' F=>∀ w',Mod [] w w'->F w'->wpList P l.toArray Q (l.drop n) a'' w') late a' (fun _=>True)) ord a) :
  wpAny P .any l.toArray Q l.toArray.size (Array.replicate l.toArray.size false) a { w with drawn:=w.drawn+1 }:=by
 simp only [Region.monoB,Bool.and_eq_true,decide_eq_true_eq] at hB;obtain ⟨⟨⟨⟨⟨⟨⟨⟨hsel,hn⟩,hlen⟩,hlt⟩,ht⟩,hd⟩,hseq⟩,hap⟩,hord⟩:=hB
 let L:Nat->Option (Value->World->Prop):=fun i=>(late.find? fun p=>p.1 == i).map (·.2)
 have hLn:∀ i,(late.map (·.1)).contains i=false->L i=none:=fun i hi=>by
  simp only [L,Option.map_eq_none_iff,List.find?_eq_none];intro p hp he;have:(late.map (·.1)).contains i=true:=by simpa using ⟨p.2,by simpa [<- (beq_iff_eq.1 he)] using hp⟩
  rw [hi] at this;cases this
 have hLs:∀ p∈late,L p.1=some p.2:=fun p hp=>lookup_late late p hp (lateApart_nodup hap)
 have hLT:∀ i T,L i=some T->∀ v,Stays (T v):=fun i T hi v=>by
  simp only [L,Option.map_eq_some_iff] at hi;obtain ⟨p,hp,rfl⟩:=hi;exact hT p (List.mem_of_find?_eq_some hp) v
 have inv0:HeadInv .any l.toArray n (Array.replicate l.toArray.size false) :=
  ⟨by simp,fun j oj _ hl=>(by rw [getD_replicate_false] at hl;cases hl),fun t _ ht=>getD_in (by simpa using ht) (getD_replicate_false _ _)⟩
 have hE:∀ (a:Act) (F F':World->Prop),(∀ w,F' w->F w)->(∀ w',Mod [] w w'->F w'->wpList P l.toArray Q (l.drop n) a w')->(∀ w',Mod [] w w'->F' w'->wpList P l.toArray Q (l.drop n) a w') :=
  fun a F F' hF h w' hw hf=>h w' hw (hF w' hf)
 have hdl:(l.drop n).length=l.toArray.size - n:=by simp
 have H:=wpAnyM_ord (P:=P) (W:=w) (L:=L) (m:=late.length) (late:=late.map (·.1)) (F:=fun _=>True)
  (Fin:=fun listed a F=>Region.seqB .any l.toArray (l.toArray.size - n) n listed=true/\∀ w',Mod [] w w'->F w'->wpList P l.toArray Q (l.drop n) a w')
  hsel ht (fun listed a F hf=>seqB_ready hf.1) hLn (fun a listed inv hB hk=>by
   refine wpAnyM_lates hE (Region.noSelect_spec hsel) ht hd hn hseq late.length late listed a _ rfl inv hap hLs (fun i hi=>?_) (fun p hp=>?_) hk
   ·have:=List.all_eq_true.1 hB i (List.mem_range.2 hi);simp only [beq_iff_eq] at this;rw [Bool.eq_iff_iff] at this;simp only [beq_iff_eq,List.contains_iff_mem] at this;exact this
   ·have:=List.all_eq_true.1 hlt p.1 (List.mem_map_of_mem hp)
    simpa using this) ord _ a inv0 hord h
 have hfin:=wpAny_of_M (P:=P) (md:=.any) (ops:=l.toArray) (W:=w) (Q:=Q) (g:=l.toArray.size - n) hLT (fun listed a F w' hw hF hf=>by
  have:=wpAny_of_seq (md:=.any) (Q':=Q) (l.drop n) n listed a w' (fun j=>by simp [List.getElem?_drop]) (by rw [hdl];exact hf.1) (hf.2 w' hw hF)
  rwa [hdl] at this) _ _ _ _ { w with drawn:=w.drawn+1 } (fun _ _ _ _=>trivial) ((Mod.refl [] w).drew) trivial H
 have hl2:ord.length+late.length+(l.toArray.size - n)=l.toArray.size:=by simp only [List.length_map] at hlen;omega
 rwa [hl2] at hfin
end
namespace Ch
section
variable {P:Program} {ops:Array Oper} {md:Region.Mode} {W:World} {L:Nat->Option (Value->World->Prop)}
def LateF (P:Program) (o:Oper) (a:Act) (W:World) (F:World->Prop) (T:Value->World->Prop):Prop :=
 ∀ w,Mod [] W w->F w->o.wp P a w (fun a' w'=>∃ v,a'=a.put o.dst v/\Mod [] w w'/\T v w') (fun _ _ _=>False)
theorem LateF.weak {o:Oper} {a:Act} {F F':World->Prop} {T:Value->World->Prop} (h:LateF P o a W F T) (hF:∀ w,F' w->F w):LateF P o a W F' T:=fun w hw hf=>h w hw (hF w hf)
theorem lateF_put {o:Oper} (hs:∀ cs b,o.op≠.select cs b) {a:Act} {d:Option Tmp} {v:Value} {F:World->Prop} {T:Value->World->Prop} (h1:∀ t,d=some t->t ∉ o.looksAt ops) (h2:∀ t,d=some t->o.dst≠some t)
  (h:LateF P o (a.put d v) W F T):LateF P o a W F T:=by
 intro w hw hF;have h3:=h w hw hF;unfold Oper.wp at *
 rw [execOp_put o hs a d v h1] at h3;have key:∀ (x:Value) w',(∃ u,(a.put d v).put o.dst x=(a.put d v).put o.dst u/\Mod [] w w'/\T u w')->∃ u,a.put o.dst x=a.put o.dst u/\Mod [] w w'/\T u w':=by
  rintro x w' ⟨u,e,m,t⟩;refine ⟨u,?_,m,t⟩;rw [Act.put_comm a v x h2,Act.put_comm a v u h2] at e;cases d with
  | none=>exact e
  | some t =>
   cases ho:o.dst with
   | none=>rfl
   | some s =>
    rw [ho] at e;have hne:s≠t:=fun hst=>h2 t rfl (by rw [ho,hst])
    have e2:=congrArg Act.tmps e;simp only [Act.put] at e2 ⊢;have e3:a.tmps.setIfInBounds s x=a.tmps.setIfInBounds s u:=by
     apply Array.ext_getElem?;intro k;have:=congrArg (fun z=>z[k]?) e2
     by_cases hk:t=k
     ·subst hk;rw [Array.getElem?_setIfInBounds_ne hne,Array.getElem?_setIfInBounds_ne hne]
     ·rwa [Array.getElem?_setIfInBounds_ne hk,Array.getElem?_setIfInBounds_ne hk] at this
    rw [e3]
 generalize (execOp a.eval o).run P w=r at *
 cases r with
 | ok n w' =>
  cases n <;> simp only [Oper.upon] at h3 ⊢
  case value u=>exact key _ _ h3
  case skip=>exact key _ _ h3
  case defer x =>
   obtain ⟨u,e,m,t⟩:=h3;have e2:=congrArg Act.defers e;exfalso;have hl:∀ (b:Act) (d:Option Tmp) (v:Value),(b.put d v).defers=b.defers:=fun b d v=>by cases d <;> rfl
   have e3:x::a.defers=a.defers:=by simpa only [hl] using e2
   have:=congrArg List.length e3;simp at this
  case enter f args =>
   refine Calls.mono h3 fun e w'' he=>?_
   cases e with
   | returned u=>exact key _ _ he
   | panicked c=>exact he.elim
   | outgrown=>obtain ⟨_,_,h⟩:=he;exact h.elim
  case row row args=>exact Rows.mono h3 fun u w'' he=>key _ _ he
 | halt x w'=>cases x <;> simp only [Oper.upon] at h3
theorem lateF_put' {o:Oper} (hs:∀ cs b,o.op≠.select cs b) {a:Act} {d:Option Tmp} {v:Value} {F:World->Prop} {T:Value->World->Prop} (h1:∀ t,d=some t->t ∉ o.looksAt ops) (h2:∀ t,d=some t->o.dst≠some t)
  (h:LateF P o a W F T):LateF P o (a.put d v) W F T:=by
 intro w hw hF;have h3:=h w hw hF;unfold Oper.wp at *
 rw [execOp_put o hs a d v h1];have key:∀ (x:Value) w',(∃ u,a.put o.dst x=a.put o.dst u/\Mod [] w w'/\T u w')->∃ u,(a.put d v).put o.dst x=(a.put d v).put o.dst u/\Mod [] w w'/\T u w':=by
  rintro x w' ⟨u,e,m,t⟩;exact ⟨u,by rw [Act.put_comm a v x h2,Act.put_comm a v u h2,e],m,t⟩
 generalize (execOp a.eval o).run P w=r at *
 cases r with
 | ok n w' =>
  cases n <;> simp only [Oper.upon] at h3 ⊢
  case value u=>exact key _ _ h3
  case skip=>exact key _ _ h3
  case defer x =>
   obtain ⟨u,e,m,t⟩:=h3;have e2:=congrArg Act.defers e;exfalso;have hl:∀ (b:Act) (d:Option Tmp) (v:Value),(b.put d v).defers=b.defers:=fun b d v=>by cases d <;> rfl
   have e3:x::a.defers=a.defers:=by simpa only [hl] using e2
   have:=congrArg List.length e3;simp at this
  case enter f args =>
   refine Calls.mono h3 fun e w'' he=>?_
   cases e with
   | returned u=>exact key _ _ he
   | panicked c=>exact he.elim
   | outgrown=>obtain ⟨_,_,h⟩:=he;exact h.elim
  case row row args=>exact Rows.mono h3 fun u w'' he=>key _ _ he
 | halt x w'=>cases x <;> simp only [Oper.upon] at h3
def mOp (P:Program) (ops:Array Oper) (W:World) (L:Nat->Option (Value->World->Prop)) (i:Nat) (K:Act->(World->Prop)->Prop) (a:Act) (F:World->Prop):Prop :=
 match ops[i]?,L i with
 | some o,none=>if Region.wanted o (yielded ops a.tmps) then ∃ v,Steady P o a W v/\K (a.put o.dst v) F else K (a.put o.dst undef) F
 | some o,some T=>o.guard=none/\LateF P o a W F T/\∀ v,K (a.put o.dst v) (fun w=>F w/\T v w)
 | none,_=>False
def wpAnyM (P:Program) (md:Region.Mode) (ops:Array Oper) (W:World) (L:Nat->Option (Value->World->Prop)) (n:Nat) (Fin:Array Bool->Act->(World->Prop)->Prop):Nat->Array Bool->Act->(World->Prop)->Prop
 | 0,listed,a,F=>Fin listed a F
 | f+1,listed,a,F=>Region.ready md ops listed≠[]/\∀ i∈Region.ready md ops listed,i<n/\mOp P ops W L i (wpAnyM P md ops W L n Fin f (listed.setIfInBounds i true)) a F
theorem wp_of_lateF {o:Oper} {a:Act} {F:World->Prop} {T:Value->World->Prop} {K:Act->World->Prop} {Q:Exit->Act->World->Prop} {w:World} (hw:Mod [] W w) (hF:F w) (h:LateF P o a W F T)
  (hK:∀ v w',Mod [] w w'->T v w'->K (a.put o.dst v) w'):o.wp P a w K Q:=by
 have h3:=h w hw hF;unfold Oper.wp at *
 generalize (execOp a.eval o).run P w=r at *
 cases r with
 | ok n w' =>
  cases n <;> simp only [Oper.upon] at h3 ⊢
  case value u=>obtain ⟨v,e,m,t⟩:=h3;rw [e];exact hK _ _ m t
  case skip=>obtain ⟨v,e,m,t⟩:=h3;rw [e];exact hK _ _ m t
  case defer d=>obtain ⟨v,e,m,t⟩:=h3;rw [e];exact hK _ _ m t
  case enter f args =>
   refine Calls.mono h3 fun e w'' he=>?_
   cases e with
   | returned u =>
    obtain ⟨v,e,m,t⟩:=he;show K (a.put o.dst u) w'';rw [e];exact hK _ _ m t
   | panicked c=>exact he.elim
   | outgrown=>obtain ⟨_,_,h⟩:=he;exact h.elim
  case row row args=>exact Rows.mono h3 fun u w'' he=>by obtain ⟨v,e,m,t⟩:=he;rw [e];exact hK _ _ m t
 | halt x w'=>cases x <;> simp only [Oper.upon] at h3
theorem wpOp_of_mOp {i:Nat} {a:Act} {F:World->Prop} {K:Act->(World->Prop)->Prop} {K':Act->World->Prop} {Q:Exit->Act->World->Prop} {w:World}
  (hT:∀ i T,L i=some T->∀ v,Stays (T v)) (hs:Stays F) (hw:Mod [] W w) (hF:F w) (h:∀ a F w',Mod [] W w'->Stays F->F w'->K a F->K' a w') (hh:mOp P ops W L i K a F):wpOp P ops Q i K' a w:=by
 unfold mOp at hh;unfold wpOp
 split at hh
 ·rename_i o ho hl;simp only [ho]
  split
  ·rename_i hwn;simp only [hwn,if_true] at hh;obtain ⟨v,h1,h2⟩:=hh;exact .inl (wp_of_steady hw h1 fun w' m=>h _ _ _ (hw.then m) hs (hs _ _ hF m) h2)
  ·rename_i hwn;simp only [hwn] at hh;exact h _ _ _ hw hs hF hh
 ·rename_i o T ho hl;obtain ⟨hg,h1,h2⟩:=hh;simp only [ho,Region.wanted,hg,if_true];exact .inl (wp_of_lateF hw hF h1 fun v w' m t=>h _ _ _ (hw.then m) (fun x y hx hm=>⟨hs _ _ hx.1 hm,hT i T hl v _ _ hx.2 hm⟩) ⟨hs _ _ hF m,t⟩ (h2 v))
 ·exact hh.elim
theorem wpAny_of_M {n g:Nat} {Fin:Array Bool->Act->(World->Prop)->Prop} {Q:Exit->Act->World->Prop} (hT:∀ i T,L i=some T->∀ v,Stays (T v))
  (hFin:∀ listed a F w,Mod [] W w->F w->Fin listed a F->wpAny P md ops Q g listed a w) :
  ∀ (f:Nat) (listed:Array Bool) (a:Act) (F:World->Prop) (w:World),Stays F->Mod [] W w->F w->wpAnyM P md ops W L n Fin f listed a F->wpAny P md ops Q (f+g) listed a w
 | 0,listed,a,F,w,_,hw,hF,h=>by rw [Nat.zero_add];exact hFin _ _ _ _ hw hF h
 | f+1,listed,a,F,w,hs,hw,hF,h=>by
  rw [show f+1+g=(f+g)+1 by omega];exact ⟨fun h0=>absurd h0 h.1,fun i hi=>wpOp_of_mOp hT hs hw hF (fun a' F' w' hw' hs' hF' h'=>wpAny_of_M hT hFin f _ a' F' w' hs' hw' hF' h') (h.2 i hi).2⟩
theorem YieldsS_mOp {i:Nat} {o:Oper} {v:Value} {a:Act} {F:World->Prop} (hi:ops[i]?=some o) (hl:L i=none) (hy:YieldsS P ops W o v a) {K:Act->(World->Prop)->Prop} (h:K (a.put o.dst v) F):mOp P ops W L i K a F:=by
 unfold mOp;simp only [hi,hl];rcases hy with ⟨hw,hv⟩ | ⟨hw,rfl⟩
 ·simp only [hw,if_true];exact ⟨v,hv,h⟩
 ·simp only [hw,Bool.false_eq_true,if_false];exact h
theorem mOp_put {j:Nat} {oi oj:Oper} {v:Value} (hj:ops[j]?=some oj) (hap:oi.apart ops oj=true)
  (hsi:∀ cs b,oi.op≠.select cs b) (hsj:∀ cs b,oj.op≠.select cs b) {K:Act->(World->Prop)->Prop} {a:Act} {F:World->Prop}
  (hy:YieldsS P ops W oi v a) (h:mOp P ops W L j K (a.put oi.dst v) F) :
  mOp P ops W L j (fun a' F'=>YieldsS P ops W oi v a'/\K (a'.put oi.dst v) F') a F:=by
 obtain ⟨h1,h2,h3⟩:=Oper.apart_spec hap;have h2':∀ d,oj.dst=some d->oi.dst≠some d:=fun d hd hi'=>h2 d hi' hd
 have keep:∀ (a:Act),YieldsS P ops W oi v a->∀ u,YieldsS P ops W oi v (a.put oj.dst u):=fun a hy u=>by
  unfold YieldsS at *
  rw [wanted_put oi a oj.dst u h3];exact hy.imp (fun hh=>⟨hh.1,late_put' hsi h3 h2' hh.2⟩) id
 unfold mOp at *
 cases hl:L j with
 | none =>
  simp only [hj,hl] at h ⊢;rw [wanted_put oj a oi.dst v h1] at h
  split
  ·rename_i hw;simp only [hw,if_true] at h;obtain ⟨u,hu,hn⟩:=h;exact ⟨u,late_put hsj h1 h2 hu,keep a hy u,by rw [<- Act.put_comm a v u h2];exact hn⟩
  ·rename_i hw;simp only [hw] at h;exact ⟨keep a hy _,by rw [<- Act.put_comm a v undef h2];exact h⟩
 | some T =>
  simp only [hj,hl] at h ⊢;exact ⟨h.1,lateF_put hsj h1 h2 h.2.1,fun u=>⟨keep a hy u,by rw [<- Act.put_comm a v u h2];exact h.2.2 u⟩⟩
theorem mOp_same {j:Nat} {a:Act} {F:World->Prop} {K K':Act->(World->Prop)->Prop} (h:∀ a F,K a F->K' a F) (hh:mOp P ops W L j K a F):mOp P ops W L j K' a F:=by
 unfold mOp at *
 split
 ·rename_i o ho hl;simp only [ho,hl] at hh
  split
  ·rename_i hw;simp only [hw,if_true] at hh;obtain ⟨v,h1,h2⟩:=hh;exact ⟨v,h1,h _ _ h2⟩
  ·rename_i hw;simp only [hw] at hh;exact h _ _ hh
 ·rename_i o T ho hl;simp only [ho,hl] at hh;exact ⟨hh.1,hh.2.1,fun v=>h _ _ (hh.2.2 v)⟩
 ·rename_i ho;simp only [ho] at hh
theorem wpAnyM_first {n i:Nat} {oi:Oper} {v:Value} {Fin:Array Bool->Act->(World->Prop)->Prop} (hi:ops[i]?=some oi) (hl:L i=none) (hsel:∀ (j:Nat) (o:Oper) cs b,ops[j]?=some o->o.op≠.select cs b)
  (ht:Region.tailB md ops n=true) (hin:i<n) (hdone:∀ listed a F,Fin listed a F->∀ j∈Region.ready md ops listed,n<=j) :
  ∀ (f:Nat) (listed:Array Bool) (a:Act) (F:World->Prop),HeadInv md ops n listed ->
   (∀ j oj,ops[j]?=some oj->j≠i->listed.getD j true=false->(∀ e∈oj.after,Region.binds md e=true->e.on≠i)->oi.apart ops oj=true) ->
   i∈Region.ready md ops listed->YieldsS P ops W oi v a ->
   wpAnyM P md ops W L n Fin f (listed.setIfInBounds i true) (a.put oi.dst v) F->wpAnyM P md ops W L n Fin (f+1) listed a F:=by
 intro f
 induction f with
 | zero =>
  intro listed a F inv _ hr hy H;have hun:=(mem_ready.1 hr).1;refine ⟨fun h=>(by rw [h] at hr;cases hr),fun j hj=>?_⟩;have hjn:=ready_lt ht inv hin hun hj;refine ⟨hjn,?_⟩
  by_cases hji:j=i
  ·subst hji;exact YieldsS_mOp hi hl hy H
  ·have:=hdone _ _ _ H j (ready_mono hj hji);omega
 | succ f ih =>
  intro listed a F inv hfree hr hy H;have hun:=(mem_ready.1 hr).1;refine ⟨fun h=>(by rw [h] at hr;cases hr),fun j hj=>?_⟩;have hjn:=ready_lt ht inv hin hun hj;refine ⟨hjn,?_⟩
  by_cases hji:j=i
  ·subst hji;exact YieldsS_mOp hi hl hy H
  ·have h1:=(H.2 j (ready_mono hj hji)).2;obtain ⟨hjun,oj,hoj,hall⟩:=mem_ready.1 hj;have hnot:∀ e∈oj.after,Region.binds md e=true->e.on≠i:=fun e he hb heq=>by
    have h1:=hall e he hb;rw [heq,getD_both hun] at h1;cases h1
   have h2:=mOp_put hoj (hfree j oj hoj hji hjun hnot) (fun cs b=>hsel i oi cs b hi) (fun cs b=>hsel j oj cs b hoj) hy h1;have hfree':∀ k ok,ops[k]?=some ok->k≠i->(listed.setIfInBounds j true).getD k true=false ->
     (∀ e∈ok.after,Region.binds md e=true->e.on≠i)->oi.apart ops ok=true:=fun k ok hk hki hun hno=>by
    refine hfree k ok hk hki ?_ hno
    by_cases hjk:j=k
    ·subst hjk;exact hjun
    ·rw [getD_set_ne true hjk] at hun;exact hun
   refine mOp_same (fun a' F' h3=>ih (listed.setIfInBounds j true) a' F' (inv.set hj hjn) hfree' (ready_mono hr (Ne.symm hji)) h3.1 ?_) h2;rw [Array.setIfInBounds_comm _ _ hji];exact h3.2
theorem wpAnyM_ord {n m:Nat} {late:List Nat} {Fin:Array Bool->Act->(World->Prop)->Prop} {F:World->Prop} {K:Act->Prop} (hsel:Region.noSelect ops=true)
  (ht:Region.tailB md ops n=true) (hdone:∀ listed a F,Fin listed a F->∀ j∈Region.ready md ops listed,n<=j) (hL:∀ i,late.contains i=false->L i=none)
  (hK:∀ a listed,HeadInv md ops n listed->Region.ordB md ops n late [] listed=true->K a->wpAnyM P md ops W L n Fin m listed a F) :
  ∀ (l:List Nat) (listed:Array Bool) (a:Act),HeadInv md ops n listed->Region.ordB md ops n late l listed=true->wpSteady P ops W K l a ->
   wpAnyM P md ops W L n Fin (l.length+m) listed a F
 | [],listed,a,inv,hB,h=>by rw [List.length_nil,Nat.zero_add];exact hK _ _ inv hB h
 | i::l,listed,a,inv,hB,h=>by
  simp only [Region.ordB,Bool.and_eq_true,decide_eq_true_eq,Bool.not_eq_true'] at hB;obtain ⟨⟨⟨⟨hin,hnl⟩,hr⟩,hf⟩,hB'⟩:=hB;have hr':i∈Region.ready md ops listed:=by simpa using hr
  unfold wpSteady at h;cases ho:ops[i]? with
  | none=>simp only [ho] at h
  | some o =>
   simp only [ho] at h;obtain ⟨v,hy,hk⟩:∃ v,YieldsS P ops W o v a/\wpSteady P ops W K l (a.put o.dst v):=by
    by_cases hw:Region.wanted o (yielded ops a.tmps)=true
    ·simp only [hw,if_true] at h;obtain ⟨v,h1,h2⟩:=h;exact ⟨v,.inl ⟨hw,h1⟩,h2⟩
    ·simp only [hw] at h;exact ⟨undef,.inr ⟨by simpa using hw,rfl⟩,h⟩
   rw [List.length_cons,show l.length+1+m=(l.length+m)+1 by omega];exact wpAnyM_first ho (hL i hnl) (Region.noSelect_spec hsel) ht hin hdone (l.length+m) listed a F inv (Region.free_spec ho hf) hr' hy
    (wpAnyM_ord hsel ht hdone hL hK l _ _ (inv.set hr' hin) hB' hk)
def wpChain (P:Program) (ops:Array Oper) (W:World) (E:Act->(World->Prop)->Prop):List (Nat×(Value->World->Prop))->Act->(World->Prop)->Prop
 | [],a,F=>E a F
 | p::l,a,F=>match ops[p.1]? with
  | none=>False
  | some o=>o.guard=none/\LateF P o a W F p.2/\∀ v,wpChain P ops W E l (a.put o.dst v) (fun w=>F w/\p.2 v w)
theorem wpChain_mono {E E':Act->(World->Prop)->Prop} (hE:∀ a F F',(∀ w,F' w->F w)->E a F->E' a F'):∀ (l:List (Nat×(Value->World->Prop))) (a:Act) (F F':World->Prop),(∀ w,F' w->F w)->wpChain P ops W E l a F->wpChain P ops W E' l a F'
 | [],_,_,_,hF,h=>hE _ _ _ hF h
 | p::l,a,F,F',hF,h=>by
  unfold wpChain at *
  split
  ·rename_i ho;simp only [ho] at h
  ·rename_i o ho;simp only [ho] at h;exact ⟨h.1,h.2.1.weak hF,fun v=>wpChain_mono hE l _ _ _ (fun w hw=>⟨hF w hw.1,hw.2⟩) (h.2.2 v)⟩
def chainC (md:Region.Mode) (ops:Array Oper):List Nat->Bool
 | i::j::l=>(match ops[j]? with | some o=>o.after.any fun e=>Region.binds md e && e.on == i | none=>false) && chainC md ops (j::l)
 | _=>true
def apartC (ops:Array Oper) (c late:List Nat):Bool:=c.all fun i=>late.all fun j=>match ops[i]?,ops[j]? with | some x,some y=>x.apart ops y | _,_=>false
theorem chain_take {E:Act->(World->Prop)->Prop} (hE:∀ a F F',(∀ w,F' w->F w)->E a F->E a F') (hsel:∀ (j:Nat) (o:Oper) cs b,ops[j]?=some o->o.op≠.select cs b) {i:Nat} {T:Value->World->Prop}
  (la:List (Nat×(Value->World->Prop))) (hap:lateApart ops (la.map (·.1))=true) (hm:(i,T)∈la) :
  ∀ (l:List (Nat×(Value->World->Prop))) (a:Act) (F:World->Prop),(∀ p∈l,∃ x y,ops[p.1]?=some x/\ops[i]?=some y/\x.apart ops y=true)->wpChain P ops W (wpLates P ops W E la) l a F ->
   ∃ o,ops[i]?=some o/\o.guard=none/\Late P o a W T/\∀ v,wpChain P ops W (wpLates P ops W E (la.filter fun p=>p.1 != i)) l (a.put o.dst v) (fun w=>F w/\T v w)
 | [],a,F,_,h=>wpLates_take hE hsel la a F hap hm h
 | p::l,a,F,hall,h=>by
  unfold wpChain at h;cases ho:ops[p.1]? with
  | none=>simp only [ho] at h
  | some o =>
   simp only [ho] at h;obtain ⟨hg,hla,hK⟩:=h;obtain ⟨x,y,hx,hy,hxy⟩:=hall p (by simp);rw [ho] at hx;cases hx;obtain ⟨h1,h2,h3⟩:=Oper.apart_spec hxy;have h2':∀ d,y.dst=some d->o.dst≠some d:=fun d hd ho'=>h2 d ho' hd
   have ih:=fun u=>chain_take hE hsel la hap hm l (a.put o.dst u) _ (fun q hq=>hall q (List.mem_cons_of_mem _ hq)) (hK u)
   obtain ⟨o',ho',hg',hl',_⟩:=ih undef;rw [hy] at ho';cases ho';refine ⟨y,hy,hg',late_put (hsel i y · · hy) h1 h2 hl',fun v=>?_⟩;unfold wpChain;simp only [ho];refine ⟨hg,(lateF_put' (hsel p.1 o · · ho) h3 h2' hla).weak (fun w hw=>hw.1),fun u=>?_⟩;obtain ⟨o',ho',_,_,hk⟩:=ih u;rw [hy] at ho';cases ho';rw [Act.put_comm a v u h2'];exact wpChain_mono (E:=wpLates P ops W E (la.filter fun p=>p.1 != i)) (E':=wpLates P ops W E (la.filter fun p=>p.1 != i)) (fun a F F' hF h=>wpLates_mono hE (la.filter fun p=>p.1 != i) a F F' hF h) l _ (fun w=>(F w/\p.2 u w)/\T v w) (fun w=>(F w/\T v w)/\p.2 u w) (fun w hw=>⟨⟨hw.1.1,hw.2⟩,hw.1.2⟩) (hk v)
theorem chain_head {listed:Array Bool}:∀ (l:List Nat) (i:Nat),chainC md ops (i::l)=true->(∀ k∈i::l,listed.getD k true=false)->∀ j∈l,j ∉ Region.ready md ops listed
 | [],_,_,_,j,hj=>by cases hj
 | k::l,i,hc,hun,j,hj=>by
  simp only [chainC,Bool.and_eq_true] at hc;rcases List.mem_cons.1 hj with rfl | hj'
  ·intro hr;obtain ⟨_,o,ho,hall⟩:=mem_ready.1 hr;have h1:=hc.1;rw [ho] at h1;obtain ⟨e,he,h2⟩:=Array.any_eq_true'.1 h1;simp only [Bool.and_eq_true,beq_iff_eq] at h2;have h3:=hall e he h2.1;rw [h2.2,getD_both (hun i (by simp))] at h3;cases h3
  ·exact chain_head l k hc.2 (fun q hq=>hun q (List.mem_cons_of_mem _ hq)) j hj'
theorem wpAnyM_chain {n g:Nat} {E:Act->(World->Prop)->Prop} (hE:∀ a F F',(∀ w,F' w->F w)->E a F->E a F') (hsel:∀ (j:Nat) (o:Oper) cs b,ops[j]?=some o->o.op≠.select cs b)
  (ht:Region.tailB md ops n=true) (hd:Region.downB md ops=true) (hn:n<=ops.size) (hseq:Region.seqB md ops g n (Region.canon ops n)=true) :
  ∀ (m:Nat) (lc l:List (Nat×(Value->World->Prop))) (listed:Array Bool) (a:Act) (F:World->Prop),lc.length+l.length=m->HeadInv md ops n listed->lateApart ops (l.map (·.1))=true ->
   chainC md ops (lc.map (·.1))=true->(∀ p∈lc,∀ q∈l,∃ x y,ops[p.1]?=some x/\ops[q.1]?=some y/\x.apart ops y=true)->(lc.map (·.1)).Nodup->(∀ p∈lc,p.1 ∉ l.map (·.1)) ->
   (∀ p∈lc,L p.1=some p.2)->(∀ p∈l,L p.1=some p.2)->(∀ i,i<n->(listed.getD i true=false↔(i∈lc.map (·.1)∨i∈l.map (·.1))))->(∀ p∈lc,p.1<n)->(∀ p∈l,p.1<n) ->
   wpChain P ops W (wpLates P ops W E l) lc a F ->
   wpAnyM P md ops W L n (fun listed' a' F'=>Region.seqB md ops g n listed'=true/\E a' F') m listed a F:=by
 intro m
 induction m with
 | zero =>
  intro lc l listed a F hlen inv _ _ _ _ _ _ _ hun _ _ h;obtain rfl:=List.length_eq_zero_iff.1 (show lc.length=0 by omega);obtain rfl:=List.length_eq_zero_iff.1 (show l.length=0 by omega);refine ⟨?_,h⟩;have:listed=Region.canon ops n:=by
   refine Array.ext (by simp [Region.canon,inv.size]) fun i hi hi'=>?_
   simp only [Region.canon,List.getElem_toArray,List.getElem_map,List.getElem_range]
   by_cases hin:i<n
   ·have:=(hun i hin).1;simp [hi] at this;simp [this,hin]
   ·have h2:=inv.tail i (by omega) (by rw [<- inv.size];exact hi);simp [hi] at h2;simp [h2,hin]
  rw [this];exact hseq
 | succ m ih =>
  intro lc l listed a F hlen inv hap hcc hac hnd hdj hLc hL hun hltc hlt h;obtain ⟨i0,hi0,hi0u⟩:∃ i,i<n/\listed.getD i true=false:=by
   cases lc with
   | cons p lc=>exact ⟨p.1,hltc p (by simp),(hun p.1 (hltc p (by simp))).2 (.inl (by simp))⟩
   | nil =>
    cases l with
    | cons p l=>exact ⟨p.1,hlt p (by simp),(hun p.1 (hlt p (by simp))).2 (.inr (by simp))⟩
    | nil=>simp at hlen
  refine ⟨ready_some hd i0 (by omega) hi0u,fun j hj=>?_⟩;have hjn:=ready_lt ht inv hi0 hi0u hj;refine ⟨hjn,?_⟩;have hsz:j<listed.size:=by rw [inv.size];omega
  rcases (hun j hjn).1 (mem_ready.1 hj).1 with hjl | hjl
  ·cases lc with
   | nil=>simp at hjl
   | cons p lc =>
    have hjp:j=p.1:=by
     rcases List.mem_cons.1 (by simpa using hjl:j∈p.1::lc.map (·.1)) with h1 | h1
     ·exact h1
     ·exact absurd hj (chain_head (lc.map (·.1)) p.1 (by simpa using hcc) (fun k hk=>(hun k (by
       obtain ⟨q,hq,rfl⟩:=List.mem_map.1 (by simpa using hk:k∈(p::lc).map (·.1))
       exact hltc q hq)).2 (.inl (by simpa using hk))) j h1)
    subst hjp;unfold wpChain at h;cases ho:ops[p.1]? with
    | none=>simp only [ho] at h
    | some o =>
     simp only [ho] at h;unfold mOp;simp only [ho,hLc p (by simp)];have hnd':=List.nodup_cons.1 (by simpa using hnd:(p.1::lc.map (·.1)).Nodup);refine ⟨h.1,h.2.1,fun v=>ih lc l _ _ _ (by simp at hlen;omega) (inv.set hj hjn) hap ?_ (fun q hq=>hac q (List.mem_cons_of_mem _ hq)) hnd'.2 (fun q hq=>hdj q (List.mem_cons_of_mem _ hq)) (fun q hq=>hLc q (List.mem_cons_of_mem _ hq)) hL ?_ (fun q hq=>hltc q (List.mem_cons_of_mem _ hq)) hlt (h.2.2 v)⟩
     ·cases lc with
      | nil=>rfl
      | cons q lc=>simp only [List.map_cons,chainC,Bool.and_eq_true] at hcc ⊢;exact hcc.2
     ·intro i hin
      by_cases hij:p.1=i
      ·subst hij;have h1:=hdj p (by simp);constructor
       ·intro h2;simp [hsz] at h2
       ·rintro (h2 | h2)
        ·exact absurd h2 hnd'.1
        ·exact absurd h2 h1
      ·rw [getD_set_ne true hij,hun i hin];simp only [List.map_cons,List.mem_cons];constructor
       ·rintro ((h2 | h2) | h2)
        ·exact absurd h2.symm hij
        ·exact .inl h2
        ·exact .inr h2
       ·rintro (h2 | h2)
        ·exact .inl (.inr h2)
        ·exact .inr h2
  ·obtain ⟨⟨j',T⟩,hp,hpj⟩:=List.mem_map.1 hjl;simp only at hpj;subst hpj;obtain ⟨o,ho,hg,hla,hk⟩:=chain_take hE hsel l hap hp lc a F (fun p hpc=>hac p hpc _ hp) h;unfold mOp;have hLj:L j'=some T:=hL _ hp;simp only [ho,hLj];refine ⟨hg,fun w hw _=>hla w hw,fun v=>ih lc _ _ _ _ ?_ (inv.set hj hjn) ?_ hcc ?_ hnd ?_ hLc ?_ ?_ hltc ?_ (hk v)⟩
   ·have:=length_filter_ne l j' (lateApart_nodup hap) hjl;omega
   ·exact lateApart_filter _ hap
   ·exact fun p hp q hq=>hac p hp q (List.mem_filter.1 hq).1
   ·intro p hpc h1;obtain ⟨q,hq,h2⟩:=List.mem_map.1 h1;exact hdj p hpc (List.mem_map.2 ⟨q,(List.mem_filter.1 hq).1,h2⟩)
   ·exact fun p hp=>hL p (List.mem_filter.1 hp).1
   ·intro i hin
    by_cases hij:j'=i
    ·subst hij;constructor
     ·intro h2;simp [hsz] at h2
     ·rintro (h2 | h2)
      ·obtain ⟨q,hq,h3⟩:=List.mem_map.1 h2;exact absurd (h3 ▸ hjl) (hdj q hq)
      ·obtain ⟨q,hq,h3⟩:=List.mem_map.1 h2;have h4:=(List.mem_filter.1 hq).2;rw [h3] at h4;simp at h4
    ·rw [getD_set_ne true hij,hun i hin];simp only [List.mem_map,List.mem_filter,bne_iff_ne,ne_eq];constructor
     ·rintro (h2 | ⟨q,hq,rfl⟩)
      ·exact .inl h2
      ·exact .inr ⟨q,⟨hq,fun h=>hij h.symm⟩,rfl⟩
     ·rintro (h2 | ⟨q,⟨hq,_⟩,rfl⟩)
      ·exact .inl h2
      ·exact .inr ⟨q,hq,rfl⟩
   ·exact fun p hp=>hlt p (List.mem_filter.1 hp).1
theorem wpSteady_mono {K K':Act->Prop} (h:∀ a,K a->K' a):∀ (l:List Nat) (a:Act),wpSteady P ops W K l a->wpSteady P ops W K' l a
 | [],a,hh=>h a hh
 | i::l,a,hh=>by
  unfold wpSteady at *
  split
  ·rename_i ho;simp only [ho] at hh
  ·rename_i o ho;simp only [ho] at hh
   split
   ·rename_i hw;simp only [hw,if_true] at hh;obtain ⟨v,h1,h2⟩:=hh;exact ⟨v,h1,wpSteady_mono h l _ h2⟩
   ·rename_i hw;simp only [hw] at hh;exact wpSteady_mono h l _ hh
theorem ready_below (hd:Region.downB md ops=true) {listed:Array Bool}:∀ (i:Nat),i<ops.size->listed.getD i true=false->∃ j,j∈Region.ready md ops listed/\j<=i:=by
 intro i
 induction i using Nat.strongRecOn with
 | _ i ih =>
  intro hi hun
  by_cases hex:∃ j,j<i/\listed.getD j true=false
  ·obtain ⟨j,hj,hjun⟩:=hex;obtain ⟨k,hk,hkj⟩:=ih j hj (by omega) hjun;exact ⟨k,hk,by omega⟩
  ·refine ⟨i,mem_ready.2 ⟨hun,ops[i],by simp [hi],fun e he hb=>?_⟩,Nat.le_refl _⟩;have h1:=List.all_eq_true.1 hd i (List.mem_range.2 hi);simp only [hi,getElem?_pos] at h1;have h2:=Array.all_eq_true_iff_forall_mem.1 h1 e he;simp only [hb,Bool.not_true,Bool.false_or,decide_eq_true_eq] at h2;cases hl:listed.getD e.on false with
   | true=>rfl
   | false =>
    have hsz:e.on<listed.size:=by
     rcases Nat.lt_or_ge i listed.size with h | h
     ·omega
     ·simp [Array.getElem?_eq_none h] at hun
    exact absurd ⟨e.on,h2,getD_in hsz hl⟩ hex
def dval (ops:Array Oper) (a:Act) (i:Nat):Option Value:=((ops[i]?).bind (·.dst)).bind (a.tmps[·]?)
structure Inv (ops:Array Oper) (A:List Nat) (listed:Array Bool) (a:Act) (w:World):Prop where
 is:∀ i∈A,listed.getD i true=true->∃ b,dval ops a i=some (.pointer (some ⟨b,0,none⟩))/\b<w.heap.size
 apart:∀ i∈A,∀ j∈A,i≠j->listed.getD i true=true->listed.getD j true=true->dval ops a i≠dval ops a j
def slotsB (ops:Array Oper) (A:List Nat) (size:Nat):Bool:=A.all fun i=>match ops[i]? with
 | some o=>(match o.dst with | some d=>decide (d<size) && (List.range ops.size).all (fun j=>j == i || match ops[j]? with | some p=>p.dst != some d | none=>true) | none=>false)
 | none=>false
def IsAlloc (P:Program) (o:Oper):Prop:=∃ cs t,∀ ρ w,(execOp ρ o).run P w=.ok (.value (.pointer (some ⟨w.heap.size,0,none⟩))) (w.alloc (.cells cs t))
theorem slots_get {A:List Nat} {size i:Nat} (h:slotsB ops A size=true) (hi:i∈A):∃ o d,ops[i]?=some o/\o.dst=some d/\d<size/\∀ j p,ops[j]?=some p->j≠i->p.dst≠some d:=by
 have h1:=List.all_eq_true.1 h i hi;cases ho:ops[i]? with
 | none=>rw [ho] at h1;cases h1
 | some o =>
  rw [ho] at h1;simp only at h1;cases hd:o.dst with
  | none=>rw [hd] at h1;cases h1
  | some d =>
   rw [hd] at h1;simp only [Bool.and_eq_true,decide_eq_true_eq] at h1;refine ⟨o,d,rfl,hd,h1.1,fun j p hj hji=>?_⟩;have h2:=List.all_eq_true.1 h1.2 j (List.mem_range.2 (Array.getElem?_eq_some_iff.1 hj).1);simp only [hj,Bool.or_eq_true,beq_iff_eq,hji,false_or] at h2;simpa using h2
theorem put_size (a:Act) (d:Option Tmp) (v:Value):(a.put d v).tmps.size=a.tmps.size:=by cases d <;> simp [Act.put]
theorem dval_put {A:List Nat} {size i j:Nat} {o:Oper} (h:slotsB ops A size=true) (hi:i∈A) (hj:ops[j]?=some o) (hji:j≠i) (a:Act) (v:Value):dval ops (a.put o.dst v) i=dval ops a i:=by
 obtain ⟨o',d,ho',hd,_,hall⟩:=slots_get h hi;have h1:=hall j o hj hji;unfold dval;rw [ho'];simp only [Option.bind_some,hd];cases ho:o.dst with
 | none=>rfl
 | some e =>
  have:e≠d:=fun he=>h1 (by rw [ho,he])
  simp [Act.put,Array.getElem?_setIfInBounds_ne this]
theorem dval_self {A:List Nat} {i:Nat} {o:Oper} {a:Act} (h:slotsB ops A a.tmps.size=true) (hi:i∈A) (ho:ops[i]?=some o) (v:Value):dval ops (a.put o.dst v) i=some v:=by
 obtain ⟨o',d,ho',hd,hs,_⟩:=slots_get h hi;rw [ho] at ho';obtain rfl:=Option.some.inj ho';unfold dval;rw [ho];simp [Act.put,hd,hs]
theorem Inv.step {A:List Nat} {size j:Nat} {listed:Array Bool} {a:Act} {w w':World} {o:Oper} (I:Inv ops A listed a w) (h:slotsB ops A size=true) (hj:ops[j]?=some o) (hjA:j ∉ A) (v:Value) (hs:w.heap.size<=w'.heap.size) :
  Inv ops A (listed.setIfInBounds j true) (a.put o.dst v) w':=by
 have hne:∀ i∈A,j≠i:=fun i hi he=>hjA (he ▸ hi)
 refine ⟨fun i hi hl=>?_,fun i hi k hk hik hl hl'=>?_⟩
 ·rw [getD_set_ne true (hne i hi)] at hl;rw [dval_put h hi hj (hne i hi)];obtain ⟨b,h1,h2⟩:=I.is i hi hl;exact ⟨b,h1,by omega⟩
 ·rw [getD_set_ne true (hne i hi)] at hl;rw [getD_set_ne true (hne k hk)] at hl';rw [dval_put h hi hj (hne i hi),dval_put h hk hj (hne k hk)];exact I.apart i hi k hk hik hl hl'
theorem Inv.alloc {A:List Nat} {j:Nat} {listed:Array Bool} {a:Act} {w:World} {o:Oper} (I:Inv ops A listed a w) (h:slotsB ops A a.tmps.size=true) (hj:ops[j]?=some o) (hjA:j∈A) (ob:Obj) :
  Inv ops A (listed.setIfInBounds j true) (a.put o.dst (.pointer (some ⟨w.heap.size,0,none⟩))) (w.alloc ob):=by
 have hsz:(w.alloc ob).heap.size=w.heap.size+1:=by simp
 have key:∀ i∈A,i≠j->(listed.setIfInBounds j true).getD i true=true->∃ b,dval ops (a.put o.dst (.pointer (some ⟨w.heap.size,0,none⟩))) i=some (.pointer (some ⟨b,0,none⟩))/\b<w.heap.size:=fun i hi hij hl=>by
  rw [getD_set_ne true (Ne.symm hij)] at hl;rw [dval_put h hi hj (Ne.symm hij)];exact I.is i hi hl
 refine ⟨fun i hi hl=>?_,fun i hi k hk hik hl hl'=>?_⟩
 ·by_cases hij:i=j
  ·subst hij;exact ⟨w.heap.size,dval_self h hi hj _,by omega⟩
  ·obtain ⟨b,h1,h2⟩:=key i hi hij hl;exact ⟨b,h1,by omega⟩
 ·by_cases hij:i=j
  ·subst hij;obtain ⟨b,h1,h2⟩:=key k hk (Ne.symm hik) hl';rw [dval_self h hi hj,h1];intro he;have:=Option.some.inj he;simp at this
   try omega
  ·by_cases hkj:k=j
   ·subst hkj;obtain ⟨b,h1,h2⟩:=key i hi hij hl;rw [dval_self h hk hj,h1];intro he;have:=Option.some.inj he;simp at this
    try omega
   ·rw [getD_set_ne true (Ne.symm hij)] at hl;rw [getD_set_ne true (Ne.symm hkj)] at hl';rw [dval_put h hi hj (Ne.symm hij),dval_put h hk hj (Ne.symm hkj)];exact I.apart i hi k hk hik hl hl'
theorem wpOp_of_mOpA {i:Nat} {a:Act} {F:World->Prop} {K:Act->(World->Prop)->Prop} {K':Act->World->Prop} {Q:Exit->Act->World->Prop} {w:World} {A:List Nat} {listed:Array Bool}
  (hT:∀ i T,L i=some T->∀ v,Stays (T v)) (hAl:∀ j∈A,(∃ T,L j=some T)/\∀ o,ops[j]?=some o->IsAlloc P o) (hsl:slotsB ops A a.tmps.size=true) (I:Inv ops A listed a w) (hs:Stays F) (hw:Mod [] W w) (hF:F w)
  (h:∀ a' F w',a'.tmps.size=a.tmps.size->Inv ops A (listed.setIfInBounds i true) a' w'->Mod [] W w'->Stays F->F w'->K a' F->K' a' w') (hh:mOp P ops W L i K a F):wpOp P ops Q i K' a w:=by
 unfold mOp at hh;unfold wpOp
 split at hh
 ·rename_i o ho hl;have hiA:i ∉ A:=fun hi=>by obtain ⟨⟨T,hT'⟩,_⟩:=hAl i hi;rw [hl] at hT';cases hT'
  simp only [ho]
  split
  ·rename_i hwn;simp only [hwn,if_true] at hh;obtain ⟨v,h1,h2⟩:=hh;exact .inl (wp_of_steady hw h1 fun w' m=>h _ _ _ (put_size _ _ _) (I.step hsl ho hiA v m.size) (hw.then m) hs (hs _ _ hF m) h2)
  ·rename_i hwn;simp only [hwn] at hh;exact h _ _ _ (put_size _ _ _) (I.step hsl ho hiA _ (Nat.le_refl _)) hw hs hF hh
 ·rename_i o T ho hl;obtain ⟨hg,h1,h2⟩:=hh;simp only [ho,Region.wanted,hg,if_true];left
  by_cases hiA:i∈A
  ·obtain ⟨cs,t,hr⟩:=(hAl i hiA).2 o ho;have h3:=h1 w hw hF;unfold Oper.wp at *
   rw [hr] at h3 ⊢;simp only [Oper.upon] at h3 ⊢;obtain ⟨v,e,m,t'⟩:=h3;refine h _ (fun w=>F w/\T v w) _ (put_size _ _ _) (I.alloc hsl ho hiA _) (hw.then m) (fun x y hx hm=>⟨hs _ _ hx.1 hm,hT i T hl v _ _ hx.2 hm⟩) ⟨hs _ _ hF m,t'⟩ ?_;rw [e];exact h2 v
  ·exact wp_of_lateF hw hF h1 fun v w' m t=>h _ (fun w=>F w/\T v w) _ (put_size _ _ _) (I.step hsl ho hiA v m.size) (hw.then m) (fun x y hx hm=>⟨hs _ _ hx.1 hm,hT i T hl v _ _ hx.2 hm⟩) ⟨hs _ _ hF m,t⟩ (h2 v)
 ·exact hh.elim
theorem wpAny_of_MA {n g:Nat} {Fin:Array Bool->Act->(World->Prop)->Prop} {Q:Exit->Act->World->Prop} {A:List Nat} (hT:∀ i T,L i=some T->∀ v,Stays (T v)) (hAl:∀ j∈A,(∃ T,L j=some T)/\∀ o,ops[j]?=some o->IsAlloc P o)
  (hFin:∀ listed a F w,Inv ops A listed a w->Mod [] W w->F w->Fin listed a F->wpAny P md ops Q g listed a w) :
  ∀ (f:Nat) (listed:Array Bool) (a:Act) (F:World->Prop) (w:World),slotsB ops A a.tmps.size=true->Inv ops A listed a w->Stays F->Mod [] W w->F w->wpAnyM P md ops W L n Fin f listed a F->wpAny P md ops Q (f+g) listed a w
 | 0,listed,a,F,w,_,I,_,hw,hF,h=>by rw [Nat.zero_add];exact hFin _ _ _ _ I hw hF h
 | f+1,listed,a,F,w,hsl,I,hs,hw,hF,h=>by
  rw [show f+1+g=(f+g)+1 by omega];exact ⟨fun h0=>absurd h0 h.1,fun i hi=>wpOp_of_mOpA hT hAl hsl I hs hw hF (fun a' F' w' hz I' hw' hs' hF' h'=>wpAny_of_MA hT hAl hFin f _ a' F' w' (by rw [hz];exact hsl) I' hs' hw' hF' h') (h.2 i hi).2⟩
def Dist (ops:Array Oper) (a:Act):List Nat->Prop
 | []=>True
 | i::l=>(∀ j∈l,dval ops a i≠dval ops a j)/\Dist ops a l
theorem Inv.dist {A:List Nat} {listed:Array Bool} {a:Act} {w:World} (I:Inv ops A listed a w) (hl:∀ i∈A,listed.getD i true=true):∀ l:List Nat,l.Nodup->(∀ i∈l,i∈A)->Dist ops a l
 | [],_,_=>trivial
 | i::l,hn,hs=>by
  obtain ⟨h1,h2⟩:=List.nodup_cons.1 hn;exact ⟨fun j hj=>I.apart i (hs i (by simp)) j (hs j (by simp [hj])) (fun he=>h1 (he ▸ hj)) (hl i (hs i (by simp))) (hl j (hs j (by simp [hj]))),I.dist hl l h2 fun k hk=>hs k (by simp [hk])⟩
def chainB (md:Region.Mode) (ops:Array Oper) (n:Nat) (ord c late:List Nat):Bool :=
 Region.noSelect ops && decide (n<=ops.size) && decide (ord.length+(c.length+late.length)=n) && late.all (fun i=>decide (i<n)) && c.all (fun i=>decide (i<n)) && Region.tailB md ops n && Region.downB md ops && Region.seqB md ops (ops.size - n) n (Region.canon ops n) &&
  lateApart ops late && Region.ordB md ops n (c++late) ord (Array.replicate ops.size false) && chainC md ops c && apartC ops c late && decide (c.Nodup) && c.all fun i=>!late.contains i
theorem wpAny_chain {Q:Exit->Act->World->Prop} {a:Act} {w:World} {l:List Oper} (n:Nat) (ord:List Nat) (c late:List (Nat×(Value->World->Prop)))
  (hB:chainB .any l.toArray n ord (c.map (·.1)) (late.map (·.1))=true) (hT:∀ p∈c++late,∀ v,Stays (p.2 v)) (hsl:slotsB l.toArray (late.map (·.1)) a.tmps.size=true) (hAl:∀ i∈late.map (·.1),∀ o,l.toArray[i]?=some o->IsAlloc P o)
  (h:wpSteady P l.toArray w (fun a'=>wpChain P l.toArray w (wpLates P l.toArray w (fun a'' F=>Dist l.toArray a'' (late.map (·.1))->∀ w',Mod [] w w'->F w'->wpList P l.toArray Q (l.drop n) a'' w') late) c a' (fun _=>True)) ord a) :
  wpAny P .any l.toArray Q l.toArray.size (Array.replicate l.toArray.size false) a { w with drawn:=w.drawn+1 }:=by
 simp only [chainB,Bool.and_eq_true,decide_eq_true_eq] at hB;obtain ⟨⟨⟨⟨⟨⟨⟨⟨⟨⟨⟨⟨⟨hsel,hn⟩,hlen⟩,hlt⟩,hltc⟩,ht⟩,hd⟩,hseq⟩,hap⟩,hord⟩,hcc⟩,hac⟩,hnd⟩,hdj⟩:=hB
 let L:Nat->Option (Value->World->Prop):=fun i=>((c++late).find? fun p=>p.1 == i).map (·.2)
 have hdj':∀ p∈c,p.1 ∉ late.map (·.1):=fun p hp=>by
  have:=List.all_eq_true.1 hdj p.1 (List.mem_map_of_mem hp);simpa using this
 have hnd2:((c++late).map (·.1)).Nodup:=by
  rw [List.map_append,List.nodup_append];refine ⟨hnd,lateApart_nodup hap,fun x hx y hy hxy=>?_⟩;obtain ⟨p,hp,rfl⟩:=List.mem_map.1 hx;exact hdj' p hp (hxy ▸ hy)
 have hLn:∀ i,(c.map (·.1)++late.map (·.1)).contains i=false->L i=none:=fun i hi=>by
  simp only [L,Option.map_eq_none_iff,List.find?_eq_none];intro p hp he;have:(c.map (·.1)++late.map (·.1)).contains i=true:=by
   rw [<- List.map_append];have h1:i∈(c++late).map (·.1):=(beq_iff_eq.1 he) ▸ List.mem_map_of_mem hp;simpa using h1
  rw [hi] at this;cases this
 have hLs:∀ p∈c++late,L p.1=some p.2:=fun p hp=>lookup_late (c++late) p hp hnd2
 have hLT:∀ i T,L i=some T->∀ v,Stays (T v):=fun i T hi v=>by
  simp only [L,Option.map_eq_some_iff] at hi;obtain ⟨p,hp,rfl⟩:=hi;exact hT p (List.mem_of_find?_eq_some hp) v
 have inv0:HeadInv .any l.toArray n (Array.replicate l.toArray.size false) :=
  ⟨by simp,fun j oj _ hl=>(by rw [getD_replicate_false] at hl;cases hl),fun t _ ht=>getD_in (by simpa using ht) (getD_replicate_false _ _)⟩
 have hE:∀ (a:Act) (F F':World->Prop),(∀ w,F' w->F w)->(Dist l.toArray a (late.map (·.1))->∀ w',Mod [] w w'->F w'->wpList P l.toArray Q (l.drop n) a w')->(Dist l.toArray a (late.map (·.1))->∀ w',Mod [] w w'->F' w'->wpList P l.toArray Q (l.drop n) a w') :=
  fun a F F' hF h hd w' hw hf=>h hd w' hw (hF w' hf)
 have hdl:(l.drop n).length=l.toArray.size - n:=by simp
 have H:=wpAnyM_ord (P:=P) (W:=w) (L:=L) (m:=c.length+late.length) (late:=c.map (·.1)++late.map (·.1)) (F:=fun _=>True)
  (Fin:=fun listed a F=>Region.seqB .any l.toArray (l.toArray.size - n) n listed=true/\(Dist l.toArray a (late.map (·.1))->∀ w',Mod [] w w'->F w'->wpList P l.toArray Q (l.drop n) a w'))
  hsel ht (fun listed a F hf=>seqB_ready hf.1) hLn (fun a listed inv hB hk=>by
   refine wpAnyM_chain hE (Region.noSelect_spec hsel) ht hd hn hseq (c.length+late.length) c late listed a _ rfl inv hap hcc (fun p hp q hq=>?_) hnd hdj' (fun p hp=>hLs p (by simp [hp])) (fun p hp=>hLs p (by simp [hp])) (fun i hi=>?_) (fun p hp=>?_) (fun p hp=>?_) hk
   ·have h1:=List.all_eq_true.1 (List.all_eq_true.1 hac p.1 (List.mem_map_of_mem hp)) q.1 (List.mem_map_of_mem hq)
    split at h1
    ·rename_i x y hx hy;exact ⟨x,y,hx,hy,h1⟩
    ·cases h1
   ·have:=List.all_eq_true.1 hB i (List.mem_range.2 hi);simp only [beq_iff_eq] at this;rw [Bool.eq_iff_iff] at this;simp only [beq_iff_eq,List.contains_iff_mem,List.mem_append] at this;exact this
   ·have:=List.all_eq_true.1 hltc p.1 (List.mem_map_of_mem hp);simpa using this
   ·have:=List.all_eq_true.1 hlt p.1 (List.mem_map_of_mem hp)
    simpa using this) ord _ a inv0 hord h
 have inv1:Inv l.toArray (late.map (·.1)) (Array.replicate l.toArray.size false) a { w with drawn:=w.drawn+1 }:=by
  have hf:∀ i∈late.map (·.1),(Array.replicate l.toArray.size false).getD i true=true->False:=fun i hi h1=>by
   have h2:=List.all_eq_true.1 hlt i hi;simp only [decide_eq_true_eq] at h2;rw [getD_in (by simp at hn ⊢;omega) (getD_replicate_false _ _)] at h1;cases h1
  exact ⟨fun i hi h1=>(hf i hi h1).elim,fun i hi _ _ _ h1=>(hf i hi h1).elim⟩
 have hfin:=wpAny_of_MA (P:=P) (md:=.any) (ops:=l.toArray) (W:=w) (Q:=Q) (g:=l.toArray.size - n) (A:=late.map (·.1)) hLT
  (fun j hj=>⟨by obtain ⟨p,hp,rfl⟩:=List.mem_map.1 hj;exact ⟨_,hLs p (by simp [hp])⟩,hAl j hj⟩) (fun listed a F w' I hw hF hf=>by
  have hdone:∀ i∈late.map (·.1),listed.getD i true=true:=fun i hi=>by
   have h2:=List.all_eq_true.1 hlt i hi;simp only [decide_eq_true_eq] at h2;cases hx:listed.getD i true with
   | true=>rfl
   | false =>
    obtain ⟨j,hj,hji⟩:=ready_below hd i (by omega) hx;have h3:=seqB_ready hf.1 j hj;omega
  have:=wpAny_of_seq (md:=.any) (Q':=Q) (l.drop n) n listed a w' (fun j=>by simp [List.getElem?_drop]) (by rw [hdl];exact hf.1) (hf.2 (I.dist hdone _ (lateApart_nodup hap) fun _ h=>h) w' hw hF)
  rwa [hdl] at this) _ _ _ _ { w with drawn:=w.drawn+1 } hsl inv1 (fun _ _ _ _=>trivial) ((Mod.refl [] w).drew) trivial H
 have hl2:ord.length+(c.length+late.length)+(l.toArray.size - n)=l.toArray.size:=by simp only [List.length_map] at hlen;omega
 rwa [hl2] at hfin
def waitsFor:List (Nat×Nat)->List Oper->List Oper
 | [],l=>l
 | p::ps,l=>waitsFor ps (waitFor p.1 p.2 l)
def floatsB (md:Region.Mode):List (Nat×Nat)->List Oper->Bool
 | [],_=>true
 | p::ps,l=>floatB md l.toArray p.1 p.2 && Region.noSelect l.toArray && decide (p.1<l.length) && decide (p.2<l.length) && floatsB md ps (waitFor p.1 p.2 l)
theorem wpAny_floats {Q:Exit->Act->World->Prop} (hQ:∀ c a d v w,Q (.panic c) (a.put d v) w->Q (.panic c) a w):∀ (ps:List (Nat×Nat)) (l:List Oper) (a:Act) (w:World),floatsB md ps l=true ->
  wpAny P md (waitsFor ps l).toArray Q (waitsFor ps l).toArray.size (Array.replicate (waitsFor ps l).toArray.size false) a w->wpAny P md l.toArray Q l.toArray.size (Array.replicate l.toArray.size false) a w
 | [],l,a,w,_,h=>h
 | p::ps,l,a,w,hB,h=>by
  simp only [floatsB,Bool.and_eq_true,decide_eq_true_eq] at hB;obtain ⟨⟨⟨⟨hf,hs⟩,ht⟩,hi⟩,hr⟩:=hB;have H:=wpAny_floats hQ ps (waitFor p.1 p.2 l) a w hr h;have e:(waitFor p.1 p.2 l).toArray.size=l.toArray.size:=by simp [wait_length]
  rw [e] at H;exact wpAny_float (wait_waits (List.getElem?_eq_getElem ht)) hf hs hQ _ _ _ _ (getD_in (by simpa using hi) (getD_replicate_false _ _)) H
structure WChain (P:Program) (ops:Array Oper) (W:World) (E:Act->(World->Prop)->Prop) (l:List (Nat×(Value->World->Prop))) (a:Act) (F:World->Prop):Prop where
 out:wpChain P ops W E l a F
theorem wp_region_chain {id:Nat} {Q:Exit->Act->World->Prop} {a:Act} {w:World} {l:List Oper} (ps:List (Nat×Nat)) (l':List Oper) (n:Nat) (mask:List Bool) (c late:List (Nat×(Value->World->Prop)))
  (hm:P.follows .mixedOrders=true) (hl:l'=waitsFor ps l)
  (hB:(chainB .any l'.toArray n (idxM 0 mask) (c.map (·.1)) (late.map (·.1)) && decide (mask.length<=l'.length) && floatsB .any ps l)=true) (hT:∀ p∈c++late,∀ v,Stays (p.2 v)) (hsl:slotsB l'.toArray (late.map (·.1)) a.tmps.size=true) (hAl:∀ i∈late.map (·.1),∀ o,l'.toArray[i]?=some o->IsAlloc P o)
  (hQ:∀ c a d v w,Q (.panic c) (a.put d v) w->Q (.panic c) a w)
  (h:WSteady P l'.toArray w (fun a'=>WChain P l'.toArray w (wpLates P l'.toArray w (fun a'' F=>Dist l'.toArray a'' (late.map (·.1))->∀ w',Mod [] w w'->F w'->wpList P l'.toArray Q (l'.drop n) a'' w') late) c a' (fun _=>True)) (pickM l' mask) a) :
  (Code.region id l.toArray true).wp P Q a w:=by
 simp only [Bool.and_eq_true,decide_eq_true_eq] at hB;refine wp_region_any hm ?_;refine wpAny_floats hQ ps l _ _ hB.2 ?_;rw [<- hl];have h2:=steady_of_list mask 0 l' a (by simp) hB.1.2 h.out;refine wpAny_chain n (idxM 0 mask) c late hB.1.1 hT hsl hAl ?_;exact wpSteady_mono (fun a h=>h.out) _ _ h2
theorem chain_end {E:Act->(World->Prop)->Prop} {a:Act} {F:World->Prop} (h:E a F):WChain P ops W E [] a F:=⟨h⟩
end
end Ch
theorem Own.left {w W:World} {l l':List (Nat×Array Value×TypeId)} (T:Own w W (l++l')):Own w W l :=
 ⟨T.mod,fun p hp=>T.blk p (List.mem_append.2 (.inl hp)),by have:=T.nodup;rw [List.map_append,List.nodup_append] at this;exact this.1⟩
theorem told_end {w W:World} {l:List (Nat×Array Value×TypeId)} {b:Nat} {x y:Value} {ty:TypeId} (T:Own w W l) (k:Nat) (hk:l[k]?=some (b,#[x,y],ty)) (u v:Value) :
  ((W.setCell ⟨b,0,none⟩ u).setCell ⟨b,1,none⟩ v).cell? ⟨b,0,none⟩=some u/\((W.setCell ⟨b,0,none⟩ u).setCell ⟨b,1,none⟩ v).cell? ⟨b,1,none⟩=some v/\Mod [] w ((W.setCell ⟨b,0,none⟩ u).setCell ⟨b,1,none⟩ v):=by
 have hkl:k<l.length:=(List.getElem?_eq_some_iff.1 hk).1;have T2:=(T.set k hk 0 u).set k (by rw [List.getElem?_set_self hkl]) 1 v;rw [List.set_set] at T2;have hb:Blk ((W.setCell ⟨b,0,none⟩ u).setCell ⟨b,1,none⟩ v) b #[u,v] ty:=T2.at k (by rw [List.getElem?_set_self hkl];rfl);exact ⟨hb.two.1,hb.two.2.1,T2.mod⟩
namespace Dm
section
variable {P:Program} {ops:Array Oper} {md:Region.Mode} {W:World} {D:List PanicEntry->World->Prop} {late:List Nat}
def Doom (P:Program) (o:Oper) (a:Act) (W:World) (D:List PanicEntry->World->Prop):Prop :=
 ∀ w,Mod [] W w->o.wp P a w (fun _ _=>False) (fun e _ w'=>∃ c,e=.panic c/\Mod [] W w'/\D c w')
theorem doom_put {o:Oper} (hs:∀ cs b,o.op≠.select cs b) {a:Act} {d:Option Tmp} {v:Value} (h1:∀ t,d=some t->t ∉ o.looksAt ops)
  (h:Doom P o (a.put d v) W D):Doom P o a W D:=by
 intro w hw;have h3:=h w hw;unfold Oper.wp at *
 rw [execOp_put o hs a d v h1] at h3;generalize (execOp a.eval o).run P w=r at *
 cases r with
 | ok n w' =>
  cases n <;> simp only [Oper.upon] at h3 ⊢
  case enter f args =>
   refine Calls.mono h3 fun e w'' he=>?_
   cases e with
   | returned u=>exact he.elim
   | panicked c=>exact he
   | outgrown=>obtain ⟨_,_,c,e,_⟩:=he;cases e
  case row row args=>exact Rows.mono h3 fun u w'' he=>he.elim
 | halt x w'=>cases x <;> simp only [Oper.upon] at h3 ⊢ <;> exact h3
theorem doom_put' {o:Oper} (hs:∀ cs b,o.op≠.select cs b) {a:Act} {d:Option Tmp} {v:Value} (h1:∀ t,d=some t->t ∉ o.looksAt ops)
  (h:Doom P o a W D):Doom P o (a.put d v) W D:=by
 intro w hw;have h3:=h w hw;unfold Oper.wp at *
 rw [execOp_put o hs a d v h1];generalize (execOp a.eval o).run P w=r at *
 cases r with
 | ok n w' =>
  cases n <;> simp only [Oper.upon] at h3 ⊢
  case enter f args =>
   refine Calls.mono h3 fun e w'' he=>?_
   cases e with
   | returned u=>exact he.elim
   | panicked c=>exact he
   | outgrown=>obtain ⟨_,_,c,e,_⟩:=he;cases e
  case row row args=>exact Rows.mono h3 fun u w'' he=>he.elim
 | halt x w'=>cases x <;> simp only [Oper.upon] at h3 ⊢ <;> exact h3
theorem wp_of_doom {o:Oper} {a:Act} {K:Act->World->Prop} {Q:Exit->Act->World->Prop} {w:World} (hw:Mod [] W w) (h:Doom P o a W D)
  (hQ:∀ c w',Mod [] W w'->D c w'->Q (.panic c) a w'):o.wp P a w K Q:=by
 have h3:=h w hw;unfold Oper.wp at *
 generalize (execOp a.eval o).run P w=r at *
 cases r with
 | ok n w' =>
  cases n <;> simp only [Oper.upon] at h3 ⊢
  case enter f args =>
   refine Calls.mono h3 fun e w'' he=>?_
   cases e with
   | returned u=>exact he.elim
   | panicked c=>obtain ⟨c',e,m,d⟩:=he;cases e;exact hQ _ _ m d
   | outgrown=>obtain ⟨_,_,c,e,_⟩:=he;cases e
  case row row args=>exact Rows.mono h3 fun u w'' he=>he.elim
 | halt x w'=>cases x <;> simp only [Oper.upon] at h3 ⊢ <;> (obtain ⟨c',e,m,d⟩:=h3;cases e;exact hQ _ _ m d)
def dOp (P:Program) (ops:Array Oper) (W:World) (D:List PanicEntry->World->Prop) (late:List Nat) (k i:Nat) (K:Act->Prop) (a:Act):Prop :=
 match ops[i]? with
 | some o=>if i=k then o.guard=none/\Doom P o a W D else if late.contains i then o.guard=none/\∀ v,K (a.put o.dst v) else if Region.wanted o (yielded ops a.tmps) then ∃ v,Steady P o a W v/\K (a.put o.dst v) else K (a.put o.dst undef)
 | none=>False
def wpAnyD (P:Program) (md:Region.Mode) (ops:Array Oper) (W:World) (D:List PanicEntry->World->Prop) (late:List Nat) (k:Nat):Nat->Array Bool->Act->Prop
 | 0,_,_=>False
 | f+1,listed,a=>Region.ready md ops listed≠[]/\∀ i∈Region.ready md ops listed,dOp P ops W D late k i (wpAnyD P md ops W D late k f (listed.setIfInBounds i true)) a
theorem dOp_put {k j:Nat} {oi oj:Oper} {v:Value} (hj:ops[j]?=some oj) (hap:oi.apart ops oj=true)
  (hsi:∀ cs b,oi.op≠.select cs b) (hsj:∀ cs b,oj.op≠.select cs b) {K:Act->Prop} {a:Act}
  (hy:YieldsS P ops W oi v a) (h:dOp P ops W D late k j K (a.put oi.dst v)) :
  dOp P ops W D late k j (fun a'=>YieldsS P ops W oi v a'/\K (a'.put oi.dst v)) a:=by
 obtain ⟨h1,h2,h3⟩:=Oper.apart_spec hap
 by_cases hjk:j=k
 ·subst hjk;unfold dOp at *
  simp only [hj,if_true] at h ⊢;exact ⟨h.1,doom_put hsj h1 h.2⟩
 ·by_cases hjl:late.contains j=true
  ·unfold dOp at *
   simp only [hj,if_neg hjk,if_pos hjl] at h ⊢;have h2':∀ d,oj.dst=some d->oi.dst≠some d:=fun d hd hi'=>h2 d hi' hd
   refine ⟨h.1,fun u=>⟨?_,by rw [<- Act.put_comm a v u h2];exact h.2 u⟩⟩;unfold YieldsS at *
   rw [wanted_put oi a oj.dst u h3];exact hy.imp (fun hh=>⟨hh.1,late_put' hsi h3 h2' hh.2⟩) id
  ·have h':mOp P ops W (fun _=>none) j (fun a _=>K a) (a.put oi.dst v) (fun _=>True):=by
    unfold dOp at h;unfold mOp;simp only [hj,if_neg hjk,if_neg hjl] at h ⊢;exact h
   have h2:=mOp_put (L:=fun _=>none) hj hap hsi hsj hy h';unfold mOp at h2;unfold dOp;simp only [hj,if_neg hjk,if_neg hjl] at h2 ⊢;exact h2
theorem dOp_same {k j:Nat} {a:Act} {K K':Act->Prop} (h:∀ a,K a->K' a) (hh:dOp P ops W D late k j K a):dOp P ops W D late k j K' a:=by
 unfold dOp at *
 split
 ·rename_i o ho;simp only [ho] at hh
  split
  ·rename_i hjk;rw [if_pos hjk] at hh;exact hh
  ·rename_i hjk;rw [if_neg hjk] at hh
   split
   ·rename_i hjl;rw [if_pos hjl] at hh;exact ⟨hh.1,fun v=>h _ (hh.2 v)⟩
   ·rename_i hjl;rw [if_neg hjl] at hh
    split
    ·rename_i hw;rw [if_pos hw] at hh;obtain ⟨v,h1,h2⟩:=hh;exact ⟨v,h1,h _ h2⟩
    ·rename_i hw;rw [if_neg hw] at hh;exact h _ hh
 ·rename_i ho;simp only [ho] at hh
theorem wpAnyD_first {k i:Nat} {oi:Oper} {v:Value} (hi:ops[i]?=some oi) (hik:i≠k) (hil:late.contains i=false) (hsel:∀ (j:Nat) (o:Oper) cs b,ops[j]?=some o->o.op≠.select cs b) :
  ∀ (f:Nat) (listed:Array Bool) (a:Act),
   (∀ j oj,ops[j]?=some oj->j≠i->listed.getD j true=false->(∀ e∈oj.after,Region.binds md e=true->e.on≠i)->oi.apart ops oj=true) ->
   i∈Region.ready md ops listed->YieldsS P ops W oi v a ->
   wpAnyD P md ops W D late k f (listed.setIfInBounds i true) (a.put oi.dst v)->wpAnyD P md ops W D late k (f+1) listed a:=by
 intro f
 induction f with
 | zero=>intro _ _ _ _ _ H;exact H.elim
 | succ f ih =>
  intro listed a hfree hr hy H;have hun:=(mem_ready.1 hr).1;refine ⟨fun h=>(by rw [h] at hr;cases hr),fun j hj=>?_⟩
  by_cases hji:j=i
  ·subst hji;unfold dOp;simp only [hi,if_neg hik,hil,Bool.false_eq_true,if_false];rcases hy with ⟨hw,hv⟩ | ⟨hw,rfl⟩
   ·rw [if_pos hw];exact ⟨v,hv,H⟩
   ·rw [if_neg (by rw [hw];exact Bool.false_ne_true)];exact H
  ·have h1:=H.2 j (ready_mono hj hji);obtain ⟨hjun,oj,hoj,hall⟩:=mem_ready.1 hj;have hnot:∀ e∈oj.after,Region.binds md e=true->e.on≠i:=fun e he hb heq=>by
    have h1:=hall e he hb;rw [heq,getD_both hun] at h1;cases h1
   have h2:=dOp_put hoj (hfree j oj hoj hji hjun hnot) (fun cs b=>hsel i oi cs b hi) (fun cs b=>hsel j oj cs b hoj) hy h1;have hfree':∀ k ok,ops[k]?=some ok->k≠i->(listed.setIfInBounds j true).getD k true=false ->
     (∀ e∈ok.after,Region.binds md e=true->e.on≠i)->oi.apart ops ok=true:=fun k ok hk hki hun hno=>by
    refine hfree k ok hk hki ?_ hno
    by_cases hjk:j=k
    ·subst hjk;exact hjun
    ·rw [getD_set_ne true hjk] at hun;exact hun
   refine dOp_same (fun a' h3=>ih (listed.setIfInBounds j true) a' hfree' (ready_mono hr (Ne.symm hji)) h3.1 ?_) h2;rw [Array.setIfInBounds_comm _ _ hji];exact h3.2
def endB (md:Region.Mode) (ops:Array Oper) (late:List Nat) (k:Nat):Nat->Array Bool->Bool
 | 0,_=>false
 | f+1,listed=>(Region.ready md ops listed).contains k && (Region.ready md ops listed).all fun j=>j == k || (late.contains j && endB md ops late k f (listed.setIfInBounds j true))
def lateB (ops:Array Oper) (late:List Nat) (k:Nat):Bool:=late.all fun j=>match ops[j]?,ops[k]? with | some x,some y=>x.guard.isNone && x.apart ops y | _,_=>false
theorem wpAnyD_end {k:Nat} {ok:Oper} (hk:ops[k]?=some ok) (hg:ok.guard=none) (hsel:Region.noSelect ops=true) (hlb:lateB ops late k=true) :
  ∀ (f:Nat) (listed:Array Bool) (a:Act),endB md ops late k f listed=true->Doom P ok a W D->wpAnyD P md ops W D late k f listed a
 | 0,_,_,hB,_=>by cases hB
 | f+1,listed,a,hB,h=>by
  simp only [endB,Bool.and_eq_true,List.all_eq_true,Bool.or_eq_true,beq_iff_eq] at hB;refine ⟨fun h0=>by rw [h0] at hB;simp at hB,fun j hj=>?_⟩
  by_cases hjk:j=k
  ·subst hjk;unfold dOp;simp only [hk,if_true];exact ⟨hg,h⟩
  ·obtain ⟨hjl,hB'⟩:=(hB.2 j hj).resolve_left hjk;obtain ⟨_,oj,hoj,_⟩:=mem_ready.1 hj;have h1:=List.all_eq_true.1 hlb j (by simpa using hjl);simp only [hoj,hk,Bool.and_eq_true] at h1;obtain ⟨a1,a2,a3⟩:=Oper.apart_spec h1.2;unfold dOp;simp only [hoj,if_neg hjk,if_pos hjl];exact ⟨by simpa using h1.1,fun v=>wpAnyD_end hk hg hsel hlb f _ _ hB' (doom_put' (fun cs b=>Region.noSelect_spec hsel k ok cs b hk) a1 h)⟩
def ordD (md:Region.Mode) (ops:Array Oper) (late:List Nat) (k:Nat):List Nat->Array Bool->Bool
 | [],listed=>endB md ops late k (late.length+1) listed
 | i::l,listed=>decide (i≠k) && !late.contains i && (Region.ready md ops listed).contains i && Region.free md ops listed i && ordD md ops late k l (listed.setIfInBounds i true)
theorem wpAnyD_ord {k:Nat} {ok:Oper} (hk:ops[k]?=some ok) (hg:ok.guard=none) (hsel:Region.noSelect ops=true) (hlb:lateB ops late k=true) :
  ∀ (l:List Nat) (listed:Array Bool) (a:Act),ordD md ops late k l listed=true->wpSteady P ops W (fun a=>Doom P ok a W D) l a->wpAnyD P md ops W D late k (l.length+(late.length+1)) listed a
 | [],listed,a,hB,h=>by
  rw [List.length_nil,Nat.zero_add];exact wpAnyD_end hk hg hsel hlb _ _ _ hB h
 | i::l,listed,a,hB,h=>by
  simp only [ordD,Bool.and_eq_true,decide_eq_true_eq,Bool.not_eq_true'] at hB;obtain ⟨⟨⟨⟨hik,hil⟩,hr⟩,hf⟩,hB'⟩:=hB;have hr':i∈Region.ready md ops listed:=by simpa using hr
  unfold wpSteady at h;cases ho:ops[i]? with
  | none=>simp only [ho] at h
  | some o =>
   simp only [ho] at h;obtain ⟨v,hy,hk'⟩:∃ v,YieldsS P ops W o v a/\wpSteady P ops W (fun a=>Doom P ok a W D) l (a.put o.dst v):=by
    by_cases hw:Region.wanted o (yielded ops a.tmps)=true
    ·simp only [hw,if_true] at h;obtain ⟨v,h1,h2⟩:=h;exact ⟨v,.inl ⟨hw,h1⟩,h2⟩
    ·simp only [hw] at h;exact ⟨undef,.inr ⟨by simpa using hw,rfl⟩,h⟩
   rw [List.length_cons,show l.length+1+(late.length+1)=(l.length+(late.length+1))+1 by omega];exact wpAnyD_first ho hik hil (Region.noSelect_spec hsel) _ listed a (Region.free_spec ho hf) hr' hy (wpAnyD_ord hk hg hsel hlb l _ _ hB' hk')
structure Good (ops:Array Oper) (a0 a:Act):Prop where
 defers:a.defers=a0.defers
 tmps:∀ t:Tmp,(∀ (i:Nat) (o:Oper),ops[i]?=some o->o.dst≠some t)->a.tmps[t]?=a0.tmps[t]?
theorem Good.put {a0 a:Act} (h:Good ops a0 a) {i:Nat} {o:Oper} (ho:ops[i]?=some o) (v:Value):Good ops a0 (a.put o.dst v):=by
 refine ⟨?_,fun t ht=>?_⟩
 ·rw [<- h.defers];cases o.dst <;> rfl
 ·rw [<- h.tmps t ht];have:=ht i o ho;cases hd:o.dst with
  | none=>rfl
  | some s =>
   rw [hd] at this;simp only [Act.put];exact Array.getElem?_setIfInBounds_ne (fun e=>this (by rw [e]))
theorem Good.slot {a0 a:Act} (h:Good ops a0 a) (t:Tmp) (ht:(ops.all fun o=>o.dst != some t)=true):a.tmps[t]?=a0.tmps[t]?:=by
 refine h.tmps t fun i o ho=>?_
 have:=Array.all_eq_true_iff_forall_mem.1 ht o (Array.mem_of_getElem? ho);simpa using this
theorem wpAny_of_D {k:Nat} {Q:Exit->Act->World->Prop} {a0:Act} {g:Nat} (hQ:∀ c a w',Good ops a0 a->Mod [] W w'->D c w'->Q (.panic c) a w') (hAl:∀ i,late.contains i=true->∀ o,ops[i]?=some o->Ch.IsAlloc P o) :
  ∀ (f:Nat) (listed:Array Bool) (a:Act) (w:World),Mod [] W w->Good ops a0 a->wpAnyD P md ops W D late k f listed a->wpAny P md ops Q (f+g) listed a w
 | 0,_,_,_,_,_,h=>h.elim
 | f+1,listed,a,w,hw,hG,h=>by
  rw [show f+1+g=(f+g)+1 by omega];refine ⟨fun h0=>absurd h0 h.1,fun i hi=>?_⟩;have hh:=h.2 i hi;unfold dOp at hh;unfold wpOp
  split at hh
  ·rename_i o ho;simp only [ho]
   split at hh
   ·rename_i hik;obtain ⟨hg,hd⟩:=hh;simp only [Region.wanted,hg,if_true];exact .inl (wp_of_doom hw hd fun c w' m d=>hQ c a w' hG m d)
   ·split at hh
    ·rename_i hil;obtain ⟨hg,hv⟩:=hh;simp only [Region.wanted,hg,if_true];obtain ⟨cs,t,hrun⟩:=hAl i hil o ho;refine .inl ?_;unfold Oper.wp;rw [hrun a.eval w];exact wpAny_of_D hQ hAl f _ _ _ (hw.alloc _) (hG.put ho _) (hv _)
    ·split at hh
     ·rename_i hwn;rw [if_pos hwn];obtain ⟨v,h1,h2⟩:=hh;exact .inl (wp_of_steady hw h1 fun w' m=>wpAny_of_D hQ hAl f _ _ _ (hw.then m) (hG.put ho v) h2)
     ·rename_i hwn;rw [if_neg hwn];exact wpAny_of_D hQ hAl f _ _ _ hw (hG.put ho undef) hh
  ·exact hh.elim
theorem wp_region_doom {id:Nat} {Q:Exit->Act->World->Prop} {a:Act} {w:World} {l:List Oper} (mask:List Bool) (late:List Nat) (k:Nat) (D:List PanicEntry->World->Prop)
  (hm:P.follows .mixedOrders=true) {ok:Oper} (hk:l.toArray[k]?=some ok) (hg:ok.guard=none)
  (hB:(Region.noSelect l.toArray && ordD .any l.toArray late k (idxM 0 mask) (Array.replicate l.toArray.size false) && decide ((idxM 0 mask).length+(late.length+1)<=l.length) && decide (mask.length<=l.length) && lateB l.toArray late k)=true)
  (hAl:∀ i∈late,∀ o,l.toArray[i]?=some o->Ch.IsAlloc P o)
  (hQ:∀ c a' w',Good l.toArray a a'->Mod [] w w'->D c w'->Q (.panic c) a' w')
  (h:WSteady P l.toArray w (fun a'=>Doom P ok a' w D) (pickM l mask) a) :
  (Code.region id l.toArray true).wp P Q a w:=by
 simp only [Bool.and_eq_true,decide_eq_true_eq] at hB;obtain ⟨⟨⟨⟨hsel,hord⟩,hlen⟩,hml⟩,hlb⟩:=hB;have H:=wpAnyD_ord (P:=P) (W:=w) (D:=D) hk hg hsel hlb (idxM 0 mask) _ a hord (steady_of_list mask 0 l a (by simp) hml h.out);refine wp_region_any hm ?_;have:=wpAny_of_D (Q:=Q) (a0:=a) (g:=l.length - ((idxM 0 mask).length+(late.length+1))) hQ (fun i hi=>hAl i (by simpa using hi)) _ _ _ { w with drawn:=w.drawn+1 } ((Mod.refl [] w).drew) ⟨rfl,fun _ _=>rfl⟩ H;rw [show (idxM 0 mask).length+(late.length+1)+(l.length - ((idxM 0 mask).length+(late.length+1)))=l.toArray.size by simp;omega] at this;exact this
end
end Dm
namespace Sq
abbrev Fact:=Value->World->Prop
section
variable {P:Program} {ops:Array Oper} {md:Region.Mode} {W:World} {L:Nat->Option Fact}
def mOp (P:Program) (ops:Array Oper) (W:World) (L:Nat->Option (Value->World->Prop)) (i:Nat) (K:Act->(World->Prop)->Prop) (a:Act) (F:World->Prop):Prop :=
 match ops[i]?,L i with
 | some o,none=>if Region.wanted o (yielded ops a.tmps) then ∃ v,Steady P o a W v/\K (a.put o.dst v) F else K (a.put o.dst undef) F
 | some o,some T=>o.guard=none/\Ch.LateF P o a W F T/\∀ v,(∃ w,F w/\T v w)->K (a.put o.dst v) (fun w=>F w/\T v w)
 | none,_=>False
def wpAnyM (P:Program) (md:Region.Mode) (ops:Array Oper) (W:World) (L:Nat->Option (Value->World->Prop)) (n:Nat) (Fin:Array Bool->Act->(World->Prop)->Prop):Nat->Array Bool->Act->(World->Prop)->Prop
 | 0,listed,a,F=>Fin listed a F
 | f+1,listed,a,F=>Region.ready md ops listed≠[]/\∀ i∈Region.ready md ops listed,i<n/\mOp P ops W L i (wpAnyM P md ops W L n Fin f (listed.setIfInBounds i true)) a F
theorem wpOp_of_mOp {i:Nat} {a:Act} {F:World->Prop} {K:Act->(World->Prop)->Prop} {K':Act->World->Prop} {Q:Exit->Act->World->Prop} {w:World}
  (hT:∀ i T,L i=some T->∀ v,Stays (T v)) (hs:Stays F) (hw:Mod [] W w) (hF:F w) (h:∀ a F w',Mod [] W w'->Stays F->F w'->K a F->K' a w') (hh:mOp P ops W L i K a F):wpOp P ops Q i K' a w:=by
 unfold mOp at hh;unfold wpOp
 split at hh
 ·rename_i o ho hl;simp only [ho]
  split
  ·rename_i hwn;simp only [hwn,if_true] at hh;obtain ⟨v,h1,h2⟩:=hh;exact .inl (wp_of_steady hw h1 fun w' m=>h _ _ _ (hw.then m) hs (hs _ _ hF m) h2)
  ·rename_i hwn;simp only [hwn] at hh;exact h _ _ _ hw hs hF hh
 ·rename_i o T ho hl;obtain ⟨hg,h1,h2⟩:=hh;simp only [ho,Region.wanted,hg,if_true];exact .inl (Ch.wp_of_lateF hw hF h1 fun v w' m t=>h _ _ _ (hw.then m) (fun x y hx hm=>⟨hs _ _ hx.1 hm,hT i T hl v _ _ hx.2 hm⟩) ⟨hs _ _ hF m,t⟩ (h2 v ⟨w',hs _ _ hF m,t⟩))
 ·exact hh.elim
theorem wpAny_of_M {n g:Nat} {Fin:Array Bool->Act->(World->Prop)->Prop} {Q:Exit->Act->World->Prop} (hT:∀ i T,L i=some T->∀ v,Stays (T v))
  (hFin:∀ listed a F w,Mod [] W w->F w->Fin listed a F->wpAny P md ops Q g listed a w) :
  ∀ (f:Nat) (listed:Array Bool) (a:Act) (F:World->Prop) (w:World),Stays F->Mod [] W w->F w->wpAnyM P md ops W L n Fin f listed a F->wpAny P md ops Q (f+g) listed a w
 | 0,listed,a,F,w,_,hw,hF,h=>by rw [Nat.zero_add];exact hFin _ _ _ _ hw hF h
 | f+1,listed,a,F,w,hs,hw,hF,h=>by
  rw [show f+1+g=(f+g)+1 by omega];exact ⟨fun h0=>absurd h0 h.1,fun i hi=>wpOp_of_mOp hT hs hw hF (fun a' F' w' hw' hs' hF' h'=>wpAny_of_M hT hFin f _ a' F' w' hs' hw' hF' h') (h.2 i hi).2⟩
theorem YieldsS_mOp {i:Nat} {o:Oper} {v:Value} {a:Act} {F:World->Prop} (hi:ops[i]?=some o) (hl:L i=none) (hy:YieldsS P ops W o v a) {K:Act->(World->Prop)->Prop} (h:K (a.put o.dst v) F):mOp P ops W L i K a F:=by
 unfold mOp;simp only [hi,hl];rcases hy with ⟨hw,hv⟩ | ⟨hw,rfl⟩
 ·simp only [hw,if_true];exact ⟨v,hv,h⟩
 ·simp only [hw,Bool.false_eq_true,if_false];exact h
theorem mOp_put {j:Nat} {oi oj:Oper} {v:Value} (hj:ops[j]?=some oj) (hap:oi.apart ops oj=true)
  (hsi:∀ cs b,oi.op≠.select cs b) (hsj:∀ cs b,oj.op≠.select cs b) {K:Act->(World->Prop)->Prop} {a:Act} {F:World->Prop}
  (hy:YieldsS P ops W oi v a) (h:mOp P ops W L j K (a.put oi.dst v) F) :
  mOp P ops W L j (fun a' F'=>YieldsS P ops W oi v a'/\K (a'.put oi.dst v) F') a F:=by
 obtain ⟨h1,h2,h3⟩:=Oper.apart_spec hap;have h2':∀ d,oj.dst=some d->oi.dst≠some d:=fun d hd hi'=>h2 d hi' hd
 have keep:∀ (a:Act),YieldsS P ops W oi v a->∀ u,YieldsS P ops W oi v (a.put oj.dst u):=fun a hy u=>by
  unfold YieldsS at *
  rw [wanted_put oi a oj.dst u h3];exact hy.imp (fun hh=>⟨hh.1,late_put' hsi h3 h2' hh.2⟩) id
 unfold mOp at *
 cases hl:L j with
 | none =>
  simp only [hj,hl] at h ⊢;rw [wanted_put oj a oi.dst v h1] at h
  split
  ·rename_i hw;simp only [hw,if_true] at h;obtain ⟨u,hu,hn⟩:=h;exact ⟨u,late_put hsj h1 h2 hu,keep a hy u,by rw [<- Act.put_comm a v u h2];exact hn⟩
  ·rename_i hw;simp only [hw] at h;exact ⟨keep a hy _,by rw [<- Act.put_comm a v undef h2];exact h⟩
 | some T =>
  simp only [hj,hl] at h ⊢;exact ⟨h.1,Ch.lateF_put hsj h1 h2 h.2.1,fun u hu=>⟨keep a hy u,by rw [<- Act.put_comm a v u h2];exact h.2.2 u hu⟩⟩
theorem mOp_same {j:Nat} {a:Act} {F:World->Prop} {K K':Act->(World->Prop)->Prop} (h:∀ a F,K a F->K' a F) (hh:mOp P ops W L j K a F):mOp P ops W L j K' a F:=by
 unfold mOp at *
 split
 ·rename_i o ho hl;simp only [ho,hl] at hh
  split
  ·rename_i hw;simp only [hw,if_true] at hh;obtain ⟨v,h1,h2⟩:=hh;exact ⟨v,h1,h _ _ h2⟩
  ·rename_i hw;simp only [hw] at hh;exact h _ _ hh
 ·rename_i o T ho hl;simp only [ho,hl] at hh;exact ⟨hh.1,hh.2.1,fun v hv=>h _ _ (hh.2.2 v hv)⟩
 ·rename_i ho;simp only [ho] at hh
theorem wpAnyM_first {n i:Nat} {oi:Oper} {v:Value} {Fin:Array Bool->Act->(World->Prop)->Prop} (hi:ops[i]?=some oi) (hl:L i=none) (hsel:∀ (j:Nat) (o:Oper) cs b,ops[j]?=some o->o.op≠.select cs b)
  (ht:Region.tailB md ops n=true) (hin:i<n) (hdone:∀ listed a F,Fin listed a F->∀ j∈Region.ready md ops listed,n<=j) :
  ∀ (f:Nat) (listed:Array Bool) (a:Act) (F:World->Prop),HeadInv md ops n listed ->
   (∀ j oj,ops[j]?=some oj->j≠i->listed.getD j true=false->(∀ e∈oj.after,Region.binds md e=true->e.on≠i)->oi.apart ops oj=true) ->
   i∈Region.ready md ops listed->YieldsS P ops W oi v a ->
   wpAnyM P md ops W L n Fin f (listed.setIfInBounds i true) (a.put oi.dst v) F->wpAnyM P md ops W L n Fin (f+1) listed a F:=by
 intro f
 induction f with
 | zero =>
  intro listed a F inv _ hr hy H;have hun:=(mem_ready.1 hr).1;refine ⟨fun h=>(by rw [h] at hr;cases hr),fun j hj=>?_⟩;have hjn:=ready_lt ht inv hin hun hj;refine ⟨hjn,?_⟩
  by_cases hji:j=i
  ·subst hji;exact YieldsS_mOp hi hl hy H
  ·have:=hdone _ _ _ H j (ready_mono hj hji);omega
 | succ f ih =>
  intro listed a F inv hfree hr hy H;have hun:=(mem_ready.1 hr).1;refine ⟨fun h=>(by rw [h] at hr;cases hr),fun j hj=>?_⟩;have hjn:=ready_lt ht inv hin hun hj;refine ⟨hjn,?_⟩
  by_cases hji:j=i
  ·subst hji;exact YieldsS_mOp hi hl hy H
  ·have h1:=(H.2 j (ready_mono hj hji)).2;obtain ⟨hjun,oj,hoj,hall⟩:=mem_ready.1 hj;have hnot:∀ e∈oj.after,Region.binds md e=true->e.on≠i:=fun e he hb heq=>by
    have h1:=hall e he hb;rw [heq,getD_both hun] at h1;cases h1
   have h2:=mOp_put hoj (hfree j oj hoj hji hjun hnot) (fun cs b=>hsel i oi cs b hi) (fun cs b=>hsel j oj cs b hoj) hy h1;have hfree':∀ k ok,ops[k]?=some ok->k≠i->(listed.setIfInBounds j true).getD k true=false ->
     (∀ e∈ok.after,Region.binds md e=true->e.on≠i)->oi.apart ops ok=true:=fun k ok hk hki hun hno=>by
    refine hfree k ok hk hki ?_ hno
    by_cases hjk:j=k
    ·subst hjk;exact hjun
    ·rw [getD_set_ne true hjk] at hun;exact hun
   refine mOp_same (fun a' F' h3=>ih (listed.setIfInBounds j true) a' F' (inv.set hj hjn) hfree' (ready_mono hr (Ne.symm hji)) h3.1 ?_) h2;rw [Array.setIfInBounds_comm _ _ hji];exact h3.2
def wpToks (P:Program) (ops:Array Oper) (W:World) (E:Act->(World->Prop)->Prop):List (Nat×Option Fact)->Act->(World->Prop)->Prop
 | [],a,F=>E a F
 | p::l,a,F=>match ops[p.1]?,p.2 with
  | none,_=>False
  | some o,none=>if Region.wanted o (yielded ops a.tmps) then ∃ v,Steady P o a W v/\wpToks P ops W E l (a.put o.dst v) F else wpToks P ops W E l (a.put o.dst undef) F
  | some o,some T=>o.guard=none/\Ch.LateF P o a W F T/\∀ v,(∃ w,F w/\T v w)->wpToks P ops W E l (a.put o.dst v) (fun w=>F w/\T v w)
def toksB (md:Region.Mode) (ops:Array Oper) (n:Nat):List (Nat×Bool)->Array Bool->Bool
 | [],listed=>Region.seqB md ops (ops.size - n) n listed
 | p::l,listed=>decide (p.1<n) && (if p.2 then Region.ready md ops listed == [p.1] else (Region.ready md ops listed).contains p.1 && Region.free md ops listed p.1) && toksB md ops n l (listed.setIfInBounds p.1 true)
theorem wpAnyM_toks {n:Nat} {E:Act->(World->Prop)->Prop} (hsel:Region.noSelect ops=true) (ht:Region.tailB md ops n=true) :
  ∀ (l:List (Nat×Option Fact)) (listed:Array Bool) (a:Act) (F:World->Prop),HeadInv md ops n listed->toksB md ops n (l.map fun p=>(p.1,p.2.isSome)) listed=true->(∀ p∈l,L p.1=p.2)->wpToks P ops W E l a F ->
   wpAnyM P md ops W L n (fun listed' a' F'=>Region.seqB md ops (ops.size - n) n listed'=true/\E a' F') l.length listed a F
 | [],listed,a,F,inv,hB,hL,h=>⟨hB,h⟩
 | (i,none)::l,listed,a,F,inv,hB,hL,h=>by
  simp only [List.map_cons,toksB,Bool.and_eq_true,decide_eq_true_eq,Option.isSome_none,Bool.false_eq_true,if_false] at hB;obtain ⟨⟨hin,hr,hf⟩,hB'⟩:=hB;have hr':i∈Region.ready md ops listed:=by simpa using hr
  unfold wpToks at h;cases ho:ops[i]? with
  | none=>simp only [ho] at h
  | some o =>
   simp only [ho] at h;obtain ⟨v,hy,hk⟩:∃ v,YieldsS P ops W o v a/\wpToks P ops W E l (a.put o.dst v) F:=by
    by_cases hw:Region.wanted o (yielded ops a.tmps)=true
    ·simp only [hw,if_true] at h;obtain ⟨v,h1,h2⟩:=h;exact ⟨v,.inl ⟨hw,h1⟩,h2⟩
    ·simp only [hw] at h;exact ⟨undef,.inr ⟨by simpa using hw,rfl⟩,h⟩
   exact wpAnyM_first ho (hL (i,none) (by simp)) (Region.noSelect_spec hsel) ht hin (fun listed a F hf=>seqB_ready hf.1) l.length listed a F inv (Region.free_spec ho hf) hr' hy
    (wpAnyM_toks hsel ht l _ _ _ (inv.set hr' hin) hB' (fun p hp=>hL p (List.mem_cons_of_mem _ hp)) hk)
 | (i,some T)::l,listed,a,F,inv,hB,hL,h=>by
  simp only [List.map_cons,toksB,Bool.and_eq_true,decide_eq_true_eq,Option.isSome_some,if_true] at hB;obtain ⟨⟨hin,hr⟩,hB'⟩:=hB;have hr':Region.ready md ops listed=[i]:=by simpa using hr
  unfold wpToks at h;cases ho:ops[i]? with
  | none=>simp only [ho] at h
  | some o =>
   simp only [ho] at h;refine ⟨by rw [hr'];simp,fun j hj=>?_⟩;rw [hr'] at hj;obtain rfl:=List.mem_singleton.1 hj;refine ⟨hin,?_⟩;unfold mOp;simp only [ho,hL (j,some T) (by simp)];exact ⟨h.1,h.2.1,fun v hv=>wpAnyM_toks hsel ht l _ _ _ (inv.set (by rw [hr'];simp) hin) hB' (fun p hp=>hL p (List.mem_cons_of_mem _ hp)) (h.2.2 v hv)⟩
def lookT (l:List (Nat×Option Fact)) (i:Nat):Option Fact:=(l.find? fun p=>p.1 == i).bind (·.2)
theorem lookT_mem:∀ (l:List (Nat×Option Fact)),(l.map (·.1)).Nodup->∀ p∈l,lookT l p.1=p.2
 | q::l,hn,p,hp=>by
  simp only [List.map_cons,List.nodup_cons] at hn;unfold lookT
  by_cases hq:q.1=p.1
  ·rw [List.find?_cons_of_pos (by simpa using hq)];rcases List.mem_cons.1 hp with h | h
   ·rw [h];rfl
   ·exact absurd (by rw [hq];exact List.mem_map_of_mem h) hn.1
  ·rw [List.find?_cons_of_neg (by simpa using hq)];rcases List.mem_cons.1 hp with h | h
   ·exact absurd (by rw [h]) hq
   ·exact lookT_mem l hn.2 p h
theorem lookT_some {l:List (Nat×Option Fact)} {i:Nat} {T:Fact} (h:lookT l i=some T):(i,some T)∈l:=by
 unfold lookT at h;cases hf:l.find? (fun p=>p.1 == i) with
 | none=>rw [hf] at h;cases h
 | some p =>
  rw [hf] at h;have h1:=List.find?_some hf;have h2:=List.mem_of_find?_eq_some hf;simp only [beq_iff_eq] at h1;obtain ⟨q,r⟩:=p;simp only at h1;subst h1;simp only [Option.bind_some] at h;subst h;exact h2
structure WToks (P:Program) (ops:Array Oper) (W:World) (E:Act->(World->Prop)->Prop) (l:List (Nat×Option Fact)) (a:Act) (F:World->Prop):Prop where
 out:wpToks P ops W E l a F
def ndB:List Nat->Bool
 | []=>true
 | x::l=>!l.contains x && ndB l
theorem nodup_of:∀ {l:List Nat},ndB l=true->l.Nodup
 | [],_=>List.nodup_nil
 | x::l,h=>by
  simp only [ndB,Bool.and_eq_true,Bool.not_eq_true'] at h;exact List.nodup_cons.2 ⟨by simpa using h.1,nodup_of h.2⟩
theorem wp_region_toks {id:Nat} {Q:Exit->Act->World->Prop} {a:Act} {w:World} {l:List Oper} (n:Nat) (toks:List (Nat×Option Fact))
  (hm:P.follows .mixedOrders=true) (hB:(Region.noSelect l.toArray && decide (n<=l.length) && decide (toks.length=n) && Region.tailB .any l.toArray n && toksB .any l.toArray n (toks.map fun p=>(p.1,p.2.isSome)) (Array.replicate l.toArray.size false))=true)
  (hn:(toks.map (·.1)).Nodup) (hT:∀ p∈toks,∀ T,p.2=some T->∀ v,Stays (T v))
  (h:WToks P l.toArray w (fun a' F=>∀ w',Mod [] w w'->F w'->wpList P l.toArray Q (l.drop n) a' w') toks a (fun _=>True)) :
  (Code.region id l.toArray true).wp P Q a w:=by
 simp only [Bool.and_eq_true,decide_eq_true_eq] at hB;obtain ⟨⟨⟨⟨hsel,hnl⟩,hlen⟩,ht⟩,hB'⟩:=hB;have inv0:HeadInv .any l.toArray n (Array.replicate l.toArray.size false) :=
  ⟨by simp,fun j oj _ hl=>(by rw [getD_replicate_false] at hl;cases hl),fun t _ ht=>getD_in (by simpa using ht) (getD_replicate_false _ _)⟩
 have H:=wpAnyM_toks (P:=P) (W:=w) (L:=lookT toks) hsel ht toks _ a _ inv0 hB' (lookT_mem toks hn) h.out;refine wp_region_any hm ?_;have hdl:(l.drop n).length=l.toArray.size - n:=by simp
 have hfin:=wpAny_of_M (P:=P) (md:=.any) (ops:=l.toArray) (W:=w) (Q:=Q) (g:=l.toArray.size - n) (fun i T hi v=>hT _ (lookT_some hi) T rfl v) (fun listed a F w' hw hF hf=>by
  have:=wpAny_of_seq (md:=.any) (Q':=Q) (l.drop n) n listed a w' (fun j=>by simp [List.getElem?_drop]) (by rw [hdl];exact hf.1) (hf.2 w' hw hF)
  rwa [hdl] at this) _ _ _ _ { w with drawn:=w.drawn+1 } (fun _ _ _ _=>trivial) ((Mod.refl [] w).drew) trivial H
 have hl2:toks.length+(l.toArray.size - n)=l.toArray.size:=by simp;omega
 rwa [hl2] at hfin
theorem nil_go {E:Act->(World->Prop)->Prop} {a:Act} {F:World->Prop} (h:E a F):WToks P ops W E [] a F:=⟨h⟩
theorem v_go {E:Act->(World->Prop)->Prop} {l:List (Nat×Option Fact)} {a a':Act} {F:World->Prop} {i:Nat} {o:Oper} (ho:ops[i]?=some o) (hg:Region.wanted o (yielded ops a.tmps)=true) (hd:a'.defers=a.defers)
  (h:∀ w,Mod [] W w->∀ (K:Act->World->Prop) (Q:Exit->Act->World->Prop),(∀ w',Mod [] w w'->K a' w')->o.wp P a w K Q) (hr:WToks P ops W E l a' F):WToks P ops W E ((i,none)::l) a F:=by
 refine ⟨?_⟩;obtain ⟨u,hu⟩:=put_of_wp (R:=fun _=>True) hd (h W (Mod.refl _ _) _ _ fun w' _=>⟨rfl,trivial⟩);unfold wpToks;simp only [ho];rw [if_pos hg];refine ⟨u,fun w hw=>h w hw _ _ fun w' m=>⟨u,hu.symm,m,rfl⟩,?_⟩;rw [hu];exact hr.out
theorem k_go {E:Act->(World->Prop)->Prop} {l:List (Nat×Option Fact)} {a:Act} {F:World->Prop} {T:Fact} {f:Value->Act} {i:Nat} {o:Oper} (ho:ops[i]?=some o) (hg:o.guard=none) (hf:∀ v,f v=a.put o.dst v)
  (h:∀ w,Mod [] W w->F w->∀ (K:Act->World->Prop) (Q:Exit->Act->World->Prop),(∀ v w',Mod [] w w'->T v w'->K (f v) w')->o.wp P a w K Q)
  (hk:∀ v,(∃ w,F w/\T v w)->WToks P ops W E l (f v) (fun w=>F w/\T v w)):WToks P ops W E ((i,some T)::l) a F:=by
 refine ⟨?_⟩;unfold wpToks;simp only [ho];refine ⟨hg,fun w hw hF=>h w hw hF _ _ fun v w' m t=>⟨v,hf v,m,t⟩,fun v hv=>?_⟩;rw [<- hf v];exact (hk v hv).out
end
end Sq
end Go.Proofs.Ytlkkhkbafahchaa
namespace Go.Proofs.Ytlkkhkbafahchaa
def findB (k:Nat):Code->Option Code
 | .block n a=>if n == k then some (.block n a) else findB k a
 | .seq a b=>(findB k a).orElse fun _=>findB k b
 | .cond _ a b=>(findB k a).orElse fun _=>findB k b
 | .loop a=>findB k a
 | .scope a=>findB k a
 | _=>none
def findC (k:Nat):Code->Option Code
 | .cond c a b=>match c with | .tmp n=>if n == k then some (.cond c a b) else (findC k a).orElse fun _=>findC k b | _=>(findC k a).orElse fun _=>findC k b
 | .seq a b=>(findC k a).orElse fun _=>findC k b
 | .block _ a=>findC k a
 | .loop a=>findC k a
 | .scope a=>findC k a
 | _=>none
open Go.RowKit
section
variable {P:Program} {md:Region.Mode} {ops ops':Array Oper} {Q:Exit->Act->World->Prop} {t i:Nat} {ot oi:Oper}
def floatM (md:Region.Mode) (ops:Array Oper) (t i:Nat):Bool :=
 match ops[t]?,ops[i]? with
 | some ot,some oi=>decide (t≠i) && oi.guard.isNone && (match oi.op with | .move _=>true | _=>false) &&
  oi.after.all (fun e=>!Region.binds md e || ot.after.any fun e'=>Region.binds md e' && e'.on == e.on) &&
  (List.range ops.size).all fun j=>j == i || oi.after.any (fun e=>Region.binds md e && e.on == j) || match ops[j]? with
   | some oj=>oj.after.any (fun e=>Region.binds md e && e.on == i) || oi.apart ops oj
   | none=>true
 | _,_=>false
theorem move_yields {o:Oper} (hg:o.guard=none) {x:Operand} (ho:o.op=.move x) {j:Nat} (hj:ops[j]?=some o) {K:Act->World->Prop} {a:Act} {w:World} (hh:wpOp P ops Q j K a w) :
  ∃ v,Yields P ops o v a/\K (a.put o.dst v) w:=by
 unfold wpOp at hh;have hw:Region.wanted o (yielded ops a.tmps)=true:=by unfold Region.wanted;rw [hg]
 simp only [hj,hw,if_true] at hh;have hE:execOp a.eval o=pure (.value (a.eval x)):=by
  unfold execOp;simp only [ho]
 have h1:∀ w,(execOp a.eval o).run P w=.ok (.value (a.eval x)) w:=fun w=>by rw [hE];rfl
 have h2:(execOp a.eval o).runT P w #[]=(.ok (.value (a.eval x)) w,#[]):=by rw [hE];rfl
 refine ⟨a.eval x,.inl ⟨hw,h1⟩,?_⟩;rcases hh with hh | hh
 ·unfold Oper.wp at hh;rw [h1 w] at hh;exact hh
 ·unfold Oper.asks at hh;rw [h2] at hh;simp at hh
theorem wpAny_floatM (W:Waits ops ops' t i ot) (hB:floatM md ops t i=true) (hs:Region.noSelect ops=true) (hQ:∀ c a d v w,Q (.panic c) (a.put d v) w->Q (.panic c) a w) :
  ∀ (g:Nat) (listed:Array Bool) (a:Act) (w:World),listed.getD i true=false->wpAny P md ops' Q g listed a w->wpAny P md ops Q g listed a w:=by
 unfold floatM at hB;rw [W.old] at hB;cases ho:ops[i]? with
 | none=>rw [ho] at hB;cases hB
 | some oi =>
  rw [ho] at hB;simp only [Bool.and_eq_true,decide_eq_true_eq] at hB;obtain ⟨⟨⟨⟨hne,hg⟩,hx⟩,hdeps⟩,hfree⟩:=hB;have hg':oi.guard=none:=by simpa using hg
  obtain ⟨x,hop⟩:∃ x,oi.op=.move x:=by
   cases hop:oi.op <;> simp [hop] at hx
   exact ⟨_,rfl⟩
  have hT:∀ listed,listed.getD i true=false->t∈Region.ready md ops listed->i∈Region.ready md ops listed:=fun listed hun ht=>by
   rw [mem_ready] at *
   obtain ⟨_,o,ho',hall⟩:=ht;rw [W.old] at ho';obtain rfl:=Option.some.inj ho';refine ⟨hun,oi,ho,fun e he hb=>?_⟩;have h1:=Array.all_eq_true_iff_forall_mem.1 hdeps e he;rw [hb] at h1;simp only [Bool.not_true,Bool.false_or] at h1;obtain ⟨e',he',h2⟩:=Array.any_eq_true'.1 h1;simp only [Bool.and_eq_true,beq_iff_eq] at h2;rw [<- h2.2];exact hall e' he' h2.1
  have hF:∀ listed,i∈Region.ready md ops listed->∀ j oj,ops[j]?=some oj->j≠i->listed.getD j true=false->(∀ e∈oj.after,Region.binds md e=true->e.on≠i)->oi.apart ops oj=true:=fun listed hr j oj hj hji hun hno=>by
   have h1:=List.all_eq_true.1 hfree j (List.mem_range.2 (Array.getElem?_eq_some_iff.1 hj).1);simp only [hj,Bool.or_eq_true,beq_iff_eq,hji,false_or] at h1;rcases h1 with h1 | h1 | h1
   ·obtain ⟨e,he,h2⟩:=Array.any_eq_true'.1 h1;simp only [Bool.and_eq_true,beq_iff_eq] at h2;obtain ⟨_,o,ho',hall⟩:=mem_ready.1 hr;rw [ho] at ho';obtain rfl:=Option.some.inj ho';have h3:=hall e he h2.1;rw [h2.2,getD_both hun] at h3;cases h3
   ·obtain ⟨e,he,h2⟩:=Array.any_eq_true'.1 h1;simp only [Bool.and_eq_true,beq_iff_eq] at h2;exact absurd h2.2 (hno e he h2.1)
   ·exact h1
  intro g
  induction g with
  | zero =>
   intro listed a w hun hh;refine ⟨List.eq_nil_iff_forall_not_mem.2 fun j hj=>?_,hh.2⟩
   by_cases hjt:j=t
   ·subst hjt;have:=W.ready_ne (Ne.symm hne) (hT listed hun hj);rw [hh.1] at this;exact absurd this List.not_mem_nil
   ·have:=W.ready_ne hjt hj;rw [hh.1] at this;exact absurd this List.not_mem_nil
  | succ g ih =>
   intro listed a w hun hh
   by_cases hr:i∈Region.ready md ops listed
   ·obtain ⟨v,hy,hk⟩:=move_yields hg' hop ho (W.wpOp (hh.2 i (W.ready_ne (Ne.symm hne) hr)));refine wpAny_first ho (Region.noSelect_spec hs) (fun c a w=>hQ c a oi.dst v w) g listed a w (hF listed hr) hr hy ?_;refine W.behind g _ _ _ ?_ hk;have hlt:i<listed.size:=by
     rcases Nat.lt_or_ge i listed.size with h' | h'
     ·exact h'
     ·rw [Array.getD_eq_getD_getElem?,Array.getElem?_eq_none h'] at hun;cases hun
    simp [hlt]
   ·refine ⟨fun h0=>hh.1 (List.eq_nil_iff_forall_not_mem.2 fun j hj=>?_),fun j hj=>?_⟩
    ·have:=W.ready_of hj;rw [h0] at this;exact absurd this List.not_mem_nil
    ·have hji:j≠i:=fun he=>hr (he ▸ hj)
     have hjt:j≠t:=fun he=>hr (hT listed hun (he ▸ hj))
     refine wpOp_mono (fun a' w' h'=>ih _ a' w' ?_ h') (W.wpOp (hh.2 j (W.ready_ne hjt hj)));rw [getD_set_ne true hji];exact hun
theorem wp_region_moved {id:Nat} {Q:Exit->Act->World->Prop} {a:Act} {w:World} {l:List Oper} (t i:Nat) (l':List Oper) (hl:l'=waitFor t i l) (n:Nat) (mask:List Bool) (late:List (Nat×(Value->World->Prop)))
  (hm:P.follows .mixedOrders=true)
  (hB:(Region.monoB .any l'.toArray n (idxM 0 mask) (late.map (·.1)) && decide (mask.length<=l.length) && floatM .any l.toArray t i && decide (t<l.length) && decide (i<l.length))=true) (hT:∀ p∈late,∀ v,Stays (p.2 v))
  (hQ:∀ c a d v w,Q (.panic c) (a.put d v) w->Q (.panic c) a w)
  (h:WSteady P l'.toArray w (fun a'=>wpLates P l'.toArray w (fun a'' F=>∀ w',Mod [] w w'->F w'->wpList P l'.toArray Q (l'.drop n) a'' w') late a' (fun _=>True)) (pickM l' mask) a) :
  (Code.region id l.toArray true).wp P Q a w:=by
 subst hl;simp only [Bool.and_eq_true,decide_eq_true_eq] at hB;obtain ⟨⟨⟨⟨hB,hmk⟩,hf⟩,ht⟩,hi⟩:=hB;refine wp_region_any hm ?_;have hW:=wait_waits (i:=i) (List.getElem?_eq_getElem ht);have hs:Region.noSelect l.toArray=true:=by
  have h1:=hB;simp only [Region.monoB,Bool.and_eq_true] at h1;have h2:=h1.1.1.1.1.1.1.1.1;unfold Region.noSelect at *
  rw [Array.all_eq_true_iff_forall_mem] at *
  intro o ho;obtain ⟨j,hj⟩:=Array.getElem?_of_mem ho
  by_cases hjt:j=t
  ·subst hjt;have:=h2 _ (Array.mem_of_getElem? hW.new);rw [hW.old] at hj;obtain rfl:=Option.some.inj hj;exact this
  ·exact h2 o (Array.mem_of_getElem? (by rw [hW.other j hjt];exact hj))
 have H:=wpAny_mono (P:=P) (Q:=Q) n (idxM 0 mask) late hB hT (steady_of_list mask 0 (waitFor t i l) a (by simp) (by rw [wait_length];exact hmk) h.out);have e:(waitFor t i l).toArray.size=l.toArray.size:=by simp [wait_length]
 rw [e] at H;exact wpAny_floatM hW hf hs hQ _ _ _ _ (getD_in (by simpa using hi) (getD_replicate_false _ _)) H
end
open Go.RowKit Go.MapKept
open Go.ChangeMaps (setBlock)
def IMap (w:World) (b:Nat) (m:List (Int×Value)):Prop :=
 ∃ es clock,w.heap[b]?=some (.map es clock)/\es.toList.map (fun e=>(e.key,e.val))=m.map (fun p=>(Value.int .i64 p.1,p.2))/\Stamped es clock
def lookM (m:List (Int×Value)) (k:Int):Option Value:=(m.find? fun p=>p.1 == k).map (·.2)
def putM (m:List (Int×Value)) (k:Int) (v:Value):List (Int×Value):=if (m.find? fun p=>p.1 == k).isSome then m.map (fun p=>if p.1=k then (k,v) else p) else m++[(k,v)]
theorem IMap.lt {w:World} {b:Nat} {m:List (Int×Value)} (h:IMap w b m):b<w.heap.size:=by
 obtain ⟨es,c,h,_⟩:=h;exact (Array.getElem?_eq_some_iff.1 h).1
theorem IMap.mod {w w':World} {b:Nat} {m:List (Int×Value)} (h:IMap w b m) (hm:Mod [] w w'):IMap w' b m:=by
 obtain ⟨es,c,h1,h2⟩:=h;exact ⟨es,c,(hm.block b (Array.getElem?_eq_some_iff.1 h1).1 (by simp)).trans h1,h2⟩
theorem IMap.of {w w':World} {b:Nat} {m:List (Int×Value)} (h:IMap w b m) (hb:w'.heap[b]?=w.heap[b]?):IMap w' b m:=by
 obtain ⟨es,c,h1,h2⟩:=h;exact ⟨es,c,hb.trans h1,h2⟩
theorem IMap.new (w:World):IMap (w.alloc (.map #[] 0)) w.heap.size []:=⟨#[],0,by show (w.heap.push _)[w.heap.size]?=_;simp,rfl,by simp [Stamped]⟩
theorem IMap.keys {w:World} {b:Nat} {m:List (Int×Value)} (h:IMap w b m):(m.map (·.1)).Nodup:=by
 obtain ⟨es,c,_,h2,_,_,h3⟩:=h;have e:es.toList.map (·.key)=m.map (fun p=>Value.int .i64 p.1):=by
  have:=congrArg (List.map Prod.fst) h2;simpa [List.map_map,Function.comp_def] using this
 rw [e] at h3;have:(m.map (·.1)).map (fun k=>Value.int .i64 k)=m.map (fun p=>Value.int .i64 p.1):=by simp [List.map_map,Function.comp_def]
 rw [<- this] at h3;exact (List.pairwise_map.1 h3).imp (fun h e=>h (by rw [e]))
section
variable {P:Program} {w:World} {b:Nat} {m:List (Int×Value)} {t kt et:TypeId}
theorem find_spec {es:List MapEntry} (hk:∀ x∈es,IsKey (.int .i64) x.key) (h2:es.map (fun e=>(e.key,e.val))=m.map (fun p=>(Value.int .i64 p.1,p.2))) (k:Int) :
  (Instr.findNow (.int .i64) (.int .i64 k) es 0=some none/\m.find? (fun p=>p.1 == k)=none) ∨
  ∃ j e,Instr.findNow (.int .i64) (.int .i64 k) es 0=some (some (j,e.val))/\es[j]?=some e/\e.key=.int .i64 k/\m[j]?=some (k,e.val):=by
 rcases findNow_spec (d:=.int .i64) (k:=.int .i64 k) (by simp [IsKey]) es 0 hk with ⟨h1,h3⟩ | ⟨j,e,h1,h3,h4⟩
 ·left;refine ⟨h1,List.find?_eq_none.2 fun p hp he=>?_⟩;have:(Value.int .i64 p.1,p.2)∈es.map (fun e=>(e.key,e.val)):=by rw [h2];exact List.mem_map_of_mem (f:=fun p:Int×Value=>(Value.int .i64 p.1,p.2)) hp
  obtain ⟨e,he2,hee⟩:=List.mem_map.1 this;have hpk:p.1=k:=by simpa using he
  exact h3 e he2 (by have:=congrArg Prod.fst hee;simp only at this;rw [this,hpk])
 ·right;refine ⟨j,e,by rw [h1,Nat.zero_add],h3,h4,?_⟩;have h5:(es.map (fun e=>(e.key,e.val)))[j]?=some (e.key,e.val):=by rw [List.getElem?_map,h3];rfl
  rw [h2,List.getElem?_map] at h5;cases hm:m[j]? with
  | none=>rw [hm] at h5;cases h5
  | some p =>
   rw [hm,h4] at h5;simp only [Option.map_some,Option.some.injEq,Prod.mk.injEq,Value.int.injEq,true_and] at h5;obtain ⟨p1,p2⟩:=p;simp only at h5;rw [h5.1,h5.2]
theorem find_of_at {m:List (Int×Value)} (hn:(m.map (·.1)).Nodup) {j:Nat} {k:Int} {v:Value} (h:m[j]?=some (k,v)):m.find? (fun p=>p.1 == k)=some (k,v):=by
 induction m generalizing j with
 | nil=>simp at h
 | cons p r ih =>
  simp only [List.map_cons,List.nodup_cons] at hn;cases j with
  | zero=>simp only [List.getElem?_cons_zero,Option.some.injEq] at h;subst h;simp
  | succ j =>
   simp only [List.getElem?_cons_succ] at h;have hne:p.1≠k:=fun e=>hn.1 (by rw [e];exact List.mem_map.2 ⟨(k,v),List.mem_of_getElem? h,rfl⟩)
   rw [List.find?_cons_of_neg (by simpa using hne)];exact ih hn.2 h
theorem keys_int {es:List MapEntry} (h2:es.map (fun e=>(e.key,e.val))=m.map (fun p=>(Value.int .i64 p.1,p.2))):∀ x∈es,IsKey (.int .i64) x.key:=fun x hx=>by
 have:(x.key,x.val)∈m.map (fun p=>(Value.int .i64 p.1,p.2)):=by rw [<- h2];exact List.mem_map_of_mem (f:=fun e:MapEntry=>(e.key,e.val)) hx
 obtain ⟨p,_,hp⟩:=List.mem_map.1 this;have:=congrArg Prod.fst hp;simp only at this;rw [<- this];simp [IsKey]
theorem run_look (h:IMap w b m) (ht:P.underlying t=some (.map kt et)) (hk:P.underlying kt=some (.int .i64)) {z:Value} (hz:(zeroValue et).run P w=.ok z w) (k:Int) (ok:Bool) :
  (Instr.lookup t (.map (some b)) (.int .i64 k) ok).run P w=.ok (if ok then .tuple #[(lookM m k).getD z,.bool (lookM m k).isSome] else (lookM m k).getD z) w:=by
 have hn:=h.keys;obtain ⟨es,c,h1,h2,h3⟩:=h;have hck:=run_checkKey (P:=P) (w:=w) (k:=.int .i64 k) hk (by simp [IsKey]) es.isEmpty 9999;have hg:=Go.MapKept.run_getObj_map (P:=P) h1;unfold Instr.lookup lookM;rcases find_spec (keys_int h2) h2 k with ⟨h4,h5⟩ | ⟨j,e,h4,h5,h6,h7⟩
 ·have hf:=run_findKey (P:=P) (w:=w) hk h4;simp only [Sem.run_bind,run_underlying ht,Result.andThen_ok,hg,Sem.run_pure,hck,hf,hz,h5];cases ok <;> rfl
 ·have hf:=run_findKey (P:=P) (w:=w) hk h4;rw [find_of_at hn h7];simp only [Sem.run_bind,run_underlying ht,Result.andThen_ok,hg,Sem.run_pure,hck,hf];cases ok <;> rfl
theorem putM_at {j:Nat} {k:Int} {v u:Value} (hn:(m.map (·.1)).Nodup) (h:m[j]?=some (k,u)):∀ q,(m.map fun p=>if p.1=k then (k,v) else p)[q]?=if q=j then some (k,v) else m[q]?:=by
 intro q;rw [List.getElem?_map]
 by_cases hq:q=j
 ·subst hq;rw [h,if_pos rfl];simp
 ·rw [if_neg hq];cases hm:m[q]? with
  | none=>rfl
  | some p =>
   have hne:p.1≠k:=fun e=>hq (by
    have h1:(m.map (·.1))[q]?=some k:=by rw [List.getElem?_map,hm];simp [e]
    have h2:(m.map (·.1))[j]?=some k:=by rw [List.getElem?_map,h];rfl
    have l1:=(List.getElem?_eq_some_iff.1 h1).1;have l2:=(List.getElem?_eq_some_iff.1 h2).1;have e1:=(List.getElem?_eq_some_iff.1 h1).2;have e2:=(List.getElem?_eq_some_iff.1 h2).2;rcases Nat.lt_trichotomy q j with hlt | heq | hgt
    ·exact absurd (e1.trans e2.symm) (List.pairwise_iff_getElem.1 hn q j l1 l2 hlt)
    ·exact heq
    ·exact absurd (e2.trans e1.symm) (List.pairwise_iff_getElem.1 hn j q l2 l1 hgt))
   simp [hne]
theorem run_put (h:IMap w b m) (ht:P.underlying t=some (.map kt et)) (hk:P.underlying kt=some (.int .i64)) (k:Int) (v:Value) :
  ∃ w',(Instr.mapUpdate t (.map (some b)) (.int .i64 k) v).run P w=.ok () w'/\IMap w' b (putM m k v)/\w'.os=w.os/\w'.tape=w.tape/\w'.output=w.output/\w'.heap.size=w.heap.size/\∀ b',b'≠b->w'.heap[b']?=w.heap[b']?:=by
 have hn:=h.keys;have hlt:=h.lt;obtain ⟨es,c,h1,h2,h3⟩:=h;have hg:=Go.MapKept.run_getObj_map (P:=P) h1;have hck:=run_checkKey (P:=P) (w:=w) (k:=.int .i64 k) hk (by simp [IsKey]) false 9999;have hso:=fun o=>Go.MapKept.run_setObj_map (P:=P) o h1
 unfold Instr.mapUpdate;rcases find_spec (keys_int h2) h2 k with ⟨h4,h5⟩ | ⟨j,e,h4,h5,h6,h7⟩
 ·have hf:=run_findKey (P:=P) (w:=w) hk h4;refine ⟨{ w with heap:=w.heap.setIfInBounds b (.map (es.push { key:=.int .i64 k,val:=v,born:=c }) (c+1)) },?_,?_,rfl,rfl,rfl,by simp,fun b' hb=>(heap_set h1).2 b' hb⟩
  ·simp only [Sem.run_bind,run_underlying ht,Result.andThen_ok,hg,hck,hf,hso]
  ·refine ⟨_,_,(heap_set h1).1,?_,stamped_push h3 fun x hx he=>?_⟩
   ·unfold putM;rw [h5];simp [h2]
   ·have:(x.key,x.val)∈m.map (fun p=>(Value.int .i64 p.1,p.2)):=by rw [<- h2];exact List.mem_map_of_mem (f:=fun e:MapEntry=>(e.key,e.val)) hx
    obtain ⟨p,hp,hpp⟩:=List.mem_map.1 this;have e1:=congrArg Prod.fst hpp;simp only [he] at e1;exact List.find?_eq_none.1 h5 p hp (by simpa using e1)
 ·have hf:=run_findKey (P:=P) (w:=w) hk h4;have hej:es[j]?=some e:=by simpa using h5
  have hst:∀ w:World,(Instr.keyThatStays (((es[j]?).map (·.key)).getD (.int .i64 k)) (.int .i64 k)).run P w=.ok (.int .i64 k) w:=fun w=>by
   rw [hej];simp only [Option.map_some,Option.getD_some,h6];simp [Instr.keyThatStays,Instr.sameBits]
  refine ⟨{ w with heap:=w.heap.setIfInBounds b (.map (es.modify j fun e=>{ e with key:=.int .i64 k,val:=v }) c) },?_,?_,rfl,rfl,rfl,by simp,fun b' hb=>(heap_set h1).2 b' hb⟩
  ·simp only [Sem.run_bind,run_underlying ht,Result.andThen_ok,hg,hck,hf,hst,hso]
  ·refine ⟨_,_,(heap_set h1).1,?_,stamped_modify h3 j _ (fun _ _=>rfl) fun x hx hxe=>?_⟩
   ·unfold putM;rw [find_of_at hn h7];simp only [Option.isSome_some,if_true];apply List.ext_getElem?;intro q;rw [List.getElem?_map,List.getElem?_map,putM_at hn h7 q];have h8:(es.toList.map fun e=>(e.key,e.val))[q]?=(m.map fun p=>(Value.int .i64 p.1,p.2))[q]?:=by rw [h2]
    rw [List.getElem?_map,List.getElem?_map] at h8;rw [show (es.modify j fun e=>{ e with key:=.int .i64 k,val:=v }).toList[q]?=if j=q then (es[q]?).map (fun e=>{ e with key:=Value.int .i64 k,val:=v }) else es[q]? by rw [Array.toList_modify,List.getElem?_modify];by_cases hjq:j=q <;> simp [hjq]]
    by_cases hq:q=j
    ·subst hq;simp [hej]
    ·rw [if_neg (fun e=>hq e.symm),if_neg hq];simpa using h8
   ·rw [hej] at hxe;cases hxe;exact h6.symm
end
namespace Rg
section
variable {P:Program} {ops:Array Oper} {md:Region.Mode} {I:World->Prop} {L:Nat->Option (Value->World->Prop)}
def Late (P:Program) (o:Oper) (a:Act) (I:World->Prop) (T:Value->World->Prop):Prop :=
 ∀ w,I w->o.wp P a w (fun a' w'=>∃ v,a'=a.put o.dst v/\Mod [] w w'/\T v w') (fun _ _ _=>False)
def Steady (P:Program) (o:Oper) (a:Act) (I:World->Prop) (v:Value):Prop:=Late P o a I (fun u _=>u=v)
theorem wp_of_late {o:Oper} {a:Act} {T:Value->World->Prop} {K:Act->World->Prop} {Q:Exit->Act->World->Prop} {w:World} (hw:I w) (h:Late P o a I T)
  (hK:∀ v w',Mod [] w w'->T v w'->K (a.put o.dst v) w'):o.wp P a w K Q:=by
 have h3:=h w hw;unfold Oper.wp at *
 generalize (execOp a.eval o).run P w=r at *
 cases r with
 | ok n w' =>
  cases n <;> simp only [Oper.upon] at h3 ⊢
  case value u=>obtain ⟨v,e,m,t⟩:=h3;rw [e];exact hK _ _ m t
  case skip=>obtain ⟨v,e,m,t⟩:=h3;rw [e];exact hK _ _ m t
  case defer d=>obtain ⟨v,e,m,t⟩:=h3;rw [e];exact hK _ _ m t
  case enter f args =>
   refine Calls.mono h3 fun e w'' he=>?_
   cases e with
   | returned u =>
    obtain ⟨v,e,m,t⟩:=he;show K (a.put o.dst u) w'';rw [e];exact hK _ _ m t
   | panicked c=>exact he.elim
   | outgrown=>obtain ⟨_,_,h⟩:=he;exact h.elim
  case row row args=>exact Rows.mono h3 fun u w'' he=>by obtain ⟨v,e,m,t⟩:=he;rw [e];exact hK _ _ m t
 | halt x w'=>cases x <;> simp only [Oper.upon] at h3
theorem wp_of_steady {o:Oper} {a:Act} {v:Value} {K:Act->World->Prop} {Q:Exit->Act->World->Prop} {w:World} (hw:I w) (h:Steady P o a I v)
  (hK:∀ w',Mod [] w w'->K (a.put o.dst v) w'):o.wp P a w K Q :=
 wp_of_late hw h fun u w' m hu=>by rw [hu];exact hK w' m
def YieldsS (P:Program) (ops:Array Oper) (I:World->Prop) (o:Oper) (v:Value) (a:Act):Prop :=
 (Region.wanted o (yielded ops a.tmps)=true/\Steady P o a I v)∨(Region.wanted o (yielded ops a.tmps)=false/\v=undef)
theorem late_put {o:Oper} (hs:∀ cs b,o.op≠.select cs b) {a:Act} {d:Option Tmp} {v:Value} {T:Value->World->Prop} (h1:∀ t,d=some t->t ∉ o.looksAt ops) (h2:∀ t,d=some t->o.dst≠some t)
  (h:Late P o (a.put d v) I T):Late P o a I T:=by
 intro w hw;have h3:=h w hw;unfold Oper.wp at *
 rw [execOp_put o hs a d v h1] at h3;have key:∀ (x:Value) w',(∃ u,(a.put d v).put o.dst x=(a.put d v).put o.dst u/\Mod [] w w'/\T u w')->∃ u,a.put o.dst x=a.put o.dst u/\Mod [] w w'/\T u w':=by
  rintro x w' ⟨u,e,m,t⟩;refine ⟨u,?_,m,t⟩;rw [Act.put_comm a v x h2,Act.put_comm a v u h2] at e;cases d with
  | none=>exact e
  | some t =>
   cases ho:o.dst with
   | none=>rfl
   | some s =>
    rw [ho] at e;have hne:s≠t:=fun hst=>h2 t rfl (by rw [ho,hst])
    have e2:=congrArg Act.tmps e;simp only [Act.put] at e2 ⊢;have e3:a.tmps.setIfInBounds s x=a.tmps.setIfInBounds s u:=by
     apply Array.ext_getElem?;intro k;have:=congrArg (fun z=>z[k]?) e2
     by_cases hk:t=k
     ·subst hk;rw [Array.getElem?_setIfInBounds_ne hne,Array.getElem?_setIfInBounds_ne hne]
     ·rwa [Array.getElem?_setIfInBounds_ne hk,Array.getElem?_setIfInBounds_ne hk] at this
    rw [e3]
 generalize (execOp a.eval o).run P w=r at *
 cases r with
 | ok n w' =>
  cases n <;> simp only [Oper.upon] at h3 ⊢
  case value u=>exact key _ _ h3
  case skip=>exact key _ _ h3
  case defer x =>
   obtain ⟨u,e,m,t⟩:=h3;have e2:=congrArg Act.defers e;exfalso;have hl:∀ (b:Act) (d:Option Tmp) (v:Value),(b.put d v).defers=b.defers:=fun b d v=>by cases d <;> rfl
   have e3:x::a.defers=a.defers:=by simpa only [hl] using e2
   have:=congrArg List.length e3;simp at this
  case enter f args =>
   refine Calls.mono h3 fun e w'' he=>?_
   cases e with
   | returned u=>exact key _ _ he
   | panicked c=>exact he.elim
   | outgrown=>obtain ⟨_,_,h⟩:=he;exact h.elim
  case row row args=>exact Rows.mono h3 fun u w'' he=>key _ _ he
 | halt x w'=>cases x <;> simp only [Oper.upon] at h3
theorem late_put' {o:Oper} (hs:∀ cs b,o.op≠.select cs b) {a:Act} {d:Option Tmp} {v:Value} {T:Value->World->Prop} (h1:∀ t,d=some t->t ∉ o.looksAt ops) (h2:∀ t,d=some t->o.dst≠some t)
  (h:Late P o a I T):Late P o (a.put d v) I T:=by
 intro w hw;have h3:=h w hw;unfold Oper.wp at *
 rw [execOp_put o hs a d v h1];have key:∀ (x:Value) w',(∃ u,a.put o.dst x=a.put o.dst u/\Mod [] w w'/\T u w')->∃ u,(a.put d v).put o.dst x=(a.put d v).put o.dst u/\Mod [] w w'/\T u w':=by
  rintro x w' ⟨u,e,m,t⟩;exact ⟨u,by rw [Act.put_comm a v x h2,Act.put_comm a v u h2,e],m,t⟩
 generalize (execOp a.eval o).run P w=r at *
 cases r with
 | ok n w' =>
  cases n <;> simp only [Oper.upon] at h3 ⊢
  case value u=>exact key _ _ h3
  case skip=>exact key _ _ h3
  case defer x =>
   obtain ⟨u,e,m,t⟩:=h3;have e2:=congrArg Act.defers e;exfalso;have hl:∀ (b:Act) (d:Option Tmp) (v:Value),(b.put d v).defers=b.defers:=fun b d v=>by cases d <;> rfl
   have e3:x::a.defers=a.defers:=by simpa only [hl] using e2
   have:=congrArg List.length e3;simp at this
  case enter f args =>
   refine Calls.mono h3 fun e w'' he=>?_
   cases e with
   | returned u=>exact key _ _ he
   | panicked c=>exact he.elim
   | outgrown=>obtain ⟨_,_,h⟩:=he;exact h.elim
  case row row args=>exact Rows.mono h3 fun u w'' he=>key _ _ he
 | halt x w'=>cases x <;> simp only [Oper.upon] at h3
def LateF (P:Program) (o:Oper) (a:Act) (I:World->Prop) (F:World->Prop) (T:Value->World->Prop):Prop :=
 ∀ w,I w->F w->o.wp P a w (fun a' w'=>∃ v,a'=a.put o.dst v/\I w'/\T v w') (fun _ _ _=>False)
theorem LateF.weak {o:Oper} {a:Act} {F F':World->Prop} {T:Value->World->Prop} (h:LateF P o a I F T) (hF:∀ w,F' w->F w):LateF P o a I F' T:=fun w hw hf=>h w hw (hF w hf)
theorem lateF_put {o:Oper} (hs:∀ cs b,o.op≠.select cs b) {a:Act} {d:Option Tmp} {v:Value} {F:World->Prop} {T:Value->World->Prop} (h1:∀ t,d=some t->t ∉ o.looksAt ops) (h2:∀ t,d=some t->o.dst≠some t)
  (h:LateF P o (a.put d v) I F T):LateF P o a I F T:=by
 intro w hw hF;have h3:=h w hw hF;unfold Oper.wp at *
 rw [execOp_put o hs a d v h1] at h3;have key:∀ (x:Value) w',(∃ u,(a.put d v).put o.dst x=(a.put d v).put o.dst u/\I w'/\T u w')->∃ u,a.put o.dst x=a.put o.dst u/\I w'/\T u w':=by
  rintro x w' ⟨u,e,m,t⟩;refine ⟨u,?_,m,t⟩;rw [Act.put_comm a v x h2,Act.put_comm a v u h2] at e;cases d with
  | none=>exact e
  | some t =>
   cases ho:o.dst with
   | none=>rfl
   | some s =>
    rw [ho] at e;have hne:s≠t:=fun hst=>h2 t rfl (by rw [ho,hst])
    have e2:=congrArg Act.tmps e;simp only [Act.put] at e2 ⊢;have e3:a.tmps.setIfInBounds s x=a.tmps.setIfInBounds s u:=by
     apply Array.ext_getElem?;intro k;have:=congrArg (fun z=>z[k]?) e2
     by_cases hk:t=k
     ·subst hk;rw [Array.getElem?_setIfInBounds_ne hne,Array.getElem?_setIfInBounds_ne hne]
     ·rwa [Array.getElem?_setIfInBounds_ne hk,Array.getElem?_setIfInBounds_ne hk] at this
    rw [e3]
 generalize (execOp a.eval o).run P w=r at *
 cases r with
 | ok n w' =>
  cases n <;> simp only [Oper.upon] at h3 ⊢
  case value u=>exact key _ _ h3
  case skip=>exact key _ _ h3
  case defer x =>
   obtain ⟨u,e,m,t⟩:=h3;have e2:=congrArg Act.defers e;exfalso;have hl:∀ (b:Act) (d:Option Tmp) (v:Value),(b.put d v).defers=b.defers:=fun b d v=>by cases d <;> rfl
   have e3:x::a.defers=a.defers:=by simpa only [hl] using e2
   have:=congrArg List.length e3;simp at this
  case enter f args =>
   refine Calls.mono h3 fun e w'' he=>?_
   cases e with
   | returned u=>exact key _ _ he
   | panicked c=>exact he.elim
   | outgrown=>obtain ⟨_,_,h⟩:=he;exact h.elim
  case row row args=>exact Rows.mono h3 fun u w'' he=>key _ _ he
 | halt x w'=>cases x <;> simp only [Oper.upon] at h3
theorem lateF_put' {o:Oper} (hs:∀ cs b,o.op≠.select cs b) {a:Act} {d:Option Tmp} {v:Value} {F:World->Prop} {T:Value->World->Prop} (h1:∀ t,d=some t->t ∉ o.looksAt ops) (h2:∀ t,d=some t->o.dst≠some t)
  (h:LateF P o a I F T):LateF P o (a.put d v) I F T:=by
 intro w hw hF;have h3:=h w hw hF;unfold Oper.wp at *
 rw [execOp_put o hs a d v h1];have key:∀ (x:Value) w',(∃ u,a.put o.dst x=a.put o.dst u/\I w'/\T u w')->∃ u,(a.put d v).put o.dst x=(a.put d v).put o.dst u/\I w'/\T u w':=by
  rintro x w' ⟨u,e,m,t⟩;exact ⟨u,by rw [Act.put_comm a v x h2,Act.put_comm a v u h2,e],m,t⟩
 generalize (execOp a.eval o).run P w=r at *
 cases r with
 | ok n w' =>
  cases n <;> simp only [Oper.upon] at h3 ⊢
  case value u=>exact key _ _ h3
  case skip=>exact key _ _ h3
  case defer x =>
   obtain ⟨u,e,m,t⟩:=h3;have e2:=congrArg Act.defers e;exfalso;have hl:∀ (b:Act) (d:Option Tmp) (v:Value),(b.put d v).defers=b.defers:=fun b d v=>by cases d <;> rfl
   have e3:x::a.defers=a.defers:=by simpa only [hl] using e2
   have:=congrArg List.length e3;simp at this
  case enter f args =>
   refine Calls.mono h3 fun e w'' he=>?_
   cases e with
   | returned u=>exact key _ _ he
   | panicked c=>exact he.elim
   | outgrown=>obtain ⟨_,_,h⟩:=he;exact h.elim
  case row row args=>exact Rows.mono h3 fun u w'' he=>key _ _ he
 | halt x w'=>cases x <;> simp only [Oper.upon] at h3
def mOp (P:Program) (ops:Array Oper) (I:World->Prop) (L:Nat->Option (Value->World->Prop)) (i:Nat) (K:Act->(World->Prop)->Prop) (a:Act) (F:World->Prop):Prop :=
 match ops[i]?,L i with
 | some o,none=>if Region.wanted o (yielded ops a.tmps) then ∃ v,Steady P o a I v/\K (a.put o.dst v) F else K (a.put o.dst undef) F
 | some o,some T=>o.guard=none/\LateF P o a I F T/\∀ v,K (a.put o.dst v) (fun w=>T v w)
 | none,_=>False
def wpAnyM (P:Program) (md:Region.Mode) (ops:Array Oper) (I:World->Prop) (L:Nat->Option (Value->World->Prop)) (n:Nat) (Fin:Array Bool->Act->(World->Prop)->Prop):Nat->Array Bool->Act->(World->Prop)->Prop
 | 0,listed,a,F=>Fin listed a F
 | f+1,listed,a,F=>Region.ready md ops listed≠[]/\∀ i∈Region.ready md ops listed,i<n/\mOp P ops I L i (wpAnyM P md ops I L n Fin f (listed.setIfInBounds i true)) a F
theorem wp_of_lateF {o:Oper} {a:Act} {F:World->Prop} {T:Value->World->Prop} {K:Act->World->Prop} {Q:Exit->Act->World->Prop} {w:World} (hw:I w) (hF:F w) (h:LateF P o a I F T)
  (hK:∀ v w',I w'->T v w'->K (a.put o.dst v) w'):o.wp P a w K Q:=by
 have h3:=h w hw hF;unfold Oper.wp at *
 generalize (execOp a.eval o).run P w=r at *
 cases r with
 | ok n w' =>
  cases n <;> simp only [Oper.upon] at h3 ⊢
  case value u=>obtain ⟨v,e,m,t⟩:=h3;rw [e];exact hK _ _ m t
  case skip=>obtain ⟨v,e,m,t⟩:=h3;rw [e];exact hK _ _ m t
  case defer d=>obtain ⟨v,e,m,t⟩:=h3;rw [e];exact hK _ _ m t
  case enter f args =>
   refine Calls.mono h3 fun e w'' he=>?_
   cases e with
   | returned u =>
    obtain ⟨v,e,m,t⟩:=he;show K (a.put o.dst u) w'';rw [e];exact hK _ _ m t
   | panicked c=>exact he.elim
   | outgrown=>obtain ⟨_,_,h⟩:=he;exact h.elim
  case row row args=>exact Rows.mono h3 fun u w'' he=>by obtain ⟨v,e,m,t⟩:=he;rw [e];exact hK _ _ m t
 | halt x w'=>cases x <;> simp only [Oper.upon] at h3
variable (hI:∀ w w',I w->Mod [] w w'->I w')
include hI
theorem wpOp_of_mOp {i:Nat} {a:Act} {F:World->Prop} {K:Act->(World->Prop)->Prop} {K':Act->World->Prop} {Q:Exit->Act->World->Prop} {w:World}
  (hT:∀ i T,L i=some T->∀ v,Stays (T v)) (hs:Stays F) (hw:I w) (hF:F w) (h:∀ a F w',I w'->Stays F->F w'->K a F->K' a w') (hh:mOp P ops I L i K a F):wpOp P ops Q i K' a w:=by
 unfold mOp at hh;unfold wpOp
 split at hh
 ·rename_i o ho hl;simp only [ho]
  split
  ·rename_i hwn;simp only [hwn,if_true] at hh;obtain ⟨v,h1,h2⟩:=hh;exact .inl (wp_of_steady hw h1 fun w' m=>h _ _ _ (hI _ _ hw m) hs (hs _ _ hF m) h2)
  ·rename_i hwn;simp only [hwn] at hh;exact h _ _ _ hw hs hF hh
 ·rename_i o T ho hl;obtain ⟨hg,h1,h2⟩:=hh;simp only [ho,Region.wanted,hg,if_true];exact .inl (wp_of_lateF hw hF h1 fun v w' m t=>h _ _ _ m (hT i T hl v) t (h2 v))
 ·exact hh.elim
theorem wpAny_of_M {n g:Nat} {Fin:Array Bool->Act->(World->Prop)->Prop} {Q:Exit->Act->World->Prop} (hT:∀ i T,L i=some T->∀ v,Stays (T v))
  (hFin:∀ listed a F w,I w->F w->Fin listed a F->wpAny P md ops Q g listed a w) :
  ∀ (f:Nat) (listed:Array Bool) (a:Act) (F:World->Prop) (w:World),Stays F->I w->F w->wpAnyM P md ops I L n Fin f listed a F->wpAny P md ops Q (f+g) listed a w
 | 0,listed,a,F,w,_,hw,hF,h=>by rw [Nat.zero_add];exact hFin _ _ _ _ hw hF h
 | f+1,listed,a,F,w,hs,hw,hF,h=>by
  rw [show f+1+g=(f+g)+1 by omega];exact ⟨fun h0=>absurd h0 h.1,fun i hi=>wpOp_of_mOp hI hT hs hw hF (fun a' F' w' hw' hs' hF' h'=>wpAny_of_M hT hFin f _ a' F' w' hs' hw' hF' h') (h.2 i hi).2⟩
omit hI
theorem YieldsS_mOp {i:Nat} {o:Oper} {v:Value} {a:Act} {F:World->Prop} (hi:ops[i]?=some o) (hl:L i=none) (hy:YieldsS P ops I o v a) {K:Act->(World->Prop)->Prop} (h:K (a.put o.dst v) F):mOp P ops I L i K a F:=by
 unfold mOp;simp only [hi,hl];rcases hy with ⟨hw,hv⟩ | ⟨hw,rfl⟩
 ·simp only [hw,if_true];exact ⟨v,hv,h⟩
 ·simp only [hw,Bool.false_eq_true,if_false];exact h
theorem mOp_put {j:Nat} {oi oj:Oper} {v:Value} (hj:ops[j]?=some oj) (hap:oi.apart ops oj=true)
  (hsi:∀ cs b,oi.op≠.select cs b) (hsj:∀ cs b,oj.op≠.select cs b) {K:Act->(World->Prop)->Prop} {a:Act} {F:World->Prop}
  (hy:YieldsS P ops I oi v a) (h:mOp P ops I L j K (a.put oi.dst v) F) :
  mOp P ops I L j (fun a' F'=>YieldsS P ops I oi v a'/\K (a'.put oi.dst v) F') a F:=by
 obtain ⟨h1,h2,h3⟩:=Oper.apart_spec hap;have h2':∀ d,oj.dst=some d->oi.dst≠some d:=fun d hd hi'=>h2 d hi' hd
 have keep:∀ (a:Act),YieldsS P ops I oi v a->∀ u,YieldsS P ops I oi v (a.put oj.dst u):=fun a hy u=>by
  unfold YieldsS at *
  rw [wanted_put oi a oj.dst u h3];exact hy.imp (fun hh=>⟨hh.1,late_put' hsi h3 h2' hh.2⟩) id
 unfold mOp at *
 cases hl:L j with
 | none =>
  simp only [hj,hl] at h ⊢;rw [wanted_put oj a oi.dst v h1] at h
  split
  ·rename_i hw;simp only [hw,if_true] at h;obtain ⟨u,hu,hn⟩:=h;exact ⟨u,late_put hsj h1 h2 hu,keep a hy u,by rw [<- Act.put_comm a v u h2];exact hn⟩
  ·rename_i hw;simp only [hw] at h;exact ⟨keep a hy _,by rw [<- Act.put_comm a v undef h2];exact h⟩
 | some T =>
  simp only [hj,hl] at h ⊢;exact ⟨h.1,lateF_put hsj h1 h2 h.2.1,fun u=>⟨keep a hy u,by rw [<- Act.put_comm a v u h2];exact h.2.2 u⟩⟩
theorem mOp_same {j:Nat} {a:Act} {F:World->Prop} {K K':Act->(World->Prop)->Prop} (h:∀ a F,K a F->K' a F) (hh:mOp P ops I L j K a F):mOp P ops I L j K' a F:=by
 unfold mOp at *
 split
 ·rename_i o ho hl;simp only [ho,hl] at hh
  split
  ·rename_i hw;simp only [hw,if_true] at hh;obtain ⟨v,h1,h2⟩:=hh;exact ⟨v,h1,h _ _ h2⟩
  ·rename_i hw;simp only [hw] at hh;exact h _ _ hh
 ·rename_i o T ho hl;simp only [ho,hl] at hh;exact ⟨hh.1,hh.2.1,fun v=>h _ _ (hh.2.2 v)⟩
 ·rename_i ho;simp only [ho] at hh
theorem wpAnyM_first {n i:Nat} {oi:Oper} {v:Value} {Fin:Array Bool->Act->(World->Prop)->Prop} (hi:ops[i]?=some oi) (hl:L i=none) (hsel:∀ (j:Nat) (o:Oper) cs b,ops[j]?=some o->o.op≠.select cs b)
  (ht:Region.tailB md ops n=true) (hin:i<n) (hdone:∀ listed a F,Fin listed a F->∀ j∈Region.ready md ops listed,n<=j) :
  ∀ (f:Nat) (listed:Array Bool) (a:Act) (F:World->Prop),HeadInv md ops n listed ->
   (∀ j oj,ops[j]?=some oj->j≠i->listed.getD j true=false->(∀ e∈oj.after,Region.binds md e=true->e.on≠i)->oi.apart ops oj=true) ->
   i∈Region.ready md ops listed->YieldsS P ops I oi v a ->
   wpAnyM P md ops I L n Fin f (listed.setIfInBounds i true) (a.put oi.dst v) F->wpAnyM P md ops I L n Fin (f+1) listed a F:=by
 intro f
 induction f with
 | zero =>
  intro listed a F inv _ hr hy H;have hun:=(mem_ready.1 hr).1;refine ⟨fun h=>(by rw [h] at hr;cases hr),fun j hj=>?_⟩;have hjn:=ready_lt ht inv hin hun hj;refine ⟨hjn,?_⟩
  by_cases hji:j=i
  ·subst hji;exact YieldsS_mOp hi hl hy H
  ·have:=hdone _ _ _ H j (ready_mono hj hji);omega
 | succ f ih =>
  intro listed a F inv hfree hr hy H;have hun:=(mem_ready.1 hr).1;refine ⟨fun h=>(by rw [h] at hr;cases hr),fun j hj=>?_⟩;have hjn:=ready_lt ht inv hin hun hj;refine ⟨hjn,?_⟩
  by_cases hji:j=i
  ·subst hji;exact YieldsS_mOp hi hl hy H
  ·have h1:=(H.2 j (ready_mono hj hji)).2;obtain ⟨hjun,oj,hoj,hall⟩:=mem_ready.1 hj;have hnot:∀ e∈oj.after,Region.binds md e=true->e.on≠i:=fun e he hb heq=>by
    have h1:=hall e he hb;rw [heq,getD_both hun] at h1;cases h1
   have h2:=mOp_put hoj (hfree j oj hoj hji hjun hnot) (fun cs b=>hsel i oi cs b hi) (fun cs b=>hsel j oj cs b hoj) hy h1;have hfree':∀ k ok,ops[k]?=some ok->k≠i->(listed.setIfInBounds j true).getD k true=false ->
     (∀ e∈ok.after,Region.binds md e=true->e.on≠i)->oi.apart ops ok=true:=fun k ok hk hki hun hno=>by
    refine hfree k ok hk hki ?_ hno
    by_cases hjk:j=k
    ·subst hjk;exact hjun
    ·rw [getD_set_ne true hjk] at hun;exact hun
   refine mOp_same (fun a' F' h3=>ih (listed.setIfInBounds j true) a' F' (inv.set hj hjn) hfree' (ready_mono hr (Ne.symm hji)) h3.1 ?_) h2;rw [Array.setIfInBounds_comm _ _ hji];exact h3.2
def wpSteady (P:Program) (ops:Array Oper) (I:World->Prop) (K:Act->Prop):List Nat->Act->Prop
 | [],a=>K a
 | i::l,a=>match ops[i]? with
  | none=>False
  | some o=>if Region.wanted o (yielded ops a.tmps) then ∃ v,Steady P o a I v/\wpSteady P ops I K l (a.put o.dst v) else wpSteady P ops I K l (a.put o.dst undef)
theorem wpAnyM_ord {n m:Nat} {late:List Nat} {Fin:Array Bool->Act->(World->Prop)->Prop} {F:World->Prop} {K:Act->Prop} (hsel:Region.noSelect ops=true)
  (ht:Region.tailB md ops n=true) (hdone:∀ listed a F,Fin listed a F->∀ j∈Region.ready md ops listed,n<=j) (hL:∀ i,late.contains i=false->L i=none)
  (hK:∀ a listed,HeadInv md ops n listed->Region.ordB md ops n late [] listed=true->K a->wpAnyM P md ops I L n Fin m listed a F) :
  ∀ (l:List Nat) (listed:Array Bool) (a:Act),HeadInv md ops n listed->Region.ordB md ops n late l listed=true->wpSteady P ops I K l a ->
   wpAnyM P md ops I L n Fin (l.length+m) listed a F
 | [],listed,a,inv,hB,h=>by rw [List.length_nil,Nat.zero_add];exact hK _ _ inv hB h
 | i::l,listed,a,inv,hB,h=>by
  simp only [Region.ordB,Bool.and_eq_true,decide_eq_true_eq,Bool.not_eq_true'] at hB;obtain ⟨⟨⟨⟨hin,hnl⟩,hr⟩,hf⟩,hB'⟩:=hB;have hr':i∈Region.ready md ops listed:=by simpa using hr
  unfold wpSteady at h;cases ho:ops[i]? with
  | none=>simp only [ho] at h
  | some o =>
   simp only [ho] at h;obtain ⟨v,hy,hk⟩:∃ v,YieldsS P ops I o v a/\wpSteady P ops I K l (a.put o.dst v):=by
    by_cases hw:Region.wanted o (yielded ops a.tmps)=true
    ·simp only [hw,if_true] at h;obtain ⟨v,h1,h2⟩:=h;exact ⟨v,.inl ⟨hw,h1⟩,h2⟩
    ·simp only [hw] at h;exact ⟨undef,.inr ⟨by simpa using hw,rfl⟩,h⟩
   rw [List.length_cons,show l.length+1+m=(l.length+m)+1 by omega];exact wpAnyM_first ho (hL i hnl) (Region.noSelect_spec hsel) ht hin hdone (l.length+m) listed a F inv (Region.free_spec ho hf) hr' hy
    (wpAnyM_ord hsel ht hdone hL hK l _ _ (inv.set hr' hin) hB' hk)
def wpChain (P:Program) (ops:Array Oper) (I:World->Prop) (E:Act->(World->Prop)->Prop):List (Nat×(Value->World->Prop))->Act->(World->Prop)->Prop
 | [],a,F=>E a F
 | p::l,a,F=>match ops[p.1]? with
  | none=>False
  | some o=>o.guard=none/\LateF P o a I F p.2/\∀ v,wpChain P ops I E l (a.put o.dst v) (fun w=>p.2 v w)
theorem wpChain_mono {E E':Act->(World->Prop)->Prop} (hE:∀ a F F',(∀ w,F' w->F w)->E a F->E' a F'):∀ (l:List (Nat×(Value->World->Prop))) (a:Act) (F F':World->Prop),(∀ w,F' w->F w)->wpChain P ops I E l a F->wpChain P ops I E' l a F'
 | [],_,_,_,hF,h=>hE _ _ _ hF h
 | p::l,a,F,F',hF,h=>by
  unfold wpChain at *
  split
  ·rename_i ho;simp only [ho] at h
  ·rename_i o ho;simp only [ho] at h;exact ⟨h.1,h.2.1.weak hF,fun v=>wpChain_mono hE l _ _ _ (fun w hw=>hw) (h.2.2 v)⟩
theorem wpAnyM_chain {n g:Nat} {E:Act->(World->Prop)->Prop} (ht:Region.tailB md ops n=true) (hd:Region.downB md ops=true) (hn:n<=ops.size) (hseq:Region.seqB md ops g n (Region.canon ops n)=true) :
  ∀ (m:Nat) (lc:List (Nat×(Value->World->Prop))) (listed:Array Bool) (a:Act) (F:World->Prop),lc.length=m->HeadInv md ops n listed ->
   Ch.chainC md ops (lc.map (·.1))=true->(lc.map (·.1)).Nodup->(∀ p∈lc,L p.1=some p.2)->(∀ i,i<n->(listed.getD i true=false↔i∈lc.map (·.1)))->(∀ p∈lc,p.1<n) ->
   wpChain P ops I E lc a F->wpAnyM P md ops I L n (fun listed' a' F'=>Region.seqB md ops g n listed'=true/\E a' F') m listed a F:=by
 intro m
 induction m with
 | zero =>
  intro lc listed a F hlen inv _ _ _ hun _ h;obtain rfl:=List.length_eq_zero_iff.1 hlen;refine ⟨?_,h⟩;have:listed=Region.canon ops n:=by
   refine Array.ext (by simp [Region.canon,inv.size]) fun i hi hi'=>?_
   simp only [Region.canon,List.getElem_toArray,List.getElem_map,List.getElem_range]
   by_cases hin:i<n
   ·have:=(hun i hin).1;simp [hi] at this;simp [this,hin]
   ·have h2:=inv.tail i (by omega) (by rw [<- inv.size];exact hi);simp [hi] at h2;simp [h2,hin]
  rw [this];exact hseq
 | succ m ih =>
  intro lc listed a F hlen inv hcc hnd hLc hun hltc h;cases lc with
  | nil=>simp at hlen
  | cons p lc =>
   have hp0:listed.getD p.1 true=false:=(hun p.1 (hltc p (by simp))).2 (by simp);refine ⟨ready_some hd p.1 (by have:=hltc p (by simp);omega) hp0,fun j hj=>?_⟩;have hjn:=ready_lt ht inv (hltc p (by simp)) hp0 hj;refine ⟨hjn,?_⟩;have hsz:j<listed.size:=by rw [inv.size];omega
   have hjl:=(hun j hjn).1 (mem_ready.1 hj).1;have hjp:j=p.1:=by
    rcases List.mem_cons.1 (by simpa using hjl:j∈p.1::lc.map (·.1)) with h1 | h1
    ·exact h1
    ·exact absurd hj (Ch.chain_head (lc.map (·.1)) p.1 (by simpa using hcc) (fun k hk=>(hun k (by
      obtain ⟨q,hq,rfl⟩:=List.mem_map.1 (by simpa using hk:k∈(p::lc).map (·.1))
      exact hltc q hq)).2 (by simpa using hk)) j h1)
   subst hjp;unfold wpChain at h;cases ho:ops[p.1]? with
   | none=>simp only [ho] at h
   | some o =>
    simp only [ho] at h;unfold mOp;simp only [ho,hLc p (by simp)];have hnd':=List.nodup_cons.1 (by simpa using hnd:(p.1::lc.map (·.1)).Nodup);refine ⟨h.1,h.2.1,fun v=>ih lc _ _ _ (by simpa using hlen) (inv.set hj hjn) ?_ hnd'.2 (fun q hq=>hLc q (List.mem_cons_of_mem _ hq)) ?_ (fun q hq=>hltc q (List.mem_cons_of_mem _ hq)) (h.2.2 v)⟩
    ·cases lc with
     | nil=>rfl
     | cons q lc=>simp only [List.map_cons,Ch.chainC,Bool.and_eq_true] at hcc ⊢;exact hcc.2
    ·intro i hin
     by_cases hij:p.1=i
     ·subst hij;constructor
      ·intro h2;simp [hsz] at h2
      ·intro h2;exact absurd h2 hnd'.1
     ·rw [getD_set_ne true hij,hun i hin];simp only [List.map_cons,List.mem_cons];constructor
      ·rintro (h2 | h2)
       ·exact absurd h2.symm hij
       ·exact h2
      ·intro h2;exact .inr h2
theorem wpSteady_mono {K K':Act->Prop} (h:∀ a,K a->K' a):∀ (l:List Nat) (a:Act),wpSteady P ops I K l a->wpSteady P ops I K' l a
 | [],a,hh=>h a hh
 | i::l,a,hh=>by
  unfold wpSteady at *
  split
  ·rename_i ho;simp only [ho] at hh
  ·rename_i o ho;simp only [ho] at hh
   split
   ·rename_i hw;simp only [hw,if_true] at hh;obtain ⟨v,h1,h2⟩:=hh;exact ⟨v,h1,wpSteady_mono h l _ h2⟩
   ·rename_i hw;simp only [hw] at hh;exact wpSteady_mono h l _ hh
include hI in
def wpSteadyL (P:Program) (ops:Array Oper) (I:World->Prop) (K:Act->Prop):List Oper->Act->Prop
 | [],a=>K a
 | o::l,a=>if Region.wanted o (yielded ops a.tmps) then ∃ v,Steady P o a I v/\wpSteadyL P ops I K l (a.put o.dst v) else wpSteadyL P ops I K l (a.put o.dst undef)
theorem steady_of_list {K:Act->Prop}:∀ (m:List Bool) (k:Nat) (l:List Oper) (a:Act),(∀ j,l[j]?=ops[k+j]?)->m.length<=l.length->wpSteadyL P ops I K (pickM l m) a->wpSteady P ops I K (idxM k m) a
 | [],_,l,_,_,_,h=>by cases l <;> exact h
 | b::m,k,[],_,_,hl,_=>by simp at hl
 | b::m,k,o::l,a,hj,hl,h=>by
  have h0:ops[k]?=some o:=by simpa using (hj 0).symm
  have hj':∀ j,l[j]?=ops[k+1+j]?:=fun j=>by have:=hj (j+1);simpa [Nat.add_assoc,Nat.add_comm 1 j] using this
  have hl':m.length<=l.length:=by simpa using hl
  cases b with
  | false=>exact steady_of_list m (k+1) l a hj' hl' h
  | true =>
   simp only [pickM,wpSteadyL] at h;simp only [idxM,wpSteady,h0]
   split
   ·rename_i hw;rw [if_pos hw] at h;obtain ⟨v,h1,h2⟩:=h;exact ⟨v,h1,steady_of_list m (k+1) l _ hj' hl' h2⟩
   ·rename_i hw;rw [if_neg hw] at h;exact steady_of_list m (k+1) l _ hj' hl' h
structure WSteady (P:Program) (ops:Array Oper) (I:World->Prop) (K:Act->Prop) (l:List Oper) (a:Act):Prop where
 out:wpSteadyL P ops I K l a
structure WChain (P:Program) (ops:Array Oper) (I:World->Prop) (E:Act->(World->Prop)->Prop) (l:List (Nat×(Value->World->Prop))) (a:Act) (F:World->Prop):Prop where
 out:wpChain P ops I E l a F
include hI in
theorem steady_go {w0:World} (hw0:I w0) {K:Act->Prop} {l:List Oper} {a a':Act} {o:Oper} (hg:Region.wanted o (yielded ops a.tmps)=true) (hd:a'.defers=a.defers)
  (h:∀ w,I w->∀ (K:Act->World->Prop) (Q:Exit->Act->World->Prop),(∀ w',Mod [] w w'->K a' w')->o.wp P a w K Q) (hr:WSteady P ops I K l a'):WSteady P ops I K (o::l) a:=by
 refine ⟨?_⟩;obtain ⟨u,hu⟩:=put_of_wp (R:=fun _=>True) hd (h w0 hw0 _ _ fun w' _=>⟨rfl,trivial⟩);unfold wpSteadyL;rw [if_pos hg];refine ⟨u,fun w hw=>h w hw _ _ fun w' m=>⟨u,hu.symm,m,rfl⟩,?_⟩;rw [hu];exact hr.out
theorem steady_done {K:Act->Prop} {a:Act} (h:K a):WSteady P ops I K [] a:=⟨h⟩
theorem chain_end {E:Act->(World->Prop)->Prop} {a:Act} {F:World->Prop} (h:E a F):WChain P ops I E [] a F:=⟨h⟩
end
def Know (Post:World->Prop) (r:Value) (v:Value) (w:World):Prop:=v=r/\Post w
theorem know_stays {Post:World->Prop} (hP:Stays Post) (r v:Value):Stays (Know Post r v):=fun w w' h k=>⟨h.1,hP _ _ h.2 k⟩
end Rg
namespace Sw
abbrev Fact:=Value->World->Prop
section
variable {P:Program} {ops:Array Oper} {md:Region.Mode} {I:World->Prop} {L:Nat->Option Fact}
def mOp (P:Program) (ops:Array Oper) (I:World->Prop) (L:Nat->Option (Value->World->Prop)) (i:Nat) (K:Act->(World->Prop)->Prop) (a:Act) (F:World->Prop):Prop :=
 match ops[i]?,L i with
 | some o,none=>if Region.wanted o (yielded ops a.tmps) then ∃ v,Rg.Steady P o a I v/\K (a.put o.dst v) F else K (a.put o.dst undef) F
 | some o,some T=>Region.wanted o (yielded ops a.tmps)=true/\Rg.LateF P o a I F T/\∀ v,(∃ w,I w/\T v w)->K (a.put o.dst v) (fun w=>T v w)
 | none,_=>False
def wpAnyM (P:Program) (md:Region.Mode) (ops:Array Oper) (I:World->Prop) (L:Nat->Option (Value->World->Prop)) (n:Nat) (Fin:Array Bool->Act->(World->Prop)->Prop):Nat->Array Bool->Act->(World->Prop)->Prop
 | 0,listed,a,F=>Fin listed a F
 | f+1,listed,a,F=>Region.ready md ops listed≠[]/\∀ i∈Region.ready md ops listed,i<n/\mOp P ops I L i (wpAnyM P md ops I L n Fin f (listed.setIfInBounds i true)) a F
variable (hI:∀ w w',I w->Mod [] w w'->I w')
include hI
theorem wpOp_of_mOp {i:Nat} {a:Act} {F:World->Prop} {K:Act->(World->Prop)->Prop} {K':Act->World->Prop} {Q:Exit->Act->World->Prop} {w:World}
  (hT:∀ i T,L i=some T->∀ v,Stays (T v)) (hs:Stays F) (hw:I w) (hF:F w) (h:∀ a F w',I w'->Stays F->F w'->K a F->K' a w') (hh:mOp P ops I L i K a F):wpOp P ops Q i K' a w:=by
 unfold mOp at hh;unfold wpOp
 split at hh
 ·rename_i o ho hl;simp only [ho]
  split
  ·rename_i hwn;simp only [hwn,if_true] at hh;obtain ⟨v,h1,h2⟩:=hh;exact .inl (Rg.wp_of_steady hw h1 fun w' m=>h _ _ _ (hI _ _ hw m) hs (hs _ _ hF m) h2)
  ·rename_i hwn;simp only [hwn] at hh;exact h _ _ _ hw hs hF hh
 ·rename_i o T ho hl;obtain ⟨hg,h1,h2⟩:=hh;simp only [ho,hg,if_true];exact .inl (Rg.wp_of_lateF hw hF h1 fun v w' m t=>h _ _ _ m (hT i T hl v) t (h2 v ⟨w',m,t⟩))
 ·exact hh.elim
theorem wpAny_of_M {n g:Nat} {Fin:Array Bool->Act->(World->Prop)->Prop} {Q:Exit->Act->World->Prop} (hT:∀ i T,L i=some T->∀ v,Stays (T v))
  (hFin:∀ listed a F w,I w->F w->Fin listed a F->wpAny P md ops Q g listed a w) :
  ∀ (f:Nat) (listed:Array Bool) (a:Act) (F:World->Prop) (w:World),Stays F->I w->F w->wpAnyM P md ops I L n Fin f listed a F->wpAny P md ops Q (f+g) listed a w
 | 0,listed,a,F,w,_,hw,hF,h=>by rw [Nat.zero_add];exact hFin _ _ _ _ hw hF h
 | f+1,listed,a,F,w,hs,hw,hF,h=>by
  rw [show f+1+g=(f+g)+1 by omega];exact ⟨fun h0=>absurd h0 h.1,fun i hi=>wpOp_of_mOp hI hT hs hw hF (fun a' F' w' hw' hs' hF' h'=>wpAny_of_M hT hFin f _ a' F' w' hs' hw' hF' h') (h.2 i hi).2⟩
omit hI
theorem YieldsS_mOp {i:Nat} {o:Oper} {v:Value} {a:Act} {F:World->Prop} (hi:ops[i]?=some o) (hl:L i=none) (hy:Rg.YieldsS P ops I o v a) {K:Act->(World->Prop)->Prop} (h:K (a.put o.dst v) F):mOp P ops I L i K a F:=by
 unfold mOp;simp only [hi,hl];rcases hy with ⟨hw,hv⟩ | ⟨hw,rfl⟩
 ·simp only [hw,if_true];exact ⟨v,hv,h⟩
 ·simp only [hw,Bool.false_eq_true,if_false];exact h
theorem mOp_put {j:Nat} {oi oj:Oper} {v:Value} (hj:ops[j]?=some oj) (hap:oi.apart ops oj=true)
  (hsi:∀ cs b,oi.op≠.select cs b) (hsj:∀ cs b,oj.op≠.select cs b) {K:Act->(World->Prop)->Prop} {a:Act} {F:World->Prop}
  (hy:Rg.YieldsS P ops I oi v a) (h:mOp P ops I L j K (a.put oi.dst v) F) :
  mOp P ops I L j (fun a' F'=>Rg.YieldsS P ops I oi v a'/\K (a'.put oi.dst v) F') a F:=by
 obtain ⟨h1,h2,h3⟩:=Oper.apart_spec hap;have h2':∀ d,oj.dst=some d->oi.dst≠some d:=fun d hd hi'=>h2 d hi' hd
 have keep:∀ (a:Act),Rg.YieldsS P ops I oi v a->∀ u,Rg.YieldsS P ops I oi v (a.put oj.dst u):=fun a hy u=>by
  unfold Rg.YieldsS at *
  rw [wanted_put oi a oj.dst u h3];exact hy.imp (fun hh=>⟨hh.1,Rg.late_put' hsi h3 h2' hh.2⟩) id
 unfold mOp at *
 cases hl:L j with
 | none =>
  simp only [hj,hl] at h ⊢;rw [wanted_put oj a oi.dst v h1] at h
  split
  ·rename_i hw;simp only [hw,if_true] at h;obtain ⟨u,hu,hn⟩:=h;exact ⟨u,Rg.late_put hsj h1 h2 hu,keep a hy u,by rw [<- Act.put_comm a v u h2];exact hn⟩
  ·rename_i hw;simp only [hw] at h;exact ⟨keep a hy _,by rw [<- Act.put_comm a v undef h2];exact h⟩
 | some T =>
  simp only [hj,hl] at h ⊢;rw [wanted_put oj a oi.dst v h1] at h;exact ⟨h.1,Rg.lateF_put hsj h1 h2 h.2.1,fun u hu=>⟨keep a hy u,by rw [<- Act.put_comm a v u h2];exact h.2.2 u hu⟩⟩
theorem mOp_same {j:Nat} {a:Act} {F:World->Prop} {K K':Act->(World->Prop)->Prop} (h:∀ a F,K a F->K' a F) (hh:mOp P ops I L j K a F):mOp P ops I L j K' a F:=by
 unfold mOp at *
 split
 ·rename_i o ho hl;simp only [ho,hl] at hh
  split
  ·rename_i hw;simp only [hw,if_true] at hh;obtain ⟨v,h1,h2⟩:=hh;exact ⟨v,h1,h _ _ h2⟩
  ·rename_i hw;simp only [hw] at hh;exact h _ _ hh
 ·rename_i o T ho hl;simp only [ho,hl] at hh;exact ⟨hh.1,hh.2.1,fun v hv=>h _ _ (hh.2.2 v hv)⟩
 ·rename_i ho;simp only [ho] at hh
theorem wpAnyM_first {n i:Nat} {oi:Oper} {v:Value} {Fin:Array Bool->Act->(World->Prop)->Prop} (hi:ops[i]?=some oi) (hl:L i=none) (hsel:∀ (j:Nat) (o:Oper) cs b,ops[j]?=some o->o.op≠.select cs b)
  (ht:Region.tailB md ops n=true) (hin:i<n) (hdone:∀ listed a F,Fin listed a F->∀ j∈Region.ready md ops listed,n<=j) :
  ∀ (f:Nat) (listed:Array Bool) (a:Act) (F:World->Prop),HeadInv md ops n listed ->
   (∀ j oj,ops[j]?=some oj->j≠i->listed.getD j true=false->(∀ e∈oj.after,Region.binds md e=true->e.on≠i)->oi.apart ops oj=true) ->
   i∈Region.ready md ops listed->Rg.YieldsS P ops I oi v a ->
   wpAnyM P md ops I L n Fin f (listed.setIfInBounds i true) (a.put oi.dst v) F->wpAnyM P md ops I L n Fin (f+1) listed a F:=by
 intro f
 induction f with
 | zero =>
  intro listed a F inv _ hr hy H;have hun:=(mem_ready.1 hr).1;refine ⟨fun h=>(by rw [h] at hr;cases hr),fun j hj=>?_⟩;have hjn:=ready_lt ht inv hin hun hj;refine ⟨hjn,?_⟩
  by_cases hji:j=i
  ·subst hji;exact YieldsS_mOp hi hl hy H
  ·have:=hdone _ _ _ H j (ready_mono hj hji);omega
 | succ f ih =>
  intro listed a F inv hfree hr hy H;have hun:=(mem_ready.1 hr).1;refine ⟨fun h=>(by rw [h] at hr;cases hr),fun j hj=>?_⟩;have hjn:=ready_lt ht inv hin hun hj;refine ⟨hjn,?_⟩
  by_cases hji:j=i
  ·subst hji;exact YieldsS_mOp hi hl hy H
  ·have h1:=(H.2 j (ready_mono hj hji)).2;obtain ⟨hjun,oj,hoj,hall⟩:=mem_ready.1 hj;have hnot:∀ e∈oj.after,Region.binds md e=true->e.on≠i:=fun e he hb heq=>by
    have h1:=hall e he hb;rw [heq,getD_both hun] at h1;cases h1
   have h2:=mOp_put hoj (hfree j oj hoj hji hjun hnot) (fun cs b=>hsel i oi cs b hi) (fun cs b=>hsel j oj cs b hoj) hy h1;have hfree':∀ k ok,ops[k]?=some ok->k≠i->(listed.setIfInBounds j true).getD k true=false ->
     (∀ e∈ok.after,Region.binds md e=true->e.on≠i)->oi.apart ops ok=true:=fun k ok hk hki hun hno=>by
    refine hfree k ok hk hki ?_ hno
    by_cases hjk:j=k
    ·subst hjk;exact hjun
    ·rw [getD_set_ne true hjk] at hun;exact hun
   refine mOp_same (fun a' F' h3=>ih (listed.setIfInBounds j true) a' F' (inv.set hj hjn) hfree' (ready_mono hr (Ne.symm hji)) h3.1 ?_) h2;rw [Array.setIfInBounds_comm _ _ hji];exact h3.2
def wpToks (P:Program) (ops:Array Oper) (I:World->Prop) (E:Act->(World->Prop)->Prop):List (Nat×Option Fact)->Act->(World->Prop)->Prop
 | [],a,F=>E a F
 | p::l,a,F=>match ops[p.1]?,p.2 with
  | none,_=>False
  | some o,none=>if Region.wanted o (yielded ops a.tmps) then ∃ v,Rg.Steady P o a I v/\wpToks P ops I E l (a.put o.dst v) F else wpToks P ops I E l (a.put o.dst undef) F
  | some o,some T=>Region.wanted o (yielded ops a.tmps)=true/\Rg.LateF P o a I F T/\∀ v,(∃ w,I w/\T v w)->wpToks P ops I E l (a.put o.dst v) (fun w=>T v w)
def toksB (md:Region.Mode) (ops:Array Oper) (n:Nat):List (Nat×Bool)->Array Bool->Bool
 | [],listed=>Region.seqB md ops (ops.size - n) n listed
 | p::l,listed=>decide (p.1<n) && (if p.2 then Region.ready md ops listed == [p.1] else (Region.ready md ops listed).contains p.1 && Region.free md ops listed p.1) && toksB md ops n l (listed.setIfInBounds p.1 true)
theorem wpAnyM_toks {n:Nat} {E:Act->(World->Prop)->Prop} (hsel:Region.noSelect ops=true) (ht:Region.tailB md ops n=true) :
  ∀ (l:List (Nat×Option Fact)) (listed:Array Bool) (a:Act) (F:World->Prop),HeadInv md ops n listed->toksB md ops n (l.map fun p=>(p.1,p.2.isSome)) listed=true->(∀ p∈l,L p.1=p.2)->wpToks P ops I E l a F ->
   wpAnyM P md ops I L n (fun listed' a' F'=>Region.seqB md ops (ops.size - n) n listed'=true/\E a' F') l.length listed a F
 | [],listed,a,F,inv,hB,hL,h=>⟨hB,h⟩
 | (i,none)::l,listed,a,F,inv,hB,hL,h=>by
  simp only [List.map_cons,toksB,Bool.and_eq_true,decide_eq_true_eq,Option.isSome_none,Bool.false_eq_true,if_false] at hB;obtain ⟨⟨hin,hr,hf⟩,hB'⟩:=hB;have hr':i∈Region.ready md ops listed:=by simpa using hr
  unfold wpToks at h;cases ho:ops[i]? with
  | none=>simp only [ho] at h
  | some o =>
   simp only [ho] at h;obtain ⟨v,hy,hk⟩:∃ v,Rg.YieldsS P ops I o v a/\wpToks P ops I E l (a.put o.dst v) F:=by
    by_cases hw:Region.wanted o (yielded ops a.tmps)=true
    ·simp only [hw,if_true] at h;obtain ⟨v,h1,h2⟩:=h;exact ⟨v,.inl ⟨hw,h1⟩,h2⟩
    ·simp only [hw] at h;exact ⟨undef,.inr ⟨by simpa using hw,rfl⟩,h⟩
   exact wpAnyM_first ho (hL (i,none) (by simp)) (Region.noSelect_spec hsel) ht hin (fun listed a F hf=>seqB_ready hf.1) l.length listed a F inv (Region.free_spec ho hf) hr' hy
    (wpAnyM_toks hsel ht l _ _ _ (inv.set hr' hin) hB' (fun p hp=>hL p (List.mem_cons_of_mem _ hp)) hk)
 | (i,some T)::l,listed,a,F,inv,hB,hL,h=>by
  simp only [List.map_cons,toksB,Bool.and_eq_true,decide_eq_true_eq,Option.isSome_some,if_true] at hB;obtain ⟨⟨hin,hr⟩,hB'⟩:=hB;have hr':Region.ready md ops listed=[i]:=by simpa using hr
  unfold wpToks at h;cases ho:ops[i]? with
  | none=>simp only [ho] at h
  | some o =>
   simp only [ho] at h;refine ⟨by rw [hr'];simp,fun j hj=>?_⟩;rw [hr'] at hj;obtain rfl:=List.mem_singleton.1 hj;refine ⟨hin,?_⟩;unfold mOp;simp only [ho,hL (j,some T) (by simp)];exact ⟨h.1,h.2.1,fun v hv=>wpAnyM_toks hsel ht l _ _ _ (inv.set (by rw [hr'];simp) hin) hB' (fun p hp=>hL p (List.mem_cons_of_mem _ hp)) (h.2.2 v hv)⟩
def lookT (l:List (Nat×Option Fact)) (i:Nat):Option Fact:=(l.find? fun p=>p.1 == i).bind (·.2)
theorem lookT_mem:∀ (l:List (Nat×Option Fact)),(l.map (·.1)).Nodup->∀ p∈l,lookT l p.1=p.2
 | q::l,hn,p,hp=>by
  simp only [List.map_cons,List.nodup_cons] at hn;unfold lookT
  by_cases hq:q.1=p.1
  ·rw [List.find?_cons_of_pos (by simpa using hq)];rcases List.mem_cons.1 hp with h | h
   ·rw [h];rfl
   ·exact absurd (by rw [hq];exact List.mem_map_of_mem h) hn.1
  ·rw [List.find?_cons_of_neg (by simpa using hq)];rcases List.mem_cons.1 hp with h | h
   ·exact absurd (by rw [h]) hq
   ·exact lookT_mem l hn.2 p h
theorem lookT_some {l:List (Nat×Option Fact)} {i:Nat} {T:Fact} (h:lookT l i=some T):(i,some T)∈l:=by
 unfold lookT at h;cases hf:l.find? (fun p=>p.1 == i) with
 | none=>rw [hf] at h;cases h
 | some p =>
  rw [hf] at h;have h1:=List.find?_some hf;have h2:=List.mem_of_find?_eq_some hf;simp only [beq_iff_eq] at h1;obtain ⟨q,r⟩:=p;simp only at h1;subst h1;simp only [Option.bind_some] at h;subst h;exact h2
structure WToks (P:Program) (ops:Array Oper) (I:World->Prop) (E:Act->(World->Prop)->Prop) (l:List (Nat×Option Fact)) (a:Act) (F:World->Prop):Prop where
 out:wpToks P ops I E l a F
def ndB:List Nat->Bool
 | []=>true
 | x::l=>!l.contains x && ndB l
theorem nodup_of:∀ {l:List Nat},ndB l=true->l.Nodup
 | [],_=>List.nodup_nil
 | x::l,h=>by
  simp only [ndB,Bool.and_eq_true,Bool.not_eq_true'] at h;exact List.nodup_cons.2 ⟨by simpa using h.1,nodup_of h.2⟩
include hI in
theorem wp_region_sw {id:Nat} {Q:Exit->Act->World->Prop} {a:Act} {w:World} {l:List Oper} (n:Nat) (toks:List (Nat×Option Fact))
  (hm:P.follows .mixedOrders=true) (hB:(Region.noSelect l.toArray && decide (n<=l.length) && decide (toks.length=n) && Region.tailB .any l.toArray n && toksB .any l.toArray n (toks.map fun p=>(p.1,p.2.isSome)) (Array.replicate l.toArray.size false))=true)
  (hn:(toks.map (·.1)).Nodup) (hT:∀ p∈toks,∀ T,p.2=some T->∀ v,Stays (T v)) (hw:I w.drew) {F0:World->Prop} (hF0:Stays F0) (hw0:F0 w.drew)
  (h:WToks P l.toArray I (fun a' F=>∀ w',I w'->F w'->wpList P l.toArray Q (l.drop n) a' w') toks a F0) :
  (Code.region id l.toArray true).wp P Q a w:=by
 simp only [Bool.and_eq_true,decide_eq_true_eq] at hB;obtain ⟨⟨⟨⟨hsel,hnl⟩,hlen⟩,ht⟩,hB'⟩:=hB;have inv0:HeadInv .any l.toArray n (Array.replicate l.toArray.size false) :=
  ⟨by simp,fun j oj _ hl=>(by rw [getD_replicate_false] at hl;cases hl),fun t _ ht=>getD_in (by simpa using ht) (getD_replicate_false _ _)⟩
 have H:=wpAnyM_toks (P:=P) (I:=I) (L:=lookT toks) hsel ht toks _ a _ inv0 hB' (lookT_mem toks hn) h.out;refine wp_region_any hm ?_;have hdl:(l.drop n).length=l.toArray.size - n:=by simp
 have hfin:=wpAny_of_M hI (P:=P) (md:=.any) (ops:=l.toArray) (Q:=Q) (g:=l.toArray.size - n) (fun i T hi v=>hT _ (lookT_some hi) T rfl v) (fun listed a F w' hw hF hf=>by
  have:=wpAny_of_seq (md:=.any) (Q':=Q) (l.drop n) n listed a w' (fun j=>by simp [List.getElem?_drop]) (by rw [hdl];exact hf.1) (hf.2 w' hw hF)
  rwa [hdl] at this) _ _ _ _ w.drew hF0 hw hw0 H
 have hl2:toks.length+(l.toArray.size - n)=l.toArray.size:=by simp;omega
 rwa [hl2] at hfin
theorem nil_go {E:Act->(World->Prop)->Prop} {a:Act} {F:World->Prop} (h:E a F):WToks P ops I E [] a F:=⟨h⟩
theorem v_go {w0:World} (hw0:I w0) {E:Act->(World->Prop)->Prop} {l:List (Nat×Option Fact)} {a a':Act} {F:World->Prop} {i:Nat} {o:Oper} (ho:ops[i]?=some o) (hg:Region.wanted o (yielded ops a.tmps)=true) (hd:a'.defers=a.defers)
  (h:∀ w,I w->∀ (K:Act->World->Prop) (Q:Exit->Act->World->Prop),(∀ w',Mod [] w w'->K a' w')->o.wp P a w K Q) (hr:WToks P ops I E l a' F):WToks P ops I E ((i,none)::l) a F:=by
 refine ⟨?_⟩;obtain ⟨u,hu⟩:=put_of_wp (R:=fun _=>True) hd (h w0 hw0 _ _ fun w' _=>⟨rfl,trivial⟩);unfold wpToks;simp only [ho];rw [if_pos hg];refine ⟨u,fun w hw=>h w hw _ _ fun w' m=>⟨u,hu.symm,m,rfl⟩,?_⟩;rw [hu];exact hr.out
theorem p_go {E:Act->(World->Prop)->Prop} {l:List (Nat×Option Fact)} {a a':Act} {F:World->Prop} {i:Nat} {o:Oper} (ho:ops[i]?=some o) (hg:Region.wanted o (yielded ops a.tmps)=false) (hp:a.put o.dst undef=a') (hr:WToks P ops I E l a' F):WToks P ops I E ((i,none)::l) a F:=by
 refine ⟨?_⟩;unfold wpToks;simp only [ho];rw [if_neg (by rw [hg];exact Bool.false_ne_true),hp];exact hr.out
theorem x_go {E:Act->(World->Prop)->Prop} {l:List (Nat×Option Fact)} {a:Act} {F:World->Prop} {T:Fact} {f:Value->Act} {i:Nat} {o:Oper} (ho:ops[i]?=some o) (hg:Region.wanted o (yielded ops a.tmps)=true) (hf:∀ v,f v=a.put o.dst v)
  (h:∀ w,I w->F w->∀ (K:Act->World->Prop) (Q:Exit->Act->World->Prop),(∀ v w',I w'->T v w'->K (f v) w')->o.wp P a w K Q)
  (hk:∀ v,(∃ w,I w/\T v w)->WToks P ops I E l (f v) (fun w=>T v w)):WToks P ops I E ((i,some T)::l) a F:=by
 refine ⟨?_⟩;unfold wpToks;simp only [ho];refine ⟨hg,fun w hw hF=>h w hw hF _ _ fun v w' m t=>⟨v,hf v,m,t⟩,fun v hv=>?_⟩;rw [<- hf v];exact (hk v hv).out
end
end Sw
namespace Sa
abbrev Fc:=World->Prop
inductive Tok where
 | v
 | x (T:Fc)
 | al (f:Nat->Value) (T:Nat->Fc)
section
variable {P:Program} {ops:Array Oper} {md:Region.Mode} {I:World->Prop} {J:World->World->Prop}
def Run (P:Program) (o:Oper) (a:Act) (pre:Fc) (post:World->Value->World->Prop):Prop:=∀ w0,pre w0->Rg.LateF P o a (fun _=>True) (fun w=>w=w0) (post w0)
theorem Run.weak {o:Oper} {a:Act} {pre pre':Fc} {post:World->Value->World->Prop} (h:Run P o a pre post) (hp:∀ w,pre' w->pre w):Run P o a pre' post:=fun w0 h0=>h w0 (hp w0 h0)
theorem Run.put {o:Oper} (hs:∀ cs b,o.op≠.select cs b) {a:Act} {d:Option Tmp} {v:Value} {pre:Fc} {post:World->Value->World->Prop} (h1:∀ t,d=some t->t ∉ o.looksAt ops) (h2:∀ t,d=some t->o.dst≠some t)
  (h:Run P o (a.put d v) pre post):Run P o a pre post:=fun w0 h0=>Rg.lateF_put hs h1 h2 (h w0 h0)
theorem Run.put' {o:Oper} (hs:∀ cs b,o.op≠.select cs b) {a:Act} {d:Option Tmp} {v:Value} {pre:Fc} {post:World->Value->World->Prop} (h1:∀ t,d=some t->t ∉ o.looksAt ops) (h2:∀ t,d=some t->o.dst≠some t)
  (h:Run P o a pre post):Run P o (a.put d v) pre post:=fun w0 h0=>Rg.lateF_put' hs h1 h2 (h w0 h0)
def postV (u:Value) (w0:World) (v:Value) (w:World):Prop:=v=u/\Mod [] w0 w
def postX (I:World->Prop) (J:World->World->Prop) (r:Value) (T:Fc) (w0:World) (v:Value) (w:World):Prop:=v=r/\I w/\J w0 w/\T w
def postA (f:Nat->Value) (T:Nat->Fc) (w0:World) (v:Value) (w:World):Prop:=∃ b,v=f b/\Mod [] w0 w/\T b w
def step (P:Program) (ops:Array Oper) (I:World->Prop) (J:World->World->Prop) (p:Nat×Tok) (K:Act->Fc->Fc->Prop) (a:Act) (F G:Fc):Prop :=
 match ops[p.1]? with
 | none=>False
 | some o=>match p.2 with
  | .v=>if Region.wanted o (yielded ops a.tmps)=true then ∃ u,Run P o a (fun w=>I w/\G w) (postV u)/\K (a.put o.dst u) F G else K (a.put o.dst undef) F G
  | .x T=>Region.wanted o (yielded ops a.tmps)=true/\∃ r,Run P o a (fun w=>I w/\F w) (postX I J r T)/\K (a.put o.dst r) T G
  | .al f T=>Region.wanted o (yielded ops a.tmps)=true/\Run P o a I (postA f T)/\∀ b,K (a.put o.dst (f b)) F (fun w=>G w/\T b w)
def game (P:Program) (ops:Array Oper) (I:World->Prop) (J:World->World->Prop) (E:Act->Fc->Fc->Prop):List (Nat×Tok)->Act->Fc->Fc->Prop
 | []=>E
 | p::l=>step P ops I J p (game P ops I J E l)
def Mono (K:Act->Fc->Fc->Prop):Prop:=∀ a F G G',(∀ w,G' w->G w)->K a F G->K a F G'
theorem step_same {p:Nat×Tok} {K K':Act->Fc->Fc->Prop} (h:∀ a F G,K a F G->K' a F G) {a:Act} {F G:Fc} (hh:step P ops I J p K a F G):step P ops I J p K' a F G:=by
 unfold step at *
 split at hh
 ·exact hh
 ·rename_i o ho
  split at hh
  ·split at hh
   ·rename_i hw;rw [if_pos hw];obtain ⟨u,h1,h2⟩:=hh;exact ⟨u,h1,h _ _ _ h2⟩
   ·rename_i hw;rw [if_neg hw];exact h _ _ _ hh
  ·obtain ⟨h1,r,h2,h3⟩:=hh;exact ⟨h1,r,h2,h _ _ _ h3⟩
  ·exact ⟨hh.1,hh.2.1,fun b=>h _ _ _ (hh.2.2 b)⟩
theorem step_mono {p:Nat×Tok} {K:Act->Fc->Fc->Prop} (hK:Mono K):Mono (step P ops I J p K):=by
 intro a F G G' hG hh;unfold step at *
 split at hh
 ·exact hh
 ·rename_i o ho
  split at hh
  ·split at hh
   ·rename_i hw;rw [if_pos hw];obtain ⟨u,h1,h2⟩:=hh;exact ⟨u,h1.weak fun w h=>⟨h.1,hG w h.2⟩,hK _ _ _ _ hG h2⟩
   ·rename_i hw;rw [if_neg hw];exact hK _ _ _ _ hG hh
  ·obtain ⟨h1,r,h2,h3⟩:=hh;exact ⟨h1,r,h2,hK _ _ _ _ hG h3⟩
  ·exact ⟨hh.1,hh.2.1,fun b=>hK _ _ _ _ (fun w h=>⟨hG w h.1,h.2⟩) (hh.2.2 b)⟩
theorem game_mono {E:Act->Fc->Fc->Prop} (hE:Mono E):∀ l,Mono (game P ops I J E l)
 | []=>hE
 | p::l=>step_mono (game_mono hE l)
theorem step_swap {h p:Nat×Tok} {K:Act->Fc->Fc->Prop} (hK:Mono K) (hsel:∀ (j:Nat) (o:Oper) cs b,ops[j]?=some o->o.op≠.select cs b) {oh op:Oper} (hh:ops[h.1]?=some oh) (hp:ops[p.1]?=some op)
  (hap:oh.apart ops op=true) (hxx:∀ T T',h.2=.x T->p.2≠.x T') (hal:∀ f T,h.2=.al f T->∃ f' T',p.2=.al f' T')
  {a:Act} {F G:Fc} (H:step P ops I J h (step P ops I J p K) a F G):step P ops I J p (step P ops I J h K) a F G:=by
 obtain ⟨h1,h2,h3⟩:=Oper.apart_spec hap;have h2':∀ d,op.dst=some d->oh.dst≠some d:=fun d hd hi'=>h2 d hi' hd
 have sh:=fun cs b=>hsel h.1 oh cs b hh
 have sp:=fun cs b=>hsel p.1 op cs b hp
 have wp:∀ a v,Region.wanted op (yielded ops (Act.put a oh.dst v).tmps)=Region.wanted op (yielded ops a.tmps):=fun a v=>wanted_put op a oh.dst v h1
 have wh:∀ a v,Region.wanted oh (yielded ops (Act.put a op.dst v).tmps)=Region.wanted oh (yielded ops a.tmps):=fun a v=>wanted_put oh a op.dst v h3
 have cm:∀ a v u,(Act.put a oh.dst v).put op.dst u=(Act.put a op.dst u).put oh.dst v:=fun a v u=>Act.put_comm a v u h2
 unfold step at H ⊢;simp only [hh,hp] at H ⊢;rcases hk:h.2 with _ | T | ⟨f,T⟩
 ·simp only [hk] at H;rcases hq:p.2 with _ | T' | ⟨f',T'⟩
  ·simp only [hq] at H ⊢
   by_cases w1:Region.wanted oh (yielded ops a.tmps)=true
   ·rw [if_pos w1] at H;obtain ⟨u,r1,r2⟩:=H;rw [wp] at r2
    by_cases w2:Region.wanted op (yielded ops a.tmps)=true
    ·rw [if_pos w2] at r2 ⊢;obtain ⟨u',r3,r4⟩:=r2;refine ⟨u',r3.put sp h1 h2,?_⟩;rw [wh,if_pos w1];exact ⟨u,r1.put' sh h3 h2',by rw [<- cm];exact r4⟩
    ·rw [if_neg w2] at r2 ⊢;rw [wh,if_pos w1];exact ⟨u,r1.put' sh h3 h2',by rw [<- cm];exact r2⟩
   ·rw [if_neg w1] at H;rw [wp] at H
    by_cases w2:Region.wanted op (yielded ops a.tmps)=true
    ·rw [if_pos w2] at H ⊢;obtain ⟨u',r3,r4⟩:=H;refine ⟨u',r3.put sp h1 h2,?_⟩;rw [wh,if_neg w1,<- cm];exact r4
    ·rw [if_neg w2] at H ⊢;rw [wh,if_neg w1,<- cm];exact H
  ·simp only [hq] at H ⊢
   by_cases w1:Region.wanted oh (yielded ops a.tmps)=true
   ·rw [if_pos w1] at H;obtain ⟨u,r1,r2,r,r3,r4⟩:=H;rw [wp] at r2;refine ⟨r2,r,r3.put sp h1 h2,?_⟩;rw [wh,if_pos w1];exact ⟨u,r1.put' sh h3 h2',by rw [<- cm];exact r4⟩
   ·rw [if_neg w1] at H;obtain ⟨r2,r,r3,r4⟩:=H;rw [wp] at r2;refine ⟨r2,r,r3.put sp h1 h2,?_⟩;rw [wh,if_neg w1,<- cm];exact r4
  ·simp only [hq] at H ⊢
   by_cases w1:Region.wanted oh (yielded ops a.tmps)=true
   ·rw [if_pos w1] at H;obtain ⟨u,r1,r2,r3,r4⟩:=H;rw [wp] at r2;refine ⟨r2,r3.put sp h1 h2,fun b=>?_⟩;rw [wh,if_pos w1];exact ⟨u,(r1.put' sh h3 h2').weak fun w h=>⟨h.1,h.2.1⟩,by rw [<- cm];exact r4 b⟩
   ·rw [if_neg w1] at H;obtain ⟨r2,r3,r4⟩:=H;rw [wp] at r2;refine ⟨r2,r3.put sp h1 h2,fun b=>?_⟩;rw [wh,if_neg w1,<- cm];exact r4 b
 ·simp only [hk] at H;obtain ⟨w1,r,r1,H⟩:=H;rcases hq:p.2 with _ | T' | ⟨f',T'⟩
  ·simp only [hq] at H ⊢;rw [wp] at H
   by_cases w2:Region.wanted op (yielded ops a.tmps)=true
   ·rw [if_pos w2] at H ⊢;obtain ⟨u',r3,r4⟩:=H;refine ⟨u',r3.put sp h1 h2,by rw [wh];exact w1,r,r1.put' sh h3 h2',by rw [<- cm];exact r4⟩
   ·rw [if_neg w2] at H ⊢;exact ⟨by rw [wh];exact w1,r,r1.put' sh h3 h2',by rw [<- cm];exact H⟩
  ·exact absurd hq (hxx T T' hk)
  ·simp only [hq] at H ⊢;obtain ⟨r2,r3,r4⟩:=H;rw [wp] at r2;exact ⟨r2,r3.put sp h1 h2,fun b=>⟨by rw [wh];exact w1,r,r1.put' sh h3 h2',by rw [<- cm];exact r4 b⟩⟩
 ·simp only [hk] at H;obtain ⟨w1,r1,H⟩:=H;obtain ⟨f',T',hq⟩:=hal f T hk;simp only [hq] at H ⊢;have H0:=H 0;refine ⟨by have:=H0.1;rw [wp] at this;exact this,H0.2.1.put sp h1 h2,fun b=>⟨by rw [wh];exact w1,r1.put' sh h3 h2',fun b'=>?_⟩⟩;rw [<- cm];exact hK _ _ _ _ (fun w hw=>⟨⟨hw.1.1,hw.2⟩,hw.1.2⟩) ((H b').2.2 b)
def waitsB (md:Region.Mode) (ops:Array Oper):Nat->Nat->Nat->Bool
 | 0,_,_=>false
 | f+1,i,j=>match ops[i]? with
  | none=>false
  | some o=>o.after.any fun e=>Region.binds md e && (e.on == j || waitsB md ops f e.on j)
theorem waits_listed {n:Nat} {listed:Array Bool} (inv:HeadInv md ops n listed) {j:Nat}:∀ (f i:Nat),(∀ o,ops[i]?=some o->∀ e∈o.after,Region.binds md e=true->listed.getD e.on false=true)->waitsB md ops f i j=true->listed.getD j false=true
 | f+1,i,h,hw=>by
  unfold waitsB at hw;cases ho:ops[i]? with
  | none=>simp only [ho] at hw;cases hw
  | some o =>
   simp only [ho,Array.any_eq_true,Bool.and_eq_true,Bool.or_eq_true,beq_iff_eq] at hw;obtain ⟨q,hq,hb,hj⟩:=hw;have he:o.after[q]∈o.after:=Array.getElem_mem hq;generalize o.after[q]=e at *
   have hl:=h o ho e he hb;rcases hj with rfl | hj
   ·exact hl
   ·exact waits_listed inv f e.on (fun o' ho' e' he' hb'=>inv.closed e.on o' ho' hl e' he' hb') hj
def kind:Tok->Nat | .v=>0 | .x _=>1 | .al _ _=>2
def pairB (md:Region.Mode) (ops:Array Oper) (h p:Nat×Nat):Bool :=
 waitsB md ops ops.size p.1 h.1 || ((match ops[h.1]?,ops[p.1]? with | some oh,some op=>oh.apart ops op | _,_=>false) && !(h.2 == 1 && p.2 == 1) && (h.2 != 2 || p.2 == 2))
def pairsB (md:Region.Mode) (ops:Array Oper):List (Nat×Nat)->Bool
 | []=>true
 | h::l=>l.all (fun p=>pairB md ops h p) && pairsB md ops l
def rem (i:Nat) (l:List (Nat×Tok)):List (Nat×Tok):=l.filter fun p=>p.1 != i
theorem rem_head {h:Nat×Tok} {l:List (Nat×Tok)} (hn:h.1 ∉ l.map (·.1)):rem h.1 (h::l)=l:=by
 unfold rem;rw [List.filter_cons_of_neg (by simp)];exact List.filter_eq_self.2 fun p hp=>by
  have:p.1≠h.1:=fun he=>hn (by rw [<- he];exact List.mem_map_of_mem hp)
  simpa using this
theorem rem_tail {h:Nat×Tok} {l:List (Nat×Tok)} {i:Nat} (hn:h.1≠i):rem i (h::l)=h::rem i l:=by
 unfold rem;rw [List.filter_cons_of_pos (by simpa using hn)]
theorem game_pick {E:Act->Fc->Fc->Prop} (hE:Mono E) (hsel:Region.noSelect ops=true) {p:Nat×Tok}:∀ (l:List (Nat×Tok)) (a:Act) (F G:Fc),pairsB md ops (l.map fun q=>(q.1,kind q.2))=true->(l.map (·.1)).Nodup->p∈l ->
  (∀ q∈l,waitsB md ops ops.size p.1 q.1=false)->game P ops I J E l a F G->step P ops I J p (game P ops I J E (rem p.1 l)) a F G
 | h::l,a,F,G,hB,hn,hp,hw,H=>by
  simp only [List.map_cons,List.nodup_cons] at hn
  by_cases he:h.1=p.1
  ·obtain rfl:p=h:=by
    rcases List.mem_cons.1 hp with h1 | h1
    ·exact h1
    ·exact absurd (he ▸ List.mem_map_of_mem h1) hn.1
   rw [rem_head hn.1];exact H
  ·have hp':p∈l:=by
    rcases List.mem_cons.1 hp with h1 | h1
    ·exact absurd (by rw [h1]) he
    ·exact h1
   simp only [List.map_cons,pairsB,Bool.and_eq_true,List.all_eq_true] at hB;have hpair:=hB.1 (p.1,kind p.2) (List.mem_map.2 ⟨p,hp',rfl⟩);unfold pairB at hpair;simp only [hw h (by simp),Bool.false_or,Bool.and_eq_true] at hpair;obtain ⟨⟨hap,hxx⟩,hal⟩:=hpair;rw [rem_tail he];cases hoh:ops[h.1]? with
   | none=>simp only [hoh] at hap;cases hap
   | some oh =>
    cases hop:ops[p.1]? with
    | none=>simp only [hoh,hop] at hap;cases hap
    | some op =>
     simp only [hoh,hop] at hap;refine step_swap (game_mono hE _) (Region.noSelect_spec hsel) hoh hop hap ?_ ?_ (step_same (fun a F G h=>game_pick hE hsel l a F G hB.2 hn.2 hp' (fun q hq=>hw q (List.mem_cons_of_mem _ hq)) h) H)
     ·intro T T' h1 h2;rw [h1,h2] at hxx;simp [kind] at hxx
     ·intro f T h1;rw [h1] at hal;rcases hq:p.2 with _ | T' | ⟨f',T'⟩
      ·rw [hq] at hal;simp [kind] at hal
      ·rw [hq] at hal;simp [kind] at hal
      ·exact ⟨f',T',rfl⟩
def JStays (J:World->World->Prop) (T:Fc):Prop:=∀ w w',T w->J w w'->T w'
def Good (J:World->World->Prop):Tok->Prop
 | .v=>True
 | .x T=>Stays T
 | .al _ T=>∀ b,JStays J (T b)
theorem rem_length {i:Nat}:∀ {l:List (Nat×Tok)},(l.map (·.1)).Nodup->i∈l.map (·.1)->(rem i l).length+1=l.length
 | h::l,hn,hi=>by
  simp only [List.map_cons,List.nodup_cons] at hn
  by_cases he:h.1=i
  ·subst he;rw [rem_head hn.1];rfl
  ·rw [rem_tail he,List.length_cons,List.length_cons]
   have:=rem_length hn.2 (by
    rcases List.mem_cons.1 (by simpa using hi:i∈h.1::l.map (·.1)) with h1 | h1
    ·exact absurd h1.symm he
    ·exact h1)
   omega
theorem rem_sub {i:Nat} {l:List (Nat×Tok)}:(rem i l).Sublist l:=List.filter_sublist
theorem pairsB_sub {l l':List (Nat×Nat)} (h:l'.Sublist l):pairsB md ops l=true->pairsB md ops l'=true:=by
 induction h with
 | slnil=>exact id
 | cons a _ ih=>intro hb;simp only [pairsB,Bool.and_eq_true] at hb;exact ih hb.2
 | cons_cons a hs ih =>
  intro hb;simp only [pairsB,Bool.and_eq_true,List.all_eq_true] at hb ⊢;exact ⟨fun p hp=>hb.1 p (hs.subset hp),ih hb.2⟩
theorem mem_rem {i:Nat} {l:List (Nat×Tok)} {j:Nat}:j∈(rem i l).map (·.1)↔j∈l.map (·.1)/\j≠i:=by
 unfold rem;simp only [List.mem_map,List.mem_filter,bne_iff_ne,ne_eq];constructor
 ·rintro ⟨p,⟨h1,h2⟩,rfl⟩;exact ⟨⟨p,h1,rfl⟩,h2⟩
 ·rintro ⟨⟨p,h1,rfl⟩,h2⟩;exact ⟨p,⟨h1,h2⟩,rfl⟩
theorem wpAny_game (hI:∀ w w',I w->Mod [] w w'->I w') (hJ:∀ w w',Mod [] w w'->J w w') {Q:Exit->Act->World->Prop} {rest:List Oper} {n:Nat} (hsel:Region.noSelect ops=true) (ht:Region.tailB md ops n=true) (hd:Region.downB md ops=true) (hn:n<=ops.size)
  (hseq:Region.seqB md ops rest.length n (Region.canon ops n)=true) (hrest:∀ j,rest[j]?=ops[n+j]?) :
  ∀ (m:Nat) (l:List (Nat×Tok)) (listed:Array Bool) (a:Act) (F G:Fc) (w:World),l.length=m->HeadInv md ops n listed->pairsB md ops (l.map fun q=>(q.1,kind q.2))=true->(l.map (·.1)).Nodup->(∀ i,i<n->(listed.getD i true=false↔i∈l.map (·.1)))->(∀ p∈l,p.1<n)->(∀ p∈l,Good J p.2) ->
   Stays F->JStays J G->I w->F w->G w->game P ops I J (fun a F G=>∀ w',I w'->F w'->G w'->wpList P ops Q rest a w') l a F G->wpAny P md ops Q (m+rest.length) listed a w:=by
 intro m
 induction m with
 | zero =>
  intro l listed a F G w hlen inv _ _ hun _ _ _ _ hw hF hG H;obtain rfl:=List.length_eq_zero_iff.1 hlen;rw [Nat.zero_add];have hc:listed=Region.canon ops n:=by
   refine Array.ext (by simp [Region.canon,inv.size]) fun i hi hi'=>?_
   simp only [Region.canon,List.getElem_toArray,List.getElem_map,List.getElem_range]
   by_cases hin:i<n
   ·have:=(hun i hin).1;simp [hi] at this;simp [this,hin]
   ·have h2:=inv.tail i (by omega) (by rw [<- inv.size];exact hi);simp [hi] at h2;simp [h2,hin]
  exact wpAny_of_seq rest n listed a w hrest (by rw [hc];exact hseq) (H w hw hF hG)
 | succ m ih =>
  intro l listed a F G w hlen inv hB hnd hun hlt hgood hsF hsG hw hF hG H;rw [show m+1+rest.length=(m+rest.length)+1 by omega];obtain ⟨p0,hp0⟩:∃ p,p∈l:=by
   cases l with
   | nil=>simp at hlen
   | cons p _=>exact ⟨p,by simp⟩
  have hu0:listed.getD p0.1 true=false:=(hun p0.1 (hlt p0 hp0)).2 (List.mem_map_of_mem hp0);refine ⟨fun h0=>absurd h0 (ready_some hd p0.1 (by have:=hlt p0 hp0;omega) hu0),fun i hi=>?_⟩;have hin:=ready_lt ht inv (hlt p0 hp0) hu0 hi;obtain ⟨hiu,oi,hoi,hall⟩:=mem_ready.1 hi;obtain ⟨p,hp,rfl⟩:=List.mem_map.1 ((hun i hin).1 hiu);have hnw:∀ q∈l,waitsB md ops ops.size p.1 q.1=false:=fun q hq=>by
   by_cases hb:waitsB md ops ops.size p.1 q.1=true
   ·have h1:=waits_listed inv ops.size p.1 (fun o ho e he hb=>by rw [hoi] at ho;cases ho;exact hall e he hb) hb;have h2:=getD_both ((hun q.1 (hlt q hq)).2 (List.mem_map_of_mem hq));rw [h2] at h1;cases h1
   ·simpa using hb
  have hE:Mono (fun (a:Act) (F G:Fc)=>∀ w',I w'->F w'->G w'->wpList P ops Q rest a w'):=fun a F G G' hG' h w' h1 h2 h3=>h w' h1 h2 (hG' w' h3)
  have hpk:=game_pick hE hsel l a F G hB hnd hp hnw H;have next:∀ a' F' G' w',Stays F'->JStays J G'->I w'->F' w'->G' w'->game P ops I J (fun a F G=>∀ w',I w'->F w'->G w'->wpList P ops Q rest a w') (rem p.1 l) a' F' G'->wpAny P md ops Q (m+rest.length) (listed.setIfInBounds p.1 true) a' w':=by
   intro a' F' G' w' s1 s2 i1 i2 i3 hg;refine ih (rem p.1 l) _ a' F' G' w' ?_ (inv.set hi hin) (pairsB_sub (rem_sub.map _) hB) (List.Nodup.sublist (rem_sub.map _) hnd) ?_ (fun q hq=>hlt q (rem_sub.subset hq)) (fun q hq=>hgood q (rem_sub.subset hq)) s1 s2 i1 i2 i3 hg
   ·have:=rem_length hnd (List.mem_map_of_mem hp);omega
   ·intro j hj;rw [mem_rem]
    by_cases hij:p.1=j
    ·subst hij;constructor
     ·intro h2;simp [show p.1<listed.size by rw [inv.size];omega] at h2
     ·intro h2;exact absurd rfl h2.2
    ·rw [getD_set_ne true hij,hun j hj];exact ⟨fun h=>⟨h,fun he=>hij he.symm⟩,fun h=>h.1⟩
  unfold step at hpk;unfold wpOp;simp only [hoi] at hpk ⊢;have hgp:=hgood p hp;rcases hk:p.2 with _ | T | ⟨f,T⟩
  ·simp only [hk] at hpk
   by_cases w1:Region.wanted oi (yielded ops a.tmps)=true
   ·rw [if_pos w1] at hpk ⊢;obtain ⟨u,r1,r2⟩:=hpk;left;exact Rg.wp_of_lateF (F:=fun x=>x=w) trivial rfl (r1 w ⟨hw,hG⟩) fun v w' _ h=>by
     obtain ⟨rfl,hm⟩:=h;exact next _ _ _ w' hsF hsG (hI _ _ hw hm) (hsF _ _ hF hm) (hsG _ _ hG (hJ _ _ hm)) r2
   ·rw [if_neg w1] at hpk ⊢;exact next _ _ _ w hsF hsG hw hF hG hpk
  ·simp only [hk] at hpk;obtain ⟨w1,r,r1,r2⟩:=hpk;rw [if_pos w1];left;exact Rg.wp_of_lateF (F:=fun x=>x=w) trivial rfl (r1 w ⟨hw,hF⟩) fun v w' _ h=>by
    obtain ⟨rfl,h1,h2,h3⟩:=h;exact next _ _ _ w' (by rw [hk] at hgp;exact hgp) hsG h1 h3 (hsG _ _ hG h2) r2
  ·simp only [hk] at hpk;obtain ⟨w1,r1,r2⟩:=hpk;rw [if_pos w1];left;exact Rg.wp_of_lateF (F:=fun x=>x=w) trivial rfl (r1 w hw) fun v w' _ h=>by
    obtain ⟨b,rfl,hm,h3⟩:=h;rw [hk] at hgp;exact next _ _ _ w' hsF (fun x y hx hy=>⟨hsG _ _ hx.1 hy,hgp b _ _ hx.2 hy⟩) (hI _ _ hw hm) (hsF _ _ hF hm) ⟨hsG _ _ hG (hJ _ _ hm),h3⟩ (r2 b)
def gameB (md:Region.Mode) (ops:Array Oper) (n:Nat) (l:List (Nat×Nat)):Bool :=
 Region.noSelect ops && decide (n<=ops.size) && decide (l.length=n) && l.all (fun p=>decide (p.1<n)) && Region.tailB md ops n && Region.downB md ops && Region.seqB md ops (ops.size - n) n (Region.canon ops n) && pairsB md ops l && Sw.ndB (l.map (·.1)) && (List.range n).all (fun i=>(l.map (·.1)).contains i)
structure WGame (P:Program) (ops:Array Oper) (I:World->Prop) (J:World->World->Prop) (E:Act->Fc->Fc->Prop) (l:List (Nat×Tok)) (a:Act) (F G:Fc):Prop where
 out:game P ops I J E l a F G
theorem wp_region_sa (hI:∀ w w',I w->Mod [] w w'->I w') (hJ:∀ w w',Mod [] w w'->J w w') {id:Nat} {Q:Exit->Act->World->Prop} {a:Act} {w:World} {l:List Oper} (n:Nat) (toks:List (Nat×Tok)) (ks:List (Nat×Nat)) (hks:toks.map (fun q=>(q.1,kind q.2))=ks)
  (hm:P.follows .mixedOrders=true) (hB:gameB .any l.toArray n ks=true) (hgood:∀ p∈toks,Good J p.2) (hw:I w.drew) {F0:Fc} (hF0:Stays F0) (hw0:F0 w.drew)
  (h:WGame P l.toArray I J (fun a' F G=>∀ w',I w'->F w'->G w'->wpList P l.toArray Q (l.drop n) a' w') toks a F0 (fun _=>True)) :
  (Code.region id l.toArray true).wp P Q a w:=by
 subst hks;simp only [gameB,Bool.and_eq_true,decide_eq_true_eq,List.length_map] at hB;obtain ⟨⟨⟨⟨⟨⟨⟨⟨⟨hsel,hn⟩,hlen⟩,hlt⟩,ht⟩,hd⟩,hseq⟩,hpairs⟩,hnd⟩,hall⟩:=hB;have hmap:(toks.map fun q=>(q.1,kind q.2)).map (·.1)=toks.map (·.1):=by rw [List.map_map];rfl
 rw [hmap] at hnd hall;have inv0:HeadInv .any l.toArray n (Array.replicate l.toArray.size false) :=
  ⟨by simp,fun j oj _ hl=>(by rw [getD_replicate_false] at hl;cases hl),fun t _ ht=>getD_in (by simpa using ht) (getD_replicate_false _ _)⟩
 have hdl:(l.drop n).length=l.toArray.size - n:=by simp
 refine wp_region_any hm ?_;have H:=wpAny_game (P:=P) hI hJ (Q:=Q) (rest:=l.drop n) hsel ht hd hn (by rw [hdl];exact hseq) (fun j=>by simp [List.getElem?_drop]) toks.length toks _ a F0 (fun _=>True) w.drew rfl inv0 hpairs (Sw.nodup_of hnd)
  (fun i hi=>by
   have:=List.all_eq_true.1 hall i (List.mem_range.2 hi);constructor
   ·intro _;simpa using this
   ·intro _;exact getD_in (by simp at hn ⊢;omega) (getD_replicate_false _ _))
  (fun p hp=>by
   have:=List.all_eq_true.1 hlt (p.1,kind p.2) (List.mem_map.2 ⟨p,hp,rfl⟩)
   simpa using this) hgood hF0 (fun _ _ _ _=>trivial) hw hw0 trivial h.out
 have hl2:toks.length+(l.drop n).length=l.toArray.size:=by rw [hdl];simp only [List.size_toArray] at hn ⊢;omega
 rwa [hl2] at H
def slotOf (a:Act):Option Tmp->Value
 | some t=>a.tmps.getD t undef
 | none=>undef
theorem v_go {E:Act->Fc->Fc->Prop} {l:List (Nat×Tok)} {a a':Act} {F G:Fc} {i:Nat} {o:Oper} (ho:ops[i]?=some o) (hg:Region.wanted o (yielded ops a.tmps)=true)
  (h:∀ w,I w->G w->∀ (K:Act->World->Prop) (Q:Exit->Act->World->Prop),(∀ w',Mod [] w w'->K a' w')->o.wp P a w K Q) (hp:a.put o.dst (slotOf a' o.dst)=a') (hr:WGame P ops I J E l a' F G):WGame P ops I J E ((i,.v)::l) a F G:=by
 refine ⟨?_⟩;unfold game step;simp only [ho];rw [if_pos hg];refine ⟨slotOf a' o.dst,fun w1 h1 w _ e=>?_,by rw [hp];exact hr.out⟩;subst e;exact h w h1.1 h1.2 _ _ fun w' m=>⟨_,hp.symm,trivial,rfl,m⟩
theorem p_go {E:Act->Fc->Fc->Prop} {l:List (Nat×Tok)} {a a':Act} {F G:Fc} {i:Nat} {o:Oper} (ho:ops[i]?=some o) (hg:Region.wanted o (yielded ops a.tmps)=false) (hp:a.put o.dst undef=a') (hr:WGame P ops I J E l a' F G):WGame P ops I J E ((i,.v)::l) a F G:=by
 refine ⟨?_⟩;unfold game step;simp only [ho];rw [if_neg (by rw [hg];exact Bool.false_ne_true),hp];exact hr.out
theorem x_go {E:Act->Fc->Fc->Prop} {l:List (Nat×Tok)} {a a':Act} {F G T:Fc} {i:Nat} {o:Oper} (ho:ops[i]?=some o) (hg:Region.wanted o (yielded ops a.tmps)=true)
  (h:∀ w,I w->F w->∀ (K:Act->World->Prop) (Q:Exit->Act->World->Prop),(∀ w',I w'->J w w'->T w'->K a' w')->o.wp P a w K Q) (hp:a.put o.dst (slotOf a' o.dst)=a') (hr:WGame P ops I J E l a' T G):WGame P ops I J E ((i,.x T)::l) a F G:=by
 refine ⟨?_⟩;unfold game step;simp only [ho];refine ⟨hg,slotOf a' o.dst,fun w1 h1 w _ e=>?_,by rw [hp];exact hr.out⟩;subst e;exact h w h1.1 h1.2 _ _ fun w' a1 a2 a3=>⟨_,hp.symm,trivial,rfl,a1,a2,a3⟩
theorem a_go {E:Act->Fc->Fc->Prop} {l:List (Nat×Tok)} {a:Act} {F G:Fc} {g:Nat->Value} {T:Nat->Fc} {f:Value->Act} {i:Nat} {o:Oper} (ho:ops[i]?=some o) (hg:Region.wanted o (yielded ops a.tmps)=true) (hf:∀ v,f v=a.put o.dst v)
  (h:∀ w,I w->∀ (K:Act->World->Prop) (Q:Exit->Act->World->Prop),(∀ b w',Mod [] w w'->T b w'->K (f (g b)) w')->o.wp P a w K Q) (hr:∀ b,WGame P ops I J E l (f (g b)) F (fun w=>G w/\T b w)):WGame P ops I J E ((i,.al g T)::l) a F G:=by
 refine ⟨?_⟩;unfold game step;simp only [ho];refine ⟨hg,fun w1 h1 w _ e=>?_,fun b=>by rw [<- hf];exact (hr b).out⟩;subst e;exact h w h1 _ _ fun b w' m t=>⟨g b,hf _,trivial,b,rfl,m,t⟩
theorem nil_go {E:Act->Fc->Fc->Prop} {a:Act} {F G:Fc} (h:E a F G):WGame P ops I J E [] a F G:=⟨h⟩
end
end Sa
section
variable {P:Program} {ops:Array Oper} {W:World}
theorem sv {K:Act->Prop} {l:List Oper} {a a':Act} {o:Oper} (hr:WSteady P ops W K l a') (hg:Region.wanted o (yielded ops a.tmps)=true:=by kernel_rfl)
  (h:∀ w,Mod [] W w->∀ (K:Act->World->Prop) (Q:Exit->Act->World->Prop),(∀ w',Mod [] w w'->K a' w')->o.wp P a w K Q:=by (intro w' hw' K Q hK;go_wp2_with fail;first | exact hK _ (Mod.refl _ _) | exact Mod.refl _ _)) (hd:a'.defers=a.defers:=by rfl):WSteady P ops W K (o::l) a:=steady_go hg hd h hr
theorem sc {K:Act->Prop} {l:List Oper} {a a':Act} {o:Oper} (h:∀ w,Mod [] W w->∀ (K:Act->World->Prop) (Q:Exit->Act->World->Prop),(∀ w',Mod [] w w'->K a' w')->o.wp P a w K Q) (hd:a'.defers=a.defers) (hr:WSteady P ops W K l a')
  (hg:Region.wanted o (yielded ops a.tmps)=true:=by kernel_rfl):WSteady P ops W K (o::l) a:=steady_go hg hd h hr
namespace Sw
theorem vv {I:World->Prop} {w0:World} (hw0:I w0) {E:Act->(World->Prop)->Prop} {l:List (Nat×Option Fact)} {a a':Act} {F:World->Prop} {i:Nat} {o:Oper} (hr:WToks P ops I E l a' F) (ho:ops[i]?=some o:=by rfl) (hg:Region.wanted o (yielded ops a.tmps)=true:=by kernel_rfl)
  (h:∀ w,I w->∀ (K:Act->World->Prop) (Q:Exit->Act->World->Prop),(∀ w',Mod [] w w'->K a' w')->o.wp P a w K Q:=by (intro w' hw' K Q hK;go_wp2_with fail;first | exact hK _ (Mod.refl _ _) | exact Mod.refl _ _)) (hd:a'.defers=a.defers:=by rfl):WToks P ops I E ((i,none)::l) a F:=v_go hw0 ho hg hd h hr
theorem xx {I:World->Prop} {E:Act->(World->Prop)->Prop} {l:List (Nat×Option Fact)} {a:Act} {F:World->Prop} {T:Fact} {f:Value->Act} {i:Nat} {o:Oper}
  (h:∀ w,I w->F w->∀ (K:Act->World->Prop) (Q:Exit->Act->World->Prop),(∀ v w',I w'->T v w'->K (f v) w')->o.wp P a w K Q)
  (hk:∀ v,(∃ w,I w/\T v w)->WToks P ops I E l (f v) (fun w=>T v w)) (ho:ops[i]?=some o:=by rfl) (hg:Region.wanted o (yielded ops a.tmps)=true:=by kernel_rfl)
  (hf:∀ v,f v=a.put o.dst v:=by (intro v;simp only [Act.put];(try simp only [List.setIfInBounds_toArray]);(try simp only [List.set_cons_succ,List.set_cons_zero]);exact rfl)):WToks P ops I E ((i,some T)::l) a F:=x_go ho hg hf h hk
end Sw
namespace Sq
theorem vv {E:Act->(World->Prop)->Prop} {l:List (Nat×Option Fact)} {a a':Act} {F:World->Prop} {i:Nat} {o:Oper} (hr:WToks P ops W E l a' F) (ho:ops[i]?=some o:=by rfl) (hg:Region.wanted o (yielded ops a.tmps)=true:=by kernel_rfl)
  (h:∀ w,Mod [] W w->∀ (K:Act->World->Prop) (Q:Exit->Act->World->Prop),(∀ w',Mod [] w w'->K a' w')->o.wp P a w K Q:=by (intro w' hw' K Q hK;go_wp2_with fail;first | exact hK _ (Mod.refl _ _) | exact Mod.refl _ _)) (hd:a'.defers=a.defers:=by rfl):WToks P ops W E ((i,none)::l) a F:=v_go ho hg hd h hr
end Sq
namespace Sa
theorem vv {I:World->Prop} {J:World->World->Prop} {E:Act->Fc->Fc->Prop} {l:List (Nat×Tok)} {a a':Act} {F G:Fc} {i:Nat} {o:Oper} (hr:WGame P ops I J E l a' F G) (ho:ops[i]?=some o:=by rfl) (hg:Region.wanted o (yielded ops a.tmps)=true:=by kernel_rfl)
  (h:∀ w,I w->G w->∀ (K:Act->World->Prop) (Q:Exit->Act->World->Prop),(∀ w',Mod [] w w'->K a' w')->o.wp P a w K Q:=by (intro w' hw' hG K Q hK;go_wp2_with fail;first | exact hK _ (Mod.refl _ _) | exact Mod.refl _ _)) (hp:a.put o.dst (slotOf a' o.dst)=a':=by kernel_rfl):WGame P ops I J E ((i,.v)::l) a F G:=v_go ho hg h hp hr
end Sa
end
structure OwnF (F:List Nat) (w0 w:World) (l:List (Nat×Array Value×TypeId)):Prop where
 mod:Mod F w0 w
 old:∀ x∈F,x<w0.heap.size
 blk:∀ p∈l,w0.heap.size<=p.1/\Blk w p.1 p.2.1 p.2.2
 nodup:(l.map (·.1)).Nodup
section
variable {F:List Nat} {w0 w w':World} {l:List (Nat×Array Value×TypeId)} {b:Nat} {cs:Array Value} {t:TypeId}
theorem OwnF.of (S:Own w0 w l) (hF:∀ x∈F,x<w0.heap.size):OwnF F w0 w l:=⟨S.mod.more (by simp),hF,S.blk,S.nodup⟩
theorem OwnF.off (S:OwnF F w0 w l) (m:Mod F w0 w') (h:∀ p∈l,w'.heap[p.1]?=w.heap[p.1]?):OwnF F w0 w' l:=⟨m,S.old,fun p hp=>⟨(S.blk p hp).1,(h p hp).trans (S.blk p hp).2⟩,S.nodup⟩
theorem OwnF.callF (S:OwnF F w0 w l) (m:Mod F w w'):OwnF F w0 w' l :=
 S.off (S.mod.then m) fun p hp=>m.block p.1 (S.blk p hp).2.lt (fun h=>by have:=S.old _ h;have:=(S.blk p hp).1;omega)
theorem OwnF.call (S:OwnF F w0 w l) (m:Mod [] w w'):OwnF F w0 w' l:=S.callF (m.more (by simp))
theorem OwnF.at (S:OwnF F w0 w l) (k:Nat) (hk:l[k]?=some (b,cs,t)):Blk w b cs t:=(S.blk _ (List.mem_of_getElem? hk)).2
theorem OwnF.ge (S:OwnF F w0 w l) (k:Nat) (hk:l[k]?=some (b,cs,t)):w0.heap.size<=b:=(S.blk _ (List.mem_of_getElem? hk)).1
theorem OwnF.lt (S:OwnF F w0 w l) (k:Nat) (hk:l[k]?=some (b,cs,t)):b<w.heap.size:=(S.at k hk).lt
theorem OwnF.new (S:OwnF F w0 w l) (m:Mod [] w w') (hb:w.heap.size<=b) (B:Blk w' b cs t):OwnF F w0 w' (l++[(b,cs,t)]):=by
 refine ⟨(S.call m).mod,S.old,fun p hp=>?_,?_⟩
 ·rcases List.mem_append.1 hp with hp | hp
  ·exact (S.call m).blk p hp
  ·obtain rfl:=List.mem_singleton.1 hp;exact ⟨Nat.le_trans S.mod.size hb,B⟩
 ·rw [List.map_append,List.nodup_append];refine ⟨S.nodup,by simp,fun x hx y hy hxy=>?_⟩;obtain ⟨p,hp,rfl⟩:=List.mem_map.1 hx;have:=(S.blk p hp).2.lt;simp only [List.map_cons,List.map_nil,List.mem_singleton] at hy;omega
theorem OwnF.alloc (S:OwnF F w0 w l) (cs:Array Value) (t:TypeId):OwnF F w0 (w.alloc (.cells cs t)) (l++[(w.heap.size,cs,t)]):=S.new ((Mod.refl _ _).alloc _) (Nat.le_refl _) (Blk.new w cs t)
theorem OwnF.set (S:OwnF F w0 w l) (k:Nat) (hk:l[k]?=some (b,cs,t)) (i:Nat) (v:Value):OwnF F w0 (w.setCell ⟨b,i,none⟩ v) (l.set k (b,cs.setIfInBounds i v,t)):=by
 obtain ⟨hkl,hke⟩:=List.getElem?_eq_some_iff.1 hk;have hmap:(l.set k (b,cs.setIfInBounds i v,t)).map (·.1)=l.map (·.1):=by
  rw [List.map_set];apply List.ext_getElem?;intro j;rw [List.getElem?_set]
  split
  ·rename_i hj;subst hj;simp [hkl,hke]
  ·rfl
 refine ⟨S.mod.setNew (p:=⟨b,i,none⟩) (S.ge k hk) v,S.old,fun p hp=>?_,by rw [hmap];exact S.nodup⟩;obtain ⟨j,hj⟩:=List.getElem?_of_mem hp;rw [List.getElem?_set] at hj
 split at hj
 ·rename_i hkj;subst hkj;simp only [Option.some.injEq] at hj;subst hj;exact ⟨S.ge k hk,(S.at k hk).set i v⟩
 ·rename_i hkj;have hm:=List.mem_of_getElem? hj;refine ⟨(S.blk p hm).1,(S.blk p hm).2.other (fun he=>?_) v⟩;have hjl:j<l.length:=(List.getElem?_eq_some_iff.1 hj).1;have:=nodup_get S.nodup;rcases Nat.lt_or_ge k j with h | h
  ·exact this k j h (by simpa using hjl) (by simp only [List.getElem?_map,hk,hj,Option.map_some];rw [<- he])
  ·exact this j k (by omega) (by simpa using hkl) (by simp only [List.getElem?_map,hk,hj,Option.map_some];rw [<- he])
theorem OwnF.left {l':List (Nat×Array Value×TypeId)} (S:OwnF F w0 w (l++l')):OwnF F w0 w l :=
 ⟨S.mod,S.old,fun p hp=>S.blk p (List.mem_append.2 (.inl hp)),by have:=S.nodup;rw [List.map_append,List.nodup_append] at this;exact this.1⟩
theorem IMap.modF {m:List (Int×Value)} (h:IMap w b m) (hm:Mod F w w') (hb:b ∉ F):IMap w' b m:=h.of (hm.block b h.lt hb)
end
def lookP {α:Type} (m:List (Int×α)) (k:Int):Option α:=(m.find? fun p=>p.1 == k).map (·.2)
def putP {α:Type} (m:List (Int×α)) (k:Int) (v:α):List (Int×α):=if (m.find? fun p=>p.1 == k).isSome then m.map (fun p=>if p.1=k then (k,v) else p) else m++[(k,v)]
def mapP {α:Type} (f:α->Value) (m:List (Int×α)):List (Int×Value):=m.map fun p=>(p.1,f p.2)
theorem find_mapP {α:Type} (f:α->Value) (m:List (Int×α)) (k:Int):(mapP f m).find? (fun p=>p.1 == k)=(m.find? fun p=>p.1 == k).map fun p=>(p.1,f p.2):=by
 unfold mapP;rw [List.find?_map];rfl
theorem look_mapP {α:Type} (f:α->Value) (m:List (Int×α)) (k:Int):lookM (mapP f m) k=(lookP m k).map f:=by
 unfold lookM lookP;rw [find_mapP];cases m.find? (fun p=>p.1 == k) <;> rfl
theorem put_mapP {α:Type} (f:α->Value) (m:List (Int×α)) (k:Int) (v:α):putM (mapP f m) k (f v)=mapP f (putP m k v):=by
 unfold putM putP;rw [find_mapP];cases m.find? (fun p=>p.1 == k) with
 | none=>simp [mapP]
 | some p =>
  simp only [Option.map_some,Option.isSome_some,if_true];unfold mapP;rw [List.map_map,List.map_map];apply List.map_congr_left;intro q _;simp only [Function.comp_apply]
  split <;> rfl
open Go.ChangeMaps (setBlock)
def IRange (w:World) (b r:Nat) (m:List (Int×Value)) (D:List Int) (n:Nat):Prop :=
 ∃ es clock since seen c0,w.heap[b]?=some (.map es clock)/\es.toList.map (fun e=>(e.key,e.val))=m.map (fun p=>(Value.int .i64 p.1,p.2))/\Stamped es clock /\
  w.heap[r]?=some (.mapIter (some b) since seen c0)/\(∀ x∈es.toList,x.born<since)/\since<=c0/\since<=clock/\(leftOf es seen).size=n/\∀ x∈es.toList,seen.contains x.born=true↔∃ k∈D,x.key=.int .i64 k
theorem IRange.lt {w:World} {b r n:Nat} {m:List (Int×Value)} {D:List Int} (h:IRange w b r m D n):b<w.heap.size/\r<w.heap.size:=by
 obtain ⟨es,clock,since,seen,c0,h1,h2,h3,h4,h5⟩:=h;exact ⟨(Array.getElem?_eq_some_iff.1 h1).1,(Array.getElem?_eq_some_iff.1 h4).1⟩
theorem IRange.of {w w':World} {b r n:Nat} {m:List (Int×Value)} {D:List Int} (h:IRange w b r m D n) (hb:w'.heap[b]?=w.heap[b]?) (hr:w'.heap[r]?=w.heap[r]?):IRange w' b r m D n:=by
 obtain ⟨es,clock,since,seen,c0,h1,h2,h3,h4,h5⟩:=h;exact ⟨es,clock,since,seen,c0,hb.trans h1,h2,h3,hr.trans h4,h5⟩
theorem IRange.mod {w w':World} {F:List Nat} {b r n:Nat} {m:List (Int×Value)} {D:List Int} (h:IRange w b r m D n) (hm:Mod F w w') (hb:b ∉ F) (hr:r ∉ F):IRange w' b r m D n :=
 h.of (hm.block b h.lt.1 hb) (hm.block r h.lt.2 hr)
theorem run_irange {P:Program} {w:World} {b:Nat} {m:List (Int×Value)} {t kt et:TypeId} (h:IMap w b m) (ht:P.underlying t=some (.map kt et)) :
  ∃ it n,(Instr.range t (.map (some b))).run P w=.ok (.pointer (some ⟨w.heap.size,0,none⟩)) (w.alloc it)/\IRange (w.alloc it) b w.heap.size m [] n:=by
 have hl:=h.lt;obtain ⟨es,clock,h1,h2,h3⟩:=h;refine ⟨.mapIter (some b) clock #[] clock,_,run_range_map w t kt et b es clock ht h1,es,clock,clock,#[],clock,(heap_alloc_old w _ hl).trans h1,h2,h3,heap_alloc_new w _,h3.1,Nat.le_refl _,Nat.le_refl _,rfl,fun x hx=>?_⟩;simp
theorem run_inext {P:Program} {w:World} {b r n:Nat} {m:List (Int×Value)} {D:List Int} (h:IRange w b r m D n) :
  (n=0/\(∀ ty,(Instr.next (.pointer (some ⟨r,0,none⟩)) false ty).run P w=.ok (.tuple #[.bool false]) w)/\∀ p∈m,p.1∈D) ∨
  ∃ k v w',(k,v)∈m/\k ∉ D/\(∀ ty,(Instr.next (.pointer (some ⟨r,0,none⟩)) false ty).run P w=.ok (.tuple #[.bool true,.int .i64 k,v]) w')/\(Instr.entry (.pointer (some ⟨r,0,none⟩))).run P w'=.ok (.tuple #[.int .i64 k,v]) w' /\
   (∃ n',n'<n/\IRange w' b r m (k::D) n')/\Mod [r] w w'/\w'.heap.size=w.heap.size:=by
 obtain ⟨es,clock,since,seen,c0,h1,h2,h3,h4,h5,h6,h7,h8,h9⟩:=h;have hr:=(Array.getElem?_eq_some_iff.1 h4).1;have hbr:b≠r:=fun e=>by rw [e,h4] at h1;cases h1
 have pair:∀ e∈es.toList,∃ k,e.key=.int .i64 k/\(k,e.val)∈m:=fun e he=>by
  have:(e.key,e.val)∈m.map (fun p=>(Value.int .i64 p.1,p.2)):=by rw [<- h2];exact List.mem_map_of_mem (f:=fun e:MapEntry=>(e.key,e.val)) he
  obtain ⟨p,hp,hpe⟩:=List.mem_map.1 this;cases hpe':p with
  | mk k v =>
   rw [hpe'] at hpe hp;simp only [Prod.mk.injEq] at hpe;exact ⟨k,hpe.1.symm,by rw [<- hpe.2];exact hp⟩
 have step:=fun ty=>run_next_at (P:=P) w ty r b since c0 seen es clock h4 h1 h5 h6
 by_cases h0:n=0
 ·left;have hz:(leftOf es seen).size=0:=by rw [h8,h0]
  refine ⟨h0,fun ty=>?_,fun p hp=>?_⟩
  ·rcases step ty with ⟨_,h⟩ | ⟨e,he,_⟩
   ·exact h
   ·have:(leftOf es seen).toList=[]:=List.eq_nil_of_length_eq_zero (by simpa using hz);rw [this] at he;cases he
  ·have:(Value.int .i64 p.1,p.2)∈es.toList.map (fun e=>(e.key,e.val)):=by rw [h2];exact List.mem_map_of_mem (f:=fun p:Int×Value=>(Value.int .i64 p.1,p.2)) hp
   obtain ⟨e,he,hee⟩:=List.mem_map.1 this;obtain ⟨k,hk,hke⟩:=(h9 e he).1 (all_seen es seen hz e he);have e1:=congrArg Prod.fst hee;simp only [hke] at e1;cases e1;exact hk
 ·right;have hall:∀ ty,∃ e∈(leftOf es seen).toList,∃ w1:World,(w1=w∨w1=w.drew)/\(Instr.next (.pointer (some ⟨r,0,none⟩)) false ty).run P w=.ok (.tuple #[.bool true,e.key,e.val]) (setBlock w1 r (.mapIter (some b) since (seen.push e.born) clock)):=fun ty=>(step ty).resolve_left fun h=>h0 (by rw [<- h8];exact h.1)
  obtain ⟨e,he,w1,hw,hrun⟩:=hall 0;have hmem:=mem_left he;obtain ⟨k,hk,hkm⟩:=pair e hmem.1;have hx:w1.os=w.os/\w1.tape=w.tape/\w1.output=w.output/\w1.heap=w.heap:=by
   rcases hw with rfl | rfl
   ·exact ⟨rfl,rfl,rfl,rfl⟩
   ·exact ⟨rfl,rfl,rfl,rfl⟩
  obtain ⟨x1,x2,x3,x4⟩:=hx;have hset:(setBlock w1 r (.mapIter (some b) since (seen.push e.born) clock)).heap=w.heap.setIfInBounds r (.mapIter (some b) since (seen.push e.born) clock):=by
   show w1.heap.setIfInBounds _ _=_;rw [x4]
  have atr:(setBlock w1 r (.mapIter (some b) since (seen.push e.born) clock)).heap[r]?=some (.mapIter (some b) since (seen.push e.born) clock):=by rw [hset];simp [hr]
  have oth:∀ x,x≠r->(setBlock w1 r (.mapIter (some b) since (seen.push e.born) clock)).heap[x]?=w.heap[x]?:=fun x hx=>by
   rw [hset,Array.getElem?_setIfInBounds];rw [if_neg (fun e=>hx e.symm)]
  refine ⟨k,e.val,setBlock w1 r (.mapIter (some b) since (seen.push e.born) clock),hkm,fun hd=>?_,fun ty=>?_,?_,⟨_,?_,es,clock,since,seen.push e.born,clock,(oth b hbr).trans h1,h2,h3,atr,h5,h7,h7,rfl,fun x hxx=>?_⟩,⟨x1,x2,x3,?_,fun x hxx hn=>oth x (by simpa using hn)⟩,?_⟩
  ·have:=(h9 e hmem.1).2 ⟨k,hd,hk⟩;rw [hmem.2] at this;cases this
  ·rw [<- hk];exact hrun
  ·rw [<- hk];exact run_entry_at _ r b since seen es clock e atr ((oth b hbr).trans h1) hmem.1 h3.2.1
  ·rw [<- h8];exact left_shrinks es seen e he
  ·rw [contains_push,Bool.or_eq_true,h9 x hxx];constructor
   ·rintro (⟨k',hk',hke⟩ | hb)
    ·exact ⟨k',List.mem_cons_of_mem _ hk',hke⟩
    ·have:x=e:=born_inj h3.2.1 hxx hmem.1 (by simpa using hb);rw [this];exact ⟨k,by simp,hk⟩
   ·rintro ⟨k',hk',hke⟩;rcases List.mem_cons.1 hk' with rfl | hk'
    ·right;have:x=e:=by
      have hp:=h3.2.2;have hpn:(es.toList.map (·.key)).Nodup:=hp
      by_cases hxe:x=e
      ·exact hxe
      ·exfalso;obtain ⟨i,hi,hie⟩:=List.getElem_of_mem hxx;obtain ⟨j,hj,hje⟩:=List.getElem_of_mem hmem.1;have hij:i≠j:=fun h=>hxe (by rw [<- hie,<- hje];simp [h])
       have hp':=List.pairwise_iff_getElem.1 hpn;rcases Nat.lt_or_ge i j with h | h
       ·exact hp' i j (by simpa using hi) (by simpa using hj) h (by simp only [List.getElem_map];rw [hie,hje,hke,hk])
       ·exact hp' j i (by simpa using hj) (by simpa using hi) (by omega) (by simp only [List.getElem_map];rw [hie,hje,hke,hk])
     rw [this];simp
    ·exact .inl ⟨k',hk',hke⟩
  ·rw [hset];simp
  ·rw [hset];simp
section
variable {ops:Array Oper} {md:Region.Mode}
def Region.pairsB (md:Region.Mode) (ops:Array Oper):Nat->List Oper->Bool
 | _,[]=>true
 | i,o::l=>(l.all fun y=>o.apart ops y || y.after.any fun e=>Region.binds md e && e.on == i) && (o.after.all fun e=>!Region.binds md e || decide (e.on<i)) && Region.pairsB md ops (i+1) l
theorem pairsB_spec:∀ (l:List Oper) (k:Nat),Region.pairsB md ops k l=true->∀ i o,l[i]?=some o ->
  (∀ j y,i<j->l[j]?=some y->o.apart ops y=true∨(y.after.any fun e=>Region.binds md e && e.on == k+i)=true)/\(∀ e∈o.after,Region.binds md e=true->e.on<k+i)
 | [],_,_,i,o,hi=>by simp at hi
 | x::l,k,h,i,o,hi=>by
  simp only [Region.pairsB,Bool.and_eq_true,List.all_eq_true,Bool.or_eq_true] at h;cases i with
  | zero =>
   obtain rfl:x=o:=by simpa using hi
   refine ⟨fun j y hj hy=>?_,fun e he hb=>?_⟩
   ·cases j with
    | zero=>omega
    | succ j=>exact h.1.1 y (List.mem_of_getElem? (i:=j) (by simpa using hy))
   ·have:=Array.all_eq_true_iff_forall_mem.1 h.1.2 e he;simpa [hb] using this
  | succ i =>
   obtain ⟨h1,h2⟩:=pairsB_spec l (k+1) h.2 i o (by simpa using hi);refine ⟨fun j y hj hy=>?_,fun e he hb=>by have:=h2 e he hb;omega⟩;cases j with
   | zero=>omega
   | succ j =>
    have:=h1 j y (by omega) (by simpa using hy);rwa [show k+1+i=k+(i+1) by omega] at this
theorem canon_getD {k i:Nat} (d:Bool) (hi:i<ops.size):(Region.canon ops k).getD i d=decide (i<k):=by
 simp [Region.canon,hi]
theorem canon_set {k:Nat} (hk:k<ops.size):(Region.canon ops k).setIfInBounds k true=Region.canon ops (k+1):=by
 have hs:(Region.canon ops k).size=ops.size:=by simp [Region.canon]
 refine Array.ext_getElem? fun i=>?_
 by_cases h:k=i
 ·subst h;rw [Array.getElem?_setIfInBounds_self_of_lt (by omega)];simp [Region.canon,hk]
 ·rw [Array.getElem?_setIfInBounds_ne h];rcases Nat.lt_or_ge i ops.size with hi | hi
  ·simp only [Region.canon,hi,List.getElem?_toArray,List.getElem?_map,List.getElem?_range,Option.map_some,Option.some.injEq,decide_eq_decide];omega
  ·simp [Region.canon,hi]
theorem canon_zero:Region.canon ops 0=Array.replicate ops.size false:=by
 refine Array.ext (by simp [Region.canon]) fun i h1 h2=>?_
 simp [Region.canon]
theorem ordB_text (hp:Region.pairsB md ops 0 ops.toList=true):∀ (m k:Nat),k+m=ops.size->Region.ordB md ops ops.size [] (idxM k (List.replicate m true)) (Region.canon ops k)=true
 | 0,k,hk=>by
  simp only [List.replicate,idxM,Region.ordB,List.all_eq_true,List.mem_range];intro i hi;rw [canon_getD _ hi];simp;omega
 | m+1,k,hk=>by
  have hks:k<ops.size:=by omega
  simp only [List.replicate_succ,idxM,Region.ordB,Bool.and_eq_true,decide_eq_true_eq];refine ⟨⟨⟨⟨hks,by simp⟩,?_⟩,?_⟩,?_⟩
  ·simp only [List.contains_iff_mem];refine mem_ready.2 ⟨?_,ops[k],by simp [hks],fun e he hb=>?_⟩
   ·rw [canon_getD _ hks];simp
   ·have:=(pairsB_spec _ 0 hp k ops[k] (by simp [hks])).2 e he hb;rw [canon_getD _ (by omega)];simp;omega
  ·unfold Region.free;simp only [hks,getElem?_pos,List.all_eq_true,List.mem_range];intro j hj;rw [canon_getD _ hj];simp only [hj,getElem?_pos,Bool.or_eq_true,beq_iff_eq,decide_eq_true_eq]
   by_cases h1:j=k
   ·exact .inl (.inl h1)
   by_cases h2:j<k
   ·exact .inl (.inr h2)
   refine .inr ?_;have:=(pairsB_spec _ 0 hp k ops[k] (by simp [hks])).1 j ops[j] (by omega) (by simp [hj]);rw [Nat.zero_add] at this;exact this.symm
  ·rw [canon_set hks];exact ordB_text hp m (k+1) (by omega)
def Region.textB (md:Region.Mode) (l:List Oper) (n:Nat) (mask:List Bool):Bool :=
 Nat.beq l.length n && Nat.beq mask.length n && mask.all id && Region.noSelect l.toArray && Region.pairsB md l.toArray 0 l
theorem idxM_length:∀ (m k:Nat),(idxM k (List.replicate m true)).length=m
 | 0,_=>rfl
 | m+1,k=>by simp only [List.replicate_succ,idxM,List.length_cons,idxM_length m]
theorem text_ok {l:List Oper} {n:Nat} {mask:List Bool} (h:Region.textB md l n mask=true) :
  (Region.monoB md l.toArray n (idxM 0 mask) (([]:List (Nat×(Value->World->Prop))).map (·.1)) && decide (mask.length<=l.length))=true:=by
 simp only [Region.textB,Bool.and_eq_true] at h;obtain ⟨⟨⟨⟨hn,hm⟩,hall⟩,hsel⟩,hp⟩:=h;obtain rfl:=Nat.eq_of_beq_eq_true hn;have hm:=Nat.eq_of_beq_eq_true hm;have hmask:mask=List.replicate l.length true:=by
  rw [<- hm];exact List.eq_replicate_iff.2 ⟨rfl,fun b hb=>by simpa using List.all_eq_true.1 hall b hb⟩
 subst hmask;have hp':Region.pairsB md l.toArray 0 l.toArray.toList=true:=by simpa using hp
 simp only [Region.monoB,Bool.and_eq_true,decide_eq_true_eq];refine ⟨⟨⟨⟨⟨⟨⟨⟨⟨hsel,by simp⟩,by simp [idxM_length]⟩,by simp⟩,by simp [Region.tailB]⟩,?_⟩,?_⟩,rfl⟩,?_⟩,by simp⟩
 ·unfold Region.downB;simp only [List.all_eq_true,List.mem_range];intro i hi;simp only [hi,getElem?_pos];refine Array.all_eq_true_iff_forall_mem.2 fun e he=>?_
  cases hb:Region.binds md e with
  | false=>rfl
  | true =>
   have:=(pairsB_spec _ 0 hp' i l.toArray[i] (by simpa using hi)).2 e he hb;simpa using this
 ·rw [show l.toArray.size - l.length=0 by simp];unfold Region.seqB;simp only [List.isEmpty_iff,List.eq_nil_iff_forall_not_mem];intro j hj;obtain ⟨h1,o,ho,-⟩:=mem_ready.1 hj;have hj:j<l.toArray.size:=(Array.getElem?_eq_some_iff.1 ho).1;rw [canon_getD _ hj] at h1;simp at h1 hj;omega
 ·have:=ordB_text hp' l.length 0 (by simp);rw [canon_zero] at this;simp only [List.size_toArray] at this;exact this
end
end Go.Proofs.Ytlkkhkbafahchaa
