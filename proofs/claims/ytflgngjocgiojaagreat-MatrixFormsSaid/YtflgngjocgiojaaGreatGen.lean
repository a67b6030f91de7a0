import Derived.Test.YtflgngjocgiojaaGreatStep
set_option linter.all false
namespace Go.Proofs.YtflgngjocgiojaaGreat
open Go.RowKit
section
variable {P:Program} {ops:Array Oper} {T:List Nat} {w:World} {Q:Exit->Act->World->Prop}
@[reducible] def Asg := Nat → Nat × Nat
inductive Kind (T:List Nat) where
 | quiet (needs:List Nat)
 | step (n:Nat) (needs:List Nat)
 | make (needs:List Nat) (b:EBS T)
@[simp] def rN (N : List Nat) : List Nat := if N.contains 1000 then [] else N
@[simp] def vN (N : List Nat) : List Nat := N.filter fun x => x != 1000
theorem mem_rN {N:List Nat} {m:Nat} (h:m∈rN N):N.contains 1000=false/\m∈vN N:=by
 unfold rN at h;split at h
 ·cases h
 ·rename_i h2
  have h3:N.contains 1000=false:=by simpa using h2
  refine ⟨h3,List.mem_filter.2 ⟨h,?_⟩⟩;have:m≠1000:=fun e=>by subst e; exact h2 (by simpa using h)
  simpa using this
def Kind.needs {T:List Nat}:Kind T->List Nat
 | .quiet N=>vN N
 | .step _ N=>N
 | .make N _=>N
def Kind.isMake {T:List Nat}:Kind T->Bool
 | .make _ _=>true
 | _=>false
def Kind.isFree {T:List Nat}:Kind T->Bool
 | .quiet N=>N.isEmpty || N.contains 1000
 | _=>false
def Kind.R {T:List Nat}:Kind T->Nat×Nat->World->Prop
 | .make _ b,p,x=>b.R p x
 | _,_,_=>True
theorem Kind.R_upd {T:List Nat}:∀ (k:Kind T) {p:Nat×Nat} {u u':World},k.R p u->Upd T u u'->k.R p u'
 | .quiet _,_,_,_,_,_=>trivial
 | .step _ _,_,_,_,_,_=>trivial
 | .make _ b,_,_,_,h,k=>b.st _ _ _ h k
def makeRun (P:Program) (ops:Array Oper) (T:List Nat) (w:World) (kd:Nat->Kind T) (f:Asg) (N:List Nat) (b:EBS T) (o:Oper) (a:Act):Prop:=
 Region.wanted o (yielded ops a.tmps)=true/\∀ u,Keeps T w u->(∀ m∈N,(kd m).R (f m) u)->lateOp P o a u (fun v' u'=>∃ p,v'=b.val p/\u.heap.size<=p.1/\p.1<u'.heap.size/\Below u.heap.size u u'/\b.R p u')
@[reducible] def stepRunN (P : Program) (ops : Array Oper) (T : List Nat) (w : World) (Ph : Nat → World → Prop) (kd : Nat → Kind T) (f : Asg) (k : Nat) (N : List Nat) (o : Oper) (v : Value) (a : Act) : Prop := match N with
 | []=>stepRun P ops T w Ph k o v a
 | m::N=>Region.wanted o (yielded ops a.tmps)=true/\∀ u,Keeps T w u->Ph k u->(∀ x∈m::N,(kd x).R (f x) u)->lateOp P o a u (fun v' u'=>v'=v/\Upd T u u'/\Ph (k+1) u')
theorem stepRunN_wanted {Ph:Nat->World->Prop} {kd:Nat->Kind T} {f:Asg} {k:Nat}:∀ {N:List Nat} {o:Oper} {v:Value} {a:Act},stepRunN P ops T w Ph kd f k N o v a->Region.wanted o (yielded ops a.tmps)=true
 | [],_,_,_,h=>h.1
 | _::_,_,_,_,h=>h.1
theorem stepRunN_run {Ph:Nat->World->Prop} {kd:Nat->Kind T} {f:Asg} {k:Nat}:∀ {N:List Nat} {o:Oper} {v:Value} {a:Act},stepRunN P ops T w Ph kd f k N o v a->∀ u,Keeps T w u->Ph k u->(∀ x∈N,(kd x).R (f x) u)->lateOp P o a u (fun v' u'=>v'=v/\Upd T u u'/\Ph (k+1) u')
 | [],_,_,_,h,u,h1,h2,_=>h.2 u h1 h2
 | _::_,_,_,_,h,u,h1,h2,h3=>h.2 u h1 h2 h3
theorem stepRunN_l {Ph:Nat->World->Prop} {kd:Nat->Kind T} {f:Asg} {k:Nat} {oi oj:Oper} {v u:Value} {a:Act} (hs:∀ cs b,oj.op ≠ .select cs b) (hap:oi.apart ops oj=true):∀ {N:List Nat},
 stepRunN P ops T w Ph kd f k N oj v (a.put oi.dst u)↔stepRunN P ops T w Ph kd f k N oj v a
 | []=>stepRun_l hs hap
 | _::_=>by
  obtain ⟨h1,_,_⟩:=Oper.apart_spec hap;unfold stepRunN lateOp;simp only [];rw [execOp_put (ops:=ops) oj hs a oi.dst u h1,wanted_put (ops:=ops) oj a oi.dst u h1]
theorem stepRunN_r {Ph:Nat->World->Prop} {kd:Nat->Kind T} {f:Asg} {k:Nat} {oi oj:Oper} {v u:Value} {a:Act} (hs:∀ cs b,oi.op ≠ .select cs b) (hap:oi.apart ops oj=true):∀ {N:List Nat},
 stepRunN P ops T w Ph kd f k N oi v (a.put oj.dst u)↔stepRunN P ops T w Ph kd f k N oi v a
 | []=>stepRun_r hs hap
 | _::_=>by
  obtain ⟨_,_,h1⟩:=Oper.apart_spec hap;unfold stepRunN lateOp;simp only [];rw [execOp_put (ops:=ops) oi hs a oj.dst u h1,wanted_put (ops:=ops) oi a oj.dst u h1]
def DG (P:Program) (ops:Array Oper) (T:List Nat) (w:World) (Ph:Nat->World->Prop) (kd:Nat->Kind T) (f:Asg) (i:Nat) (v:Value) (a:Act):Prop:=
 ∃ o,ops[i]?=some o/\((∃ N,kd i = .quiet N/\∀ x,Keeps T w x->(∀ m∈rN N,(kd m).R (f m) x)->YieldsIn P ops (CL T w x) o v a) \/
  (∃ n N,kd i = .step n N/\stepRunN P ops T w Ph kd f n N o v a)\/(∃ N b,kd i = .make N b/\v=b.val (f i)/\makeRun P ops T w kd f N b o a))
theorem makeRun_l {kd:Nat->Kind T} {f:Asg} {N:List Nat} {b:EBS T} {oi oj:Oper} {u:Value} {a:Act} (hs:∀ cs b,oj.op ≠ .select cs b) (hap:oi.apart ops oj=true) :
 makeRun P ops T w kd f N b oj (a.put oi.dst u)↔makeRun P ops T w kd f N b oj a:=by
 obtain ⟨h1,_,_⟩:=Oper.apart_spec hap;unfold makeRun lateOp;rw [execOp_put (ops:=ops) oj hs a oi.dst u h1,wanted_put (ops:=ops) oj a oi.dst u h1]
theorem makeRun_r {kd:Nat->Kind T} {f:Asg} {N:List Nat} {b:EBS T} {oi oj:Oper} {u:Value} {a:Act} (hs:∀ cs b,oi.op ≠ .select cs b) (hap:oi.apart ops oj=true) :
 makeRun P ops T w kd f N b oi (a.put oj.dst u)↔makeRun P ops T w kd f N b oi a:=by
 obtain ⟨_,_,h1⟩:=Oper.apart_spec hap;unfold makeRun lateOp;rw [execOp_put (ops:=ops) oi hs a oj.dst u h1,wanted_put (ops:=ops) oi a oj.dst u h1]
theorem blindDG {Ph:Nat->World->Prop} {kd:Nat->Kind T} {f:Asg} (hsel:∀ (j:Nat) (o:Oper) cs b,ops[j]?=some o->o.op ≠ .select cs b):Blind ops (DG P ops T w Ph kd f):=by
 refine ⟨fun i j v u a hi hj hap=>?_,fun i j v u a hi hj hap=>?_⟩
 ·obtain ⟨oi,hoi⟩:=hi;obtain ⟨oj,hoj⟩:=hj;have ha:=hap oi oj hoi hoj;unfold DG;rw [dstOf_some hoi,hoj];constructor
  ·rintro ⟨o,ho,h⟩;cases ho;rcases h with ⟨N,h1,h2⟩ | ⟨n,N,h1,h2⟩ | ⟨N,b,h1,h2,h3⟩
   ·exact ⟨oj,rfl,.inl ⟨N,h1,fun x hx hr=>(yields_put ha (fun cs b=>hsel j oj cs b hoj)).1 (h2 x hx hr)⟩⟩
   ·exact ⟨oj,rfl,.inr (.inl ⟨n,N,h1,(stepRunN_l (hsel j oj · · hoj) ha).1 h2⟩)⟩
   ·exact ⟨oj,rfl,.inr (.inr ⟨N,b,h1,h2,(makeRun_l (hsel j oj · · hoj) ha).1 h3⟩)⟩
  ·rintro ⟨o,ho,h⟩;cases ho;rcases h with ⟨N,h1,h2⟩ | ⟨n,N,h1,h2⟩ | ⟨N,b,h1,h2,h3⟩
   ·exact ⟨oj,rfl,.inl ⟨N,h1,fun x hx hr=>(yields_put ha (fun cs b=>hsel j oj cs b hoj)).2 (h2 x hx hr)⟩⟩
   ·exact ⟨oj,rfl,.inr (.inl ⟨n,N,h1,(stepRunN_l (hsel j oj · · hoj) ha).2 h2⟩)⟩
   ·exact ⟨oj,rfl,.inr (.inr ⟨N,b,h1,h2,(makeRun_l (hsel j oj · · hoj) ha).2 h3⟩)⟩
 ·obtain ⟨oi,hoi⟩:=hi;obtain ⟨oj,hoj⟩:=hj;have ha:=hap oi oj hoi hoj;unfold DG;rw [dstOf_some hoj,hoi];constructor
  ·rintro ⟨o,ho,h⟩;cases ho;rcases h with ⟨N,h1,h2⟩ | ⟨n,N,h1,h2⟩ | ⟨N,b,h1,h2,h3⟩
   ·exact ⟨oi,rfl,.inl ⟨N,h1,fun x hx hr=>(yields_put' ha (fun cs b=>hsel i oi cs b hoi)).1 (h2 x hx hr)⟩⟩
   ·exact ⟨oi,rfl,.inr (.inl ⟨n,N,h1,(stepRunN_r (hsel i oi · · hoi) ha).1 h2⟩)⟩
   ·exact ⟨oi,rfl,.inr (.inr ⟨N,b,h1,h2,(makeRun_r (hsel i oi · · hoi) ha).1 h3⟩)⟩
  ·rintro ⟨o,ho,h⟩;cases ho;rcases h with ⟨N,h1,h2⟩ | ⟨n,N,h1,h2⟩ | ⟨N,b,h1,h2,h3⟩
   ·exact ⟨oi,rfl,.inl ⟨N,h1,fun x hx hr=>(yields_put' ha (fun cs b=>hsel i oi cs b hoi)).2 (h2 x hx hr)⟩⟩
   ·exact ⟨oi,rfl,.inr (.inl ⟨n,N,h1,(stepRunN_r (hsel i oi · · hoi) ha).2 h2⟩)⟩
   ·exact ⟨oi,rfl,.inr (.inr ⟨N,b,h1,h2,(makeRun_r (hsel i oi · · hoi) ha).2 h3⟩)⟩
def aft (ops:Array Oper) (k:Nat):List Nat:=match ops[k]? with
 | none=>[]
 | some o=>(o.after.toList.filter fun e=>Region.binds .any e).map (·.on)
def pend (ops:Array Oper):Nat->List Nat->List Nat
 | 0,acc=>acc
 | k+1,acc=>pend ops k (if acc.contains k then aft ops k++acc else acc)
def anc (ops:Array Oper) (_:Nat) (j i:Nat):Bool:=(pend ops j (aft ops j)).contains i
theorem pend_nil (ops:Array Oper):∀ k,pend ops k []=[]
 | 0=>rfl
 | k+1=>by simp only [pend]; exact pend_nil ops k
theorem pend_listed {listed:Array Bool} (hcl:∀ (i:Nat) (o:Oper),ops[i]?=some o->listed.getD i false=true->∀ e∈o.after,Region.binds .any e=true->listed.getD e.on false=true) :
 ∀ (k:Nat) (acc:List Nat),(∀ x∈acc,listed.getD x false=true)->∀ x∈pend ops k acc,listed.getD x false=true
 | 0,_,h=>h
 | k+1,acc,h=>by
  simp only [pend];refine pend_listed hcl k _ (fun x hx=>?_);split at hx
  ·rename_i hk
   rcases List.mem_append.1 hx with h1 | h1
   ·unfold aft at h1;cases ho:ops[k]? with
    | none=>rw [ho] at h1; cases h1
    | some o =>
     rw [ho] at h1;simp only [List.mem_map,List.mem_filter] at h1;obtain ⟨e,⟨he,hb⟩,rfl⟩:=h1;exact hcl k o ho (h k (by simpa using hk)) e (by simpa using he) hb
   ·exact h x h1
  ·exact h x hx
theorem anc_listed {listed:Array Bool} (hcl:∀ (i:Nat) (o:Oper),ops[i]?=some o->listed.getD i false=true->∀ e∈o.after,Region.binds .any e=true->listed.getD e.on false=true)
 (n j i:Nat) (o:Oper) (ho:ops[j]?=some o) (hr:∀ e∈o.after,Region.binds .any e=true->listed.getD e.on false=true) (h:anc ops n j i=true):listed.getD i false=true:=by
 unfold anc at h;refine pend_listed hcl j _ (fun x hx=>?_) i (by simpa using h);unfold aft at hx;rw [ho] at hx;simp only [List.mem_map,List.mem_filter] at hx;obtain ⟨e,⟨he,hb⟩,rfl⟩:=hx;exact hr e (by simpa using he) hb
structure GenFit (ops:Array Oper) (kd:Nat->Kind T) (c ns N:Nat):Prop where
 sel:∀ (j:Nat) (o:Oper) cs b,ops[j]?=some o->o.op ≠ .select cs b
 back:∀ (j:Nat) (o:Oper),ops[j]?=some o->∀ e∈o.after,Region.binds .any e=true->e.on<j
 free:∀ (i j:Nat) (oi oj:Oper),i<c->i<j->ops[i]?=some oi->ops[j]?=some oj->(∀ e∈oj.after,Region.binds .any e=true->e.on≠i)->oi.apart ops oj=true
 chain:∀ (j:Nat) (o:Oper),c<j->ops[j]?=some o->∃ e∈o.after,Region.binds .any e=true/\e.on=j - 1
 needs:∀ i,i<c->∀ m∈(kd i).needs,m<c/\(kd m).isMake=true/\anc ops N i m=true
 stepU:∀ i i' n N1 N2,i<c->i'<c->kd i = .step n N1->kd i' = .step n N2->i=i'
 stepL:∀ i n N1,i<c->kd i = .step n N1->n<ns
 stepE:∀ n,n<ns->∃ i N1,i<c/\i<ops.size/\kd i = .step n N1
 stepO:∀ i i' n N1 N2,i<c->i'<c->kd i = .step n N1->kd i' = .step (n+1) N2->anc ops N i' i=true
 first:∀ i,i<c->c<ops.size->(kd i).isFree=true\/anc ops N c i=true
def Made (T:List Nat) (w:World) (kd:Nat->Kind T) (f:Asg) (m:Nat) (u:World):Prop:=(kd m).R (f m) u/\w.heap.size<=(f m).1/\(f m).1<u.heap.size
theorem Made.upd {kd:Nat->Kind T} {f:Asg} {m:Nat} {u u':World} (h:Made T w kd f m u) (k:Upd T u u'):Made T w kd f m u':=
 ⟨(kd m).R_upd h.1 k,h.2.1,Zl h.2.2 k.size⟩
structure Before (P:Program) (ops:Array Oper) (T:List Nat) (w:World) (Ph:Nat->World->Prop) (kd:Nat->Kind T) (c ns:Nat) (va:Asg->Nat->Value) (Q:Act->World->Prop) (C:Asg->Prop) (hs:List Nat) (ls:List Oper) (k:Nat) (a:Act) (u:World):Prop where
 ph:Ph k u
 made:∀ f,C f->∀ m,m<c->(kd m).isMake=true->m∉hs->Made T w kd f m u
 dist:∀ f,C f->∀ m m',m<c->m'<c->(kd m).isMake=true->(kd m').isMake=true->m∉hs->m'∉hs->m≠m'->(f m).1≠(f m').1
 fin:∀ f,C f->∀ u',Upd T u u'->Ph ns u'->(∀ m,m<c->(kd m).isMake=true->Made T w kd f m u') ->
  (∀ m m',m<c->m'<c->(kd m).isMake=true->(kd m').isMake=true->m≠m'->(f m).1≠(f m').1)->effChain P ops T w Q ls (puts ops hs (hs.map (va f)) a) u'
theorem getD_mono {listed:Array Bool} {j x:Nat} (h:listed.getD x false=true):(listed.setIfInBounds j true).getD x false=true:=by
 simp only [Array.getD_eq_getD_getElem?,Array.getElem?_setIfInBounds] at h ⊢;split
 ·split <;> simp_all
 ·exact h
theorem gen_main {kd:Nat->Kind T} {c ns N:Nat} {Ph:Nat->World->Prop} {va:Asg->Nat->Value} (F:GenFit ops kd c ns N) (hPB:∀ k u u',Ph k u->Below u.heap.size u u'->Ph k u')
 (hloc:∀ (f f':Asg) i,(kd i).isMake=false->(∀ m∈(kd i).needs,f m=f' m)->va f i=va f' i) :
 ∀ (fuel:Nat) (hs:List Nat) (ls:List Oper) (s:Nat) (listed:Array Bool) (a:Act) (u:World) (k:Nat) (C:Asg->Prop),
 fuel=hs.length+ls.length->listed.size=ops.size->s+ls.length=ops.size->c<=s->(∀ i,ls[i]?=ops[s+i]?)->hs.Pairwise (·<·)->(∀ i∈hs,i<c/\i<ops.size) ->
 (∀ i,i<ops.size->(listed.getD i true=false↔(i∈hs\/s<=i))) ->
 (∀ (i:Nat) (o:Oper),ops[i]?=some o->listed.getD i false=true->∀ e∈o.after,Region.binds .any e=true->listed.getD e.on false=true) ->
 (∃ f,C f)->(∀ f,C f->∀ m∈hs,∀ p,C (fun i=>if i=m then p else f i))->(∀ f f',C f->C f'->∀ m,m<c->(kd m).isMake=true->m∉hs->f m=f' m) ->
 (∀ f,C f->YG ops (DG P ops T w Ph kd f) hs (hs.map (va f)) a)->Keeps T w u->(∀ i n N1,i<c->i<ops.size->kd i = .step n N1->(i∈hs↔k<=n))->k<=ns ->
 ((s=c/\Before P ops T w Ph kd c ns va (Q .normal) C hs ls k a u)\/((∀ i∈hs,(kd i).isFree=true)/\∀ f,C f->∀ u',Below u.heap.size u u'->effChain P ops T w (Q .normal) ls (puts ops hs (hs.map (va f)) a) u')) ->
 wpAny P .any ops Q fuel listed a u:=by
 intro fuel
 induction fuel with
 | zero =>
  intro hs ls s listed a u k C hf hsz hsm hn hls _ hlt hun hcl hne hupd hfix hY hu hK hkm hL;have h1:hs=[]:=by cases hs with | nil=>rfl | cons=>simp at hf; omega
  have h3:ls=[]:=by cases ls with | nil=>rfl | cons=>simp at hf
  subst h1; subst h3;obtain ⟨f,hf0⟩:=hne;have hfin:effChain P ops T w (Q .normal) [] a u:=by
   rcases hL with ⟨hs0,B⟩ | ⟨_,hL⟩
   ·have hke:k=ns:=by
     rcases Nat.lt_or_ge k ns with h | h
     ·obtain ⟨i,N1,hi1,hi2,hi3⟩:=F.stepE k h;exact absurd ((hK i k N1 hi1 hi2 hi3).2 (Zr _)) aS
     ·omega
    subst hke;exact B.fin f hf0 u (Upd.refl _ _) B.ph (fun m h1 h2=>B.made f hf0 m h1 h2 aS) (fun m m' h1 h2 h3 h4 h5=>B.dist f hf0 m m' h1 h2 h3 h4 aS aS h5)
   ·exact hL f hf0 u (Zb _ _)
  refine ⟨?_,hfin⟩;rw [List.eq_nil_iff_forall_not_mem];intro j hj;obtain ⟨h4,o,ho,_⟩:=mem_ready.1 hj;have hjs:j<ops.size:=(Zt.1 ho).1;rcases (hun j hjs).1 h4 with h5 | h5
  ·cases h5
  ·simp at hsm; omega
 | succ fuel ih =>
  intro hs ls s listed a u k C hf hsz hsm hn hls hpw hlt hun hcl hne hupd hfix hY hu hK hkm hL;have hlisted:∀ i,i<ops.size->i∉hs->i<s->listed.getD i false=true:=by
   intro i hi h1 h0;have h3:¬ (listed.getD i true=false):=fun h=>by
    rcases (hun i hi).1 h with h | h
    ·exact h1 h
    ·omega
   have hi':i<listed.size:=aO
   simp [hi'] at h3 ⊢;exact h3
  have hpend:∀ i,i<ops.size->listed.getD i false=true->i∉hs/\i<s:=by
   intro i hi h;have hi':i<listed.size:=aO
   have h3:¬ (listed.getD i true=false):=by
    simp [hi'] at h ⊢;exact h
   rw [hun i hi] at h3;exact ⟨fun h=>h3 (.inl h),by rcases Nat.lt_or_ge i s with h4 | h4; exact h4; exact absurd (.inr h4) h3⟩
  have hleast:∃ i,i<ops.size/\(i∈hs\/s<=i)/\(∀ x,x<i->x∉hs/\x<s):=by
   have hex:∃ i,i<ops.size/\(i∈hs\/s<=i):=by
    cases hs with
    | cons i hs=>exact ⟨i,(hlt i List.mem_cons_self).2,.inl List.mem_cons_self⟩
    | nil=>exact ⟨s,by simp at hf; omega,.inr (Zr _)⟩
   have hdec:∀ b,(∃ i,i<b/\i<ops.size/\(i∈hs\/s<=i))->∃ i,i<ops.size/\(i∈hs\/s<=i)/\(∀ x,x<i->x∉hs/\x<s):=by
    intro b
    induction b with
    | zero=>rintro ⟨i,h,_⟩; omega
    | succ b ihb =>
     rintro ⟨i,hib,his,hin⟩
     by_cases hsm:∃ i,i<b/\i<ops.size/\(i∈hs\/s<=i)
     ·exact ihb hsm
     ·have hib':i=b:=by
       by_cases h:i<b
       ·exact absurd ⟨i,h,his,hin⟩ hsm
       ·omega
      subst hib';refine ⟨i,his,hin,fun x hx=>⟨fun h=>hsm ⟨x,hx,aO,.inl h⟩,?_⟩⟩
      by_cases hxs:x<s
      ·exact hxs
      ·exact absurd ⟨x,hx,aO,.inr aO⟩ hsm
   obtain ⟨i,h1,h2⟩:=hex;exact hdec (i+1) ⟨i,aO,h1,h2⟩
  refine ⟨fun hr=>?_,fun j hj=>?_⟩
  ·exfalso;obtain ⟨i,hi,hin,hlow⟩:=hleast;have hmem:i∈Region.ready .any ops listed:=mem_ready.2 ⟨(hun i hi).2 hin,ops[i],Array.getElem?_eq_getElem hi,fun e he hb=>by
    have h1:=F.back i ops[i] (Array.getElem?_eq_getElem hi) e he hb;exact hlisted _ aO (hlow _ h1).1 (hlow _ h1).2⟩
   rw [hr] at hmem;cases hmem
  ·obtain ⟨hj0,o,ho,hall⟩:=mem_ready.1 hj;have hjs:j<ops.size:=(Zt.1 ho).1;have hnowait:∀ i,(i∈hs\/s<=i)->i<ops.size->∀ e∈o.after,Region.binds .any e=true->e.on≠i:=by
    intro i hi his e he hb heq;have h1:=hpend e.on (by have:=F.back j o ho e he hb; omega) (hall e he hb);rw [heq] at h1;rcases hi with h | h
    ·exact h1.1 h
    ·omega
   have hanc:∀ i,i<ops.size->anc ops N j i=true->i∉hs:=fun i hi h=>(hpend i hi (anc_listed hcl N j i o ho hall h)).1
   have hsel:=fun cs b=>F.sel j o cs b ho
   have hset:∀ i,i<ops.size->i≠j->((listed.setIfInBounds j true).getD i true=false↔(i∈hs\/s<=i)):=fun i hi hij=>by
    rw [getD_set_ne true (Ne.symm hij),hun i hi]
   have hset0:¬ ((listed.setIfInBounds j true).getD j true=false):=by
    have:j<listed.size:=aO
    simp only [Array.getD_eq_getD_getElem?,Array.getElem?_setIfInBounds_self_of_lt this,Option.getD_some];intro h; cases h
   have hcl':∀ (i:Nat) (o:Oper),ops[i]?=some o->(listed.setIfInBounds j true).getD i false=true->∀ e∈o.after,Region.binds .any e=true->(listed.setIfInBounds j true).getD e.on false=true:=by
    intro i o' ho' hi e he hb
    by_cases hij:i=j
    ·subst hij;rw [ho] at ho'; cases ho';exact getD_mono (hall e he hb)
    ·have h1:listed.getD i false=true:=by
      simp only [Array.getD_eq_getD_getElem?,Array.getElem?_setIfInBounds,if_neg (Ne.symm hij)] at hi ⊢;exact hi
     exact getD_mono (hcl i o' ho' h1 e he hb)
   have hhead:∀ i∈hs,i<j->Apart ops i j:=by
    intro i hi hij oi oj hoi hoj;rw [ho] at hoj; cases hoj;exact F.free i j oi o (hlt i hi).1 hij hoi ho (hnowait i (.inl hi) (hlt i hi).2)
   rcases (hun j hjs).1 hj0 with hjh | hjl
   ·obtain ⟨pre,post,rfl⟩:=List.append_of_mem hjh;have hjc:=(hlt j hjh).1;have hpj:∀ i∈pre,Apart ops i j:=by
     intro i hi;have hij:i<j:=by
      rw [List.pairwise_append] at hpw;exact hpw.2.2 i hi j (List.mem_cons_self)
     exact hhead i (List.mem_append_left _ hi) hij
    have hnd:j∉pre++post:=by
     intro h;rw [List.pairwise_append] at hpw;rcases List.mem_append.1 h with h | h
     ·have:=hpw.2.2 j h j (List.mem_cons_self); omega
     ·have:=(List.pairwise_cons.1 hpw.2.1).1 j h; omega
    have hsub:(pre++post).Pairwise (·<·):=hpw.sublist (List.Sublist.append (List.Sublist.refl pre) (List.sublist_cons_self j post));have hmemab:∀ i,i∈pre++post->i∈pre++j::post:=fun i hi=>by
     rcases List.mem_append.1 hi with h | h
     ·exact List.mem_append_left _ h
     ·exact List.mem_append_right _ (List.mem_cons_of_mem _ h)
    have hmemne:∀ i,i≠j->(i∈pre++j::post↔i∈pre++post):=fun i hij=>by
     simp only [List.mem_append,List.mem_cons];constructor
     ·rintro (h | h | h)
      ·exact .inl h
      ·exact absurd h hij
      ·exact .inr h
     ·rintro (h | h)
      ·exact .inl h
      ·exact .inr (.inr h)
    have hun':∀ i,i<ops.size->((listed.setIfInBounds j true).getD i true=false↔(i∈pre++post\/s<=i)):=by
     intro i hi
     by_cases hij:i=j
     ·subst hij;constructor
      ·intro h; exact absurd h hset0
      ·rintro (h | h)
       ·exact absurd h hnd
       ·omega
     ·rw [hset i hi hij,hmemne i hij]
    have hpull:∀ f,C f->DG P ops T w Ph kd f j (va f j) a/\YG ops (DG P ops T w Ph kd f) (pre++post) ((pre++post).map (va f)) (a.put o.dst (va f j)) /\
     puts ops (pre++post) ((pre++post).map (va f)) (a.put o.dst (va f j))=puts ops (pre++j::post) ((pre++j::post).map (va f)) a:=by
     intro f hf1;have h1:=hY f hf1;rw [List.map_append,List.map_cons] at h1;obtain ⟨⟨⟨_,hy⟩,hY3⟩,hpe0⟩:=yg_pull (blindDG F.sel) (vj:=va f j) pre (pre.map (va f)) a aS hpj h1;rw [dstOf_some ho] at hY3;refine ⟨hy,by rw [List.map_append]; exact hY3,?_⟩;rw [List.map_append,List.map_append,List.map_cons,hpe0];simp only [puts];rw [dstOf_some ho]
    have hupd':∀ f,C f->∀ m∈pre++post,∀ p,C (fun i=>if i=m then p else f i):=fun f hf1 m hm p=>hupd f hf1 m (hmemab m hm) p
    have hlt':∀ i∈pre++post,i<c/\i<ops.size:=fun i hi=>hlt i (hmemab i hi)
    obtain ⟨f0,hf0⟩:=hne;have hneeds:∀ m∈(kd j).needs,m<c/\(kd m).isMake=true/\m∉pre++j::post:=fun m hm=>by
     obtain ⟨h1,h2,h3⟩:=F.needs j hjc m hm;have hms:m<ops.size:=by
      rcases Nat.lt_or_ge m ops.size with h | h
      ·exact h
      ·omega
     exact ⟨h1,h2,hanc m hms h3⟩
    have hsame:(kd j).isMake=false->∀ f,C f->va f j=va f0 j:=fun hnm f hf1 =>
     hloc f f0 j hnm (fun m hm=>hfix f f0 hf1 hf0 m (hneeds m hm).1 (hneeds m hm).2.1 (hneeds m hm).2.2)
    have hfixn:(kd j).isMake=false->∀ f f',C f->C f'->∀ m,m<c->(kd m).isMake=true->m∉pre++post->f m=f' m:=fun hnm f f' h1 h2 m h3 h4 h5 =>
     hfix f f' h1 h2 m h3 h4 (fun h=>h5 ((hmemne m (fun e=>by rw [e,hnm] at h4; cases h4)).1 h))
    obtain ⟨hy0,_,_⟩:=hpull f0 hf0;obtain ⟨o',ho',hkind⟩:=hy0;rw [ho] at ho'; cases ho';rcases hkind with ⟨Nd,hkj,hy⟩ | ⟨n,Nd,hkj,hst⟩ | ⟨Nd,b,hkj,hv0,hmk⟩
    ·
     have hnm:(kd j).isMake=false:=by rw [hkj]; rfl
     have hR:∀ m∈rN Nd,(kd m).R (f0 m) u:=by
      intro m hm;have hmr:=mem_rN hm;have hm':=hneeds m (by rw [hkj]; exact hmr.2);rcases hL with ⟨_,B⟩ | ⟨h1,_⟩
      ·exact (B.made f0 hf0 m hm'.1 hm'.2.1 hm'.2.2).1
      ·have:=h1 j hjh;rw [hkj] at this;simp only [Kind.isFree,hmr.1,Bool.or_false] at this;have:Nd=[]:=by simpa using this
       subst this;cases hmr.2
     have hcl2:CL T w u u:=⟨⟨u,hu,Zb _ _⟩,rfl⟩;have hq:qOp P ops (CL T w u) j (fun a'=>a'=a.put o.dst (va f0 j)) a:=(hy u hu hR).qOp ho rfl;refine wpOp_of_qOp hcl2 (fun a' u' hu'' ha'=>?_) hq;obtain ⟨x,rfl⟩:=hu'';subst ha';refine ih (pre++post) ls s _ _ x.u k C (by simp at hf ⊢; omega) (by simpa using hsz) hsm hn hls hsub hlt' hun' hcl' ⟨f0,hf0⟩ hupd' (hfixn hnm) (fun f hf1=>?_) x.h (fun i n N1 hi hi2 hin=>?_) hkm ?_
     ·have:=(hpull f hf1).2.1
      rwa [hsame hnm f hf1] at this
     ·have hij:i≠j:=fun e=>by rw [e,hkj] at hin; cases hin
      rw [<- hmemne i hij]; exact hK i n N1 hi hi2 hin
     ·rcases hL with ⟨h1,B⟩ | ⟨h1,h2⟩
      ·refine .inl ⟨h1,hPB _ _ _ B.ph x.g,fun f hf1 m h3 h4 h5=>?_,fun f hf1 m m' h3 h4 h5 h6 h7 h8 h9=>?_,fun f hf1 u' h3 h4 h5 h6=>?_⟩
       ·exact (B.made f hf1 m h3 h4 (fun h=>h5 ((hmemne m (fun e=>by rw [e,hnm] at h4; cases h4)).1 h))).upd (Upd.of_below x.g)
       ·exact B.dist f hf1 m m' h3 h4 h5 h6 (fun h=>h7 ((hmemne m (fun e=>by rw [e,hnm] at h5; cases h5)).1 h)) (fun h=>h8 ((hmemne m' (fun e=>by rw [e,hnm] at h6; cases h6)).1 h)) h9
       ·have:=B.fin f hf1 u' ((Upd.of_below x.g).trans h3) h4 h5 h6;rw [<- (hpull f hf1).2.2,hsame hnm f hf1] at this;exact this
      ·refine .inr ⟨fun i hi=>h1 i (hmemab i hi),fun f hf1 u' hu'=>?_⟩;have:=h2 f hf1 u' (x.g.trans (hu'.mono x.g.size));rw [<- (hpull f hf1).2.2,hsame hnm f hf1] at this;exact this
    ·
     have hnm:(kd j).isMake=false:=by rw [hkj]; rfl
     have hkn:k<=n:=(hK j n Nd hjc hjs hkj).1 hjh;obtain ⟨hsc,B⟩:s=c/\Before P ops T w Ph kd c ns va (Q .normal) C (pre++j::post) ls k a u:=by
      rcases hL with h | ⟨h,_⟩
      ·exact h
      ·have:=h j hjh;rw [hkj] at this; simp [Kind.isFree] at this
     have hnk:n=k:=by
      rcases Nat.lt_or_ge k n with h | h
      ·exfalso;obtain ⟨i,N1,hi1,hi2,hi3⟩:=F.stepE (n - 1) (by have:=F.stepL j n Nd hjc hkj; omega);have h1:=F.stepO i j (n - 1) N1 Nd hi1 hjc hi3 (by rw [show n - 1+1=n by omega]; exact hkj);exact hanc i hi2 h1 ((hK i (n - 1) N1 hi1 hi2 hi3).2 aO)
      ·omega
     subst hnk;have hR:∀ m∈Nd,(kd m).R (f0 m) u:=fun m hm=>by
      have hm':=hneeds m (by rw [hkj]; exact hm);exact (B.made f0 hf0 m hm'.1 hm'.2.1 hm'.2.2).1
     have hwp:o.wp P a u (wpAny P .any ops Q fuel (listed.setIfInBounds j true)) Q:=by
      refine wp_of_late (K:=fun v' u'=>v'=va f0 j/\Upd T u u'/\Ph (n+1) u') (stepRunN_run hst u hu B.ph hR) (fun v' u1 hv=>?_);obtain ⟨rfl,hup,hp1⟩:=hv;refine ih (pre++post) ls s _ _ u1 (n+1) C (by simp at hf ⊢; omega) (by simpa using hsz) hsm hn hls hsub hlt' hun' hcl' ⟨f0,hf0⟩ hupd' (hfixn hnm) (fun f hf1=>?_) (Upd.keeps hu hup) (fun i n' N1 hi hi2 hin=>?_) (F.stepL j n Nd hjc hkj) (.inl ⟨hsc,hp1,fun f hf1 m h3 h4 h5=>?_,fun f hf1 m m' h3 h4 h5 h6 h7 h8 h9=>?_,fun f hf1 u' h3 h4 h5 h6=>?_⟩)
      ·have:=(hpull f hf1).2.1
       rwa [hsame hnm f hf1] at this
      ·by_cases hij:i=j
       ·subst hij;rw [hkj] at hin;cases hin;constructor
        ·intro h; exact absurd h hnd
        ·intro h; omega
       ·rw [<- hmemne i hij,hK i n' N1 hi hi2 hin];constructor
        ·intro h;rcases Nat.lt_or_ge n n' with h2 | h2
         ·omega
         ·have:n'=n:=aO
          subst this;exact absurd (F.stepU i j n' N1 Nd hi hjc hin hkj) hij
        ·intro h; omega
      ·exact (B.made f hf1 m h3 h4 (fun h=>h5 ((hmemne m (fun e=>by rw [e,hnm] at h4; cases h4)).1 h))).upd hup
      ·exact B.dist f hf1 m m' h3 h4 h5 h6 (fun h=>h7 ((hmemne m (fun e=>by rw [e,hnm] at h5; cases h5)).1 h)) (fun h=>h8 ((hmemne m' (fun e=>by rw [e,hnm] at h6; cases h6)).1 h)) h9
      ·have:=B.fin f hf1 u' (hup.trans h3) h4 h5 h6;rw [<- (hpull f hf1).2.2,hsame hnm f hf1] at this;exact this
     unfold wpOp;simp only [ho];rw [if_pos (stepRunN_wanted hst)];exact .inl hwp
    ·
     obtain ⟨hsc,B⟩:s=c/\Before P ops T w Ph kd c ns va (Q .normal) C (pre++j::post) ls k a u:=by
      rcases hL with h | ⟨h,_⟩
      ·exact h
      ·have:=h j hjh;rw [hkj] at this; simp [Kind.isFree] at this
     have hR:∀ m∈Nd,(kd m).R (f0 m) u:=fun m hm=>by
      have hm':=hneeds m (by rw [hkj]; exact hm);exact (B.made f0 hf0 m hm'.1 hm'.2.1 hm'.2.2).1
     have hwp:o.wp P a u (wpAny P .any ops Q fuel (listed.setIfInBounds j true)) Q:=by
      refine wp_of_late (K:=fun v' u'=>∃ p,v'=b.val p/\u.heap.size<=p.1/\p.1<u'.heap.size/\Below u.heap.size u u'/\b.R p u') (hmk.2 u hu hR) (fun v' u1 hv=>?_);obtain ⟨p,rfl,hp1,hp2,hub,hpR⟩:=hv;have hval:∀ f,C f->f j=p->va f j=b.val p:=fun f hf1 hfp=>by
       obtain ⟨o2,ho2,hk2⟩:=(hpull f hf1).1;rcases hk2 with ⟨_,h,_⟩ | ⟨_,_,h,_⟩ | ⟨_,b2,h,h2,_⟩
       ·rw [hkj] at h; cases h
       ·rw [hkj] at h; cases h
       ·rw [hkj] at h; cases h; rw [h2,hfp]
      refine ih (pre++post) ls s _ _ u1 k (fun f=>C f/\f j=p) (by simp at hf ⊢; omega) (by simpa using hsz) hsm hn hls hsub hlt' hun' hcl' ⟨_,hupd f0 hf0 j hjh p,aS⟩ (fun f hf1 m hm q=>⟨hupd' f hf1.1 m hm q,?_⟩)
       (fun f f' h1 h2 m h3 h4 h5=>?_) (fun f hf1=>?_) (hu.later hub) (fun i n N1 hi hi2 hin=>?_) hkm (.inl ⟨hsc,hPB _ _ _ B.ph hub,fun f hf1 m h3 h4 h5=>?_,fun f hf1 m m' h3 h4 h5 h6 h7 h8 h9=>?_,fun f hf1 u' h3 h4 h5 h6=>?_⟩)
      ·have hjm2:j≠m:=fun e=>hnd (e ▸ hm)
       show (if j=m then q else f j)=p;rw [if_neg hjm2]; exact hf1.2
      ·by_cases hmj:m=j
       ·subst hmj; rw [h1.2,h2.2]
       ·exact hfix f f' h1.1 h2.1 m h3 h4 (fun h=>h5 ((hmemne m hmj).1 h))
      ·have:=(hpull f hf1.1).2.1
       rwa [hval f hf1.1 hf1.2] at this
      ·have hij:i≠j:=fun e=>by rw [e,hkj] at hin; cases hin
       rw [<- hmemne i hij]; exact hK i n N1 hi hi2 hin
      ·by_cases hmj:m=j
       ·subst hmj;refine ⟨?_,?_,?_⟩
        ·rw [hkj,hf1.2]; exact hpR
        ·rw [hf1.2]; have:=hu.1; omega
        ·rw [hf1.2]; exact hp2
       ·exact (B.made f hf1.1 m h3 h4 (fun h=>h5 ((hmemne m hmj).1 h))).upd (Upd.of_below hub)
      ·by_cases hmj:m=j
       ·by_cases hmj':m'=j
        ·exact absurd (hmj.trans hmj'.symm) h9
        ·have h10:=(B.made f hf1.1 m' h4 h6 (fun h=>h8 ((hmemne m' hmj').1 h))).2.2;rw [hmj,hf1.2]; omega
       ·by_cases hmj':m'=j
        ·have h10:=(B.made f hf1.1 m h3 h5 (fun h=>h7 ((hmemne m hmj).1 h))).2.2;rw [hmj',hf1.2]; omega
        ·exact B.dist f hf1.1 m m' h3 h4 h5 h6 (fun h=>h7 ((hmemne m hmj).1 h)) (fun h=>h8 ((hmemne m' hmj').1 h)) h9
      ·have:=B.fin f hf1.1 u' ((Upd.of_below hub).trans h3) h4 h5 h6;rw [<- (hpull f hf1.1).2.2,hval f hf1.1 hf1.2] at this;exact this
     unfold wpOp;simp only [ho];rw [if_pos hmk.1];exact .inl hwp
   ·
    have hjs':j=s:=by
     rcases Nat.lt_or_ge s j with h | h
     ·exfalso;obtain ⟨e,he,hb,hon⟩:=F.chain j o aO ho;exact hnowait (j - 1) (.inr aO) aO e he hb hon
     ·omega
    subst hjs';obtain ⟨o',ls',rfl⟩:∃ o' ls',ls=o'::ls':=by
     cases ls with
     | nil=>simp at hsm; omega
     | cons o' ls'=>exact ⟨o',ls',rfl⟩
    have hoo:o'=o:=by have:=hls 0; simp [ho] at this; exact this
    subst hoo;obtain ⟨f0,hf0⟩:=hne;have hfree:∀ i∈hs,(kd i).isFree=true:=by
     rcases hL with ⟨h,_⟩ | ⟨h,_⟩
     ·intro i hi;rcases F.first i (hlt i hi).1 aO with h1 | h1
      ·exact h1
      ·rw [<- h] at h1;exact absurd hi (hanc i (hlt i hi).2 h1)
     ·exact h
    have hnomake:∀ m,(kd m).isMake=true->m∉hs:=fun m h1 h2=>by
     have:=hfree m h2;cases hk:kd m with
     | quiet N=>rw [hk] at h1; cases h1
     | step n N1=>rw [hk] at h1; cases h1
     | make N b=>rw [hk] at this; cases this
    have hchain:∀ f,C f->effChain P ops T w (Q .normal) (o'::ls') (puts ops hs (hs.map (va f)) a) u:=by
     intro f hf1;rcases hL with ⟨_,B⟩ | ⟨_,h⟩
     ·have hke:k=ns:=by
       rcases Nat.lt_or_ge k ns with h | h
       ·obtain ⟨i,N1,hi1,hi2,hi3⟩:=F.stepE k h;have h2:=(hK i k N1 hi1 hi2 hi3).2 (Zr _);have h3:=hfree i h2;rw [hi3] at h3; cases h3
       ·omega
      subst hke;exact B.fin f hf1 u (Upd.refl _ _) B.ph (fun m h1 h2=>B.made f hf1 m h1 h2 (hnomake m h2)) (fun m m' h1 h2 h3 h4 h5=>B.dist f hf1 m m' h1 h2 h3 h4 (hnomake m h3) (hnomake m' h4) h5)
     ·exact h f hf1 u (Zb _ _)
    have hsame:∀ f,C f->hs.map (va f)=hs.map (va f0):=fun f hf1=>List.map_congr_left (fun i hi=>by
     have h1:=hfree i hi;refine hloc f f0 i ?_ ?_
     ·cases hk:kd i with
      | quiet N=>rfl
      | step n N1=>rfl
      | make N b=>rw [hk] at h1; cases h1
     ·intro m hm;obtain ⟨g1,g2,_⟩:=F.needs i (hlt i hi).1 m hm;exact hfix f f0 hf1 hf0 m g1 g2 (hnomake m g2))
    have hap:∀ i∈hs,(∃ o,ops[i]?=some o)/\Apart ops i j:=by
     intro i hi;have h1:=hlt i hi;exact ⟨⟨ops[i]'h1.2,Array.getElem?_eq_getElem h1.2⟩,hhead i hi aO⟩
    have hls':∀ i,ls'[i]?=ops[j+1+i]?:=fun i=>by have:=hls (i+1); rw [show j+1+i=j+(i+1) by omega,<- this]; rfl
    have hlate0:=hchain f0 hf0;simp only [effChain] at hlate0;obtain ⟨hwant,hlate⟩:=hlate0;rw [wanted_puts ho hs _ a hap] at hwant;have hex:=exec_puts hsel ho hs (hs.map (va f0)) a hap;have hwp:o'.wp P a u (wpAny P .any ops Q fuel (listed.setIfInBounds j true)) Q:=by
     unfold lateOp at hlate;rw [hex] at hlate;refine wp_of_late (K:=fun v u'=>Keeps T w u'/\∀ u'',Below u'.heap.size u' u''->effChain P ops T w (Q .normal) ls' ((puts ops hs (hs.map (va f0)) a).put o'.dst v) u'') hlate (fun v u' hl'=>?_);have hpn:puts ops hs (hs.map (va f0)) (a.put o'.dst v)=(puts ops hs (hs.map (va f0)) a).put o'.dst v:=by
      have:=puts_put ho (x:=v) hs (hs.map (va f0)) a hap
      rwa [dstOf_some ho] at this
     refine ih hs ls' (j+1) _ _ u' k C (by simp at hf ⊢; omega) (by simpa using hsz) (by simp at hsm; omega) aO hls' hpw hlt ?_ hcl' ⟨f0,hf0⟩ hupd hfix (fun f hf1=>?_) hl'.1 hK hkm (.inr ⟨hfree,fun f hf1 u'' hu''=>?_⟩)
     ·intro i hi
      by_cases hij:i=j
      ·subst hij;constructor
       ·intro h; exact absurd h hset0
       ·rintro (h | h)
        ·have:=(hlt _ h).1; omega
        ·omega
      ·rw [hset i hi hij];constructor
       ·rintro (h | h)
        ·exact .inl h
        ·exact .inr aO
       ·rintro (h | h)
        ·exact .inl h
        ·exact .inr aO
     ·have:=yg_put (blindDG F.sel) ho (x:=v) hs (hs.map (va f)) a (fun i hi=>(hap i hi).2) (hY f hf1)
      rwa [dstOf_some ho] at this
     ·rw [hsame f hf1,hpn]; exact hl'.2 u'' hu''
    unfold wpOp;simp only [ho];rw [if_pos hwant];exact .inl hwp
end
end Go.Proofs.YtflgngjocgiojaaGreat
