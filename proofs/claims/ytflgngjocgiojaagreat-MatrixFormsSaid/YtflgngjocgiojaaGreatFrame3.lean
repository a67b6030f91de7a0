import Derived.Test.YtflgngjocgiojaaGreatGen
import Derived.Deep.AppendLies
import Derived.Test.YtflgngjocgiojaaGreatRows
import Derived.ProofKit
import Derived.OpenShut
import Derived.ShutString
set_option linter.all false
namespace Go.Proofs.YtflgngjocgiojaaGreat
open Go.RowKit
set_option maxHeartbeats 8000000
set_option maxRecDepth 100000
section
variable {P:Program} {ops:Array Oper} {n f:Nat} {T:List Nat} {w:World} {Q:Exit->Act->World->Prop}
def waitsF (ops:Array Oper) (n f:Nat) (o:Oper):Bool:=(List.range n).all fun i=>i==f || o.after.any fun e=>Region.binds .any e&&(e.on==i || anc ops ops.size e.on i)
theorem waitsF_listed {listed:Array Bool} {o:Oper} (hcl:∀ (i:Nat) (o:Oper),ops[i]?=some o->listed.getD i false=true->∀ e∈o.after,Region.binds .any e=true->listed.getD e.on false=true)
 (hall:∀ e∈o.after,Region.binds .any e=true->listed.getD e.on false=true) (h:waitsF ops n f o=true) {i:Nat} (hi:i<n) (hf:i≠f):listed.getD i false=true:=by
 have h9:=List.all_eq_true.1 h i (List.mem_range.2 hi);have h0:(i==f)=false:=by simpa using hf
 rw [h0,Bool.false_or] at h9;obtain ⟨e,he,hb⟩:=Array.any_eq_true'.1 h9;simp only [Bool.and_eq_true,Bool.or_eq_true,beq_iff_eq] at hb;have h1:=hall e he hb.1;rcases hb.2 with h2 | h2
 ·rw [<- h2]; exact h1
 ·cases hoe:ops[e.on]? with
  | none=>simp [anc,aft,hoe,pend_nil] at h2
  | some o'=>exact anc_listed hcl ops.size e.on i o' hoe (hcl e.on o' hoe h1) h2
theorem closed_set {listed:Array Bool} {o:Oper} {j:Nat} (hcl:∀ (i:Nat) (o:Oper),ops[i]?=some o->listed.getD i false=true->∀ e∈o.after,Region.binds .any e=true->listed.getD e.on false=true)
 (ho:ops[j]?=some o) (hall:∀ e∈o.after,Region.binds .any e=true->listed.getD e.on false=true) :
 ∀ (i:Nat) (o:Oper),ops[i]?=some o->(listed.setIfInBounds j true).getD i false=true->∀ e∈o.after,Region.binds .any e=true->(listed.setIfInBounds j true).getD e.on false=true:=by
 have mono:∀ x,listed.getD x false=true->(listed.setIfInBounds j true).getD x false=true:=fun x hx=>by
  by_cases e:j=x
  ·subst e
   by_cases hl:j<listed.size
   ·simp [hl]
   ·simp [hl] at hx
  ·rw [getD_set_ne false e]; exact hx
 intro i o2 ho2 hi e he hb
 by_cases e1:j=i
 ·subst e1;rw [ho] at ho2; cases ho2;exact mono _ (hall e he hb)
 ·rw [getD_set_ne false e1] at hi;exact mono _ (hcl i o2 ho2 hi e he hb)
def wpSinkF (P:Program) (ops:Array Oper) (n f:Nat) (q:Bool) (T:List Nat) (w:World) (Q:Act->World->Prop):List Oper->Act->World->Prop
 | [],A,u=>Q A u
 | o::os,A,u=>(q=true/\waitsF ops n f o=true/\lateOp P o A u (fun v u'=>wpSinkF P ops n f q T w Q os (A.put o.dst v) u')) \/
  lateOp P o A u (fun v u'=>Keeps T w u'/\∀ u'',Below u'.heap.size u' u''->wpSinkF P ops n f q T w Q os (A.put o.dst v) u'')
theorem sinkF_main {e:Nat} {q:Bool} (hq:q=true->e=ops.size) (hes:e<=ops.size) (F:Fit ops n e):∀ (fuel:Nat) (hs:List Nat) (ls:List Oper) (s:Nat) (vs:List Value) (listed:Array Bool) (a:Act) (u:World),fuel=hs.length+ls.length ->
 listed.size=ops.size->s+ls.length=e->n<=s->(∀ k,k<ls.length->ls[k]?=ops[s+k]?)->hs.Pairwise (·<·)->(∀ i∈hs,(i<n\/e<=i)/\i<ops.size) ->
 (∀ k,k<ops.size->(listed.getD k true=false↔(k∈hs\/(s<=k/\k<e))))->(∀ (i:Nat) (o:Oper),ops[i]?=some o->listed.getD i false=true->∀ e∈o.after,Region.binds .any e=true->listed.getD e.on false=true)->hs.length=vs.length->(∀ i∈hs,i≠f) ->
 (∀ v,Keeps T w v->YSeq P ops (CL T w v) hs vs a)->(hs=[]\/Keeps T w u) ->
 ((hs=[]/\wpSinkF P ops n f q T w (Q .normal) ls (puts ops hs vs a) u)\/∀ u',Below u.heap.size u u'->wpSinkF P ops n f q T w (Q .normal) ls (puts ops hs vs a) u') ->
 wpAny P .any ops Q fuel listed a u:=by
 intro fuel
 induction fuel with
 | zero =>
  intro hs ls s vs listed a u hf hsz hsm hn hls _ hlt hun hcl hlen hfr hY hu hL;have h1:hs=[]:=by cases hs with | nil=>rfl | cons=>simp at hf; omega
  have h2:ls=[]:=by cases ls with | nil=>rfl | cons=>simp at hf
  subst h1; subst h2;have h3:vs=[]:=by cases vs with | nil=>rfl | cons=>simp at hlen
  subst h3;have hL':wpSinkF P ops n f q T w (Q .normal) [] (puts ops [] [] a) u:=by
   rcases hL with h | h
   ·exact h.2
   ·exact h u (Zb _ _)
  refine ⟨?_,hL'⟩;rw [List.eq_nil_iff_forall_not_mem];intro j hj;obtain ⟨h4,o,ho,_⟩:=mem_ready.1 hj;have hjs:j<ops.size:=(Zt.1 ho).1;rcases (hun j hjs).1 h4 with h5 | h5
  ·cases h5
  ·simp at hsm; omega
 | succ fuel ih =>
  intro hs ls s vs listed a u hf hsz hsm hn hls hpw hlt hun hcl hlen hfr hY hu hL;have hlisted:∀ k,k<ops.size->k∉hs->(k<s\/e<=k)->listed.getD k false=true:=by
   intro k hk h1 h2;have h3:¬ (listed.getD k true=false):=fun h=>by rcases (hun k hk).1 h with h | h; exact h1 h; omega
   have hk':k<listed.size:=aO
   simp [hk'] at h3 ⊢;exact h3
  refine ⟨fun hr=>?_,fun j hj=>?_⟩
  ·exfalso;have:∃ i,i<ops.size/\(i∈hs\/(s<=i/\i<e))/\(∀ k,k<i->k∉hs/\(k<s\/e<=k)):=by
    cases hs with
    | nil=>exact ⟨s,by simp at hf; omega,.inr ⟨Zr _,by simp at hf; omega⟩,fun k hk=>⟨aS,.inl hk⟩⟩
    | cons i hs =>
     have h1:=hlt i (List.mem_cons_self);have h2:∀ k,k<i->k∉i::hs:=fun k hk hm=>by
      rcases List.mem_cons.1 hm with h | h
      ·omega
      ·have:=(List.pairwise_cons.1 hpw).1 k h; omega
     by_cases hsi:s<i/\s<e
     ·exact ⟨s,aO,.inr ⟨Zr _,hsi.2⟩,fun k hk=>⟨h2 k aO,.inl hk⟩⟩
     ·exact ⟨i,h1.2,.inl (List.mem_cons_self),fun k hk=>⟨h2 k hk,aO⟩⟩
   obtain ⟨i,hi,hin,hlow⟩:=this;have hmem:i∈Region.ready .any ops listed:=mem_ready.2 ⟨(hun i hi).2 hin,ops[i],Array.getElem?_eq_getElem hi,fun e he hb=>by
    have h1:=F.back i ops[i] (Array.getElem?_eq_getElem hi) e he hb;exact hlisted _ aO (hlow _ h1).1 (hlow _ h1).2⟩
   rw [hr] at hmem;cases hmem
  ·obtain ⟨hj0,o,ho,hall⟩:=mem_ready.1 hj;have hjs:j<ops.size:=(Zt.1 ho).1;have hnowait:∀ i,(i∈hs\/(s<=i/\i<e))->i<ops.size->∀ e∈o.after,Region.binds .any e=true->e.on≠i:=by
    intro i hi his e he hb heq;have h1:=hall e he hb;have h2:=(hun i his).2 hi;have his':i<listed.size:=aO
    rw [heq] at h1;simp [his'] at h1 h2;rw [h1] at h2; cases h2
   have hsel:=fun cs b=>F.sel j o cs b ho
   have hcl':=closed_set hcl ho hall;rcases (hun j hjs).1 hj0 with hjh | hjl
   ·
    have hu':Keeps T w u:=by
     rcases hu with h | h
     ·rw [h] at hjh; cases hjh
     ·exact h
    have hL':∀ u',Below u.heap.size u u'->wpSinkF P ops n f q T w (Q .normal) ls (puts ops hs vs a) u':=by
     rcases hL with h | h
     ·rw [h.1] at hjh; cases hjh
     ·exact h
    obtain ⟨pre,post,rfl⟩:=List.append_of_mem hjh;have hpl:pre.length<vs.length:=by rw [<- hlen]; simp
    obtain ⟨vpre,vj,vpost,rfl,hvl⟩:∃ vpre vj vpost,vs=vpre++vj::vpost/\pre.length=vpre.length:=by
     refine ⟨vs.take pre.length,vs[pre.length],vs.drop (pre.length+1),?_,aT⟩;rw [<- List.drop_eq_getElem_cons hpl,List.take_append_drop]
    have hpj:∀ i∈pre,Apart ops i j:=by
     intro i hi oi oj hoi hoj;have hij:i<j:=by
      rw [List.pairwise_append] at hpw;exact hpw.2.2 i hi j (List.mem_cons_self)
     have h1:=hlt i (List.mem_append_left _ hi);rw [ho] at hoj; cases hoj;exact F.free i j oi o h1.1 hij hoi ho (hnowait i (.inl (List.mem_append_left _ hi)) h1.2)
    have hY2:=fun v hv=>yseq_pull (P:=P) (C:=CL T w v) F.sel (vj:=vj) pre vpre a hvl hpj (hY v hv)
    obtain ⟨⟨oj,hoj,hy⟩,_⟩:=(hY2 u hu').1;rw [ho] at hoj; cases hoj;have hcl:CL T w u u:=⟨⟨u,hu',Zb _ _⟩,rfl⟩;have hq:qOp P ops (CL T w u) j (fun a'=>a'=a.put o.dst vj) a:=hy.qOp ho rfl;refine wpOp_of_qOp hcl (fun a' u' hu'' ha'=>?_) hq;obtain ⟨x,rfl⟩:=hu'';subst ha';refine ih (pre++post) ls s (vpre++vpost) _ _ x.u (by simp at hf ⊢; omega) (by simpa using hsz) hsm hn hls ?_ ?_ ?_ hcl' (by simp at hlen ⊢; omega) (fun i hi=>hfr i (by
     rcases List.mem_append.1 hi with h | h
     ·exact List.mem_append_left _ h
     ·exact List.mem_append_right _ (List.mem_cons_of_mem _ h))) ?_ (.inr x.h) (.inr ?_)
    ·exact hpw.sublist (List.Sublist.append (List.Sublist.refl pre) (List.sublist_cons_self j post))
    ·intro i hi;refine hlt i ?_;rcases List.mem_append.1 hi with h | h
     ·exact List.mem_append_left _ h
     ·exact List.mem_append_right _ (List.mem_cons_of_mem _ h)
    ·intro k hk;have hnd:j∉pre++post:=by
      intro h;rw [List.pairwise_append] at hpw;rcases List.mem_append.1 h with h | h
      ·have:=hpw.2.2 j h j (List.mem_cons_self); omega
      ·have:=(List.pairwise_cons.1 hpw.2.1).1 j h; omega
     have hjn:=hlt j hjh
     by_cases hkj:j=k
     ·subst hkj;have:j<listed.size:=aO
      simp only [Array.getD_eq_getD_getElem?,Array.getElem?_setIfInBounds_self_of_lt this,Option.getD_some];constructor
      ·intro h; cases h
      ·rintro (h | h)
       ·exact absurd h hnd
       ·omega
     ·rw [getD_set_ne true hkj,hun k hk];simp only [List.mem_append,List.mem_cons];constructor
      ·rintro ((h | h | h) | h)
       ·exact .inl (.inl h)
       ·omega
       ·exact .inl (.inr h)
       ·exact .inr h
      ·rintro ((h | h) | h)
       ·exact .inl (.inl h)
       ·exact .inl (.inr (.inr h))
       ·exact .inr h
    ·intro v hv;have:=(hY2 v hv).1.2
     rwa [dstOf_some ho] at this
    ·have h1:=(hY2 u hu').2;simp only [puts] at h1;rw [dstOf_some ho] at h1;rw [<- h1];exact fun u' h=>hL' u' (x.g.trans (h.mono x.g.size))
   ·
    have hjs':j=s:=by
     rcases Nat.lt_or_ge s j with h | h
     ·exfalso;obtain ⟨e,he,hb,hon⟩:=F.chain j o aO hjl.2 ho;exact hnowait (j - 1) (.inr aO) aO e he hb hon
     ·omega
    subst hjs';obtain ⟨o',ls',rfl⟩:∃ o' ls',ls=o'::ls':=by
     cases ls with
     | nil=>simp at hsm; omega
     | cons o' ls'=>exact ⟨o',ls',rfl⟩
    have ho':o'=o:=by have:=hls 0 aS; simp [ho] at this; exact this
    subst ho';have hap:∀ i∈hs,(∃ o,ops[i]?=some o)/\Apart ops i j:=by
     intro i hi;have h1:=hlt i hi;refine ⟨⟨ops[i]'h1.2,Array.getElem?_eq_getElem h1.2⟩,fun oi oj hoi hoj=>?_⟩;rw [ho] at hoj; cases hoj;rcases Nat.lt_or_ge i j with hij | hij
     ·exact F.free i j oi o' h1.1 hij hoi ho (hnowait i (.inl hi) h1.2)
     ·exact F.behind i j oi o' aO hn hjl.2 hoi ho
    have hg:=F.bare j o' hn hjl.2 ho;have hun':∀ k,k<ops.size->((listed.setIfInBounds j true).getD k true=false↔(k∈hs\/(j+1<=k/\k<e))):=by
     intro k hk
     by_cases hkj:j=k
     ·subst hkj;have:j<listed.size:=aO
      simp only [Array.getD_eq_getD_getElem?,Array.getElem?_setIfInBounds_self_of_lt this,Option.getD_some];constructor
      ·intro h; cases h
      ·rintro (h | h)
       ·have:=hlt j h; omega
       ·omega
     ·rw [getD_set_ne true hkj,hun k hk];constructor
      ·rintro (h | h)
       ·exact .inl h
       ·exact .inr aO
      ·rintro (h | h)
       ·exact .inl h
       ·exact .inr aO
    have hls':∀ k,k<ls'.length->ls'[k]?=ops[j+1+k]?:=fun k hk=>by have:=hls (k+1) aT; rw [show j+1+k=j+(k+1) by omega,<- this]; rfl
    have hYn:∀ v x,Keeps T w x->YSeq P ops (CL T w x) hs vs (a.put o'.dst v):=fun v x hx=>by
     have:=yseq_put (P:=P) (C:=CL T w x) F.sel ho (x:=v) hs vs a (fun i hi=>(hap i hi).2) (hY x hx)
     rwa [dstOf_some ho] at this
    have hpn:∀ v,puts ops hs vs (a.put o'.dst v)=(puts ops hs vs a).put o'.dst v:=fun v=>by
     have:=puts_put ho (x:=v) hs vs a hap
     rwa [dstOf_some ho] at this
    have hlate:wpSinkF P ops n f q T w (Q .normal) (o'::ls') (puts ops hs vs a) u:=by
     rcases hL with h | h
     ·exact h.2
     ·exact h u (Zb _ _)
    have hex:=exec_puts hsel ho hs vs a hap;have hwp:o'.wp P a u (wpAny P .any ops Q fuel (listed.setIfInBounds j true)) Q:=by
     rcases hlate with ⟨hqt,hw,hl⟩ | hl
     ·have hnil:hs=[]:=by
       cases hs with
       | nil=>rfl
       | cons i hs =>
        exfalso;have h1:=hlt i (List.mem_cons_self);have h2:=hq hqt;have h3:=waitsF_listed hcl hall hw (show i<n by omega) (hfr i List.mem_cons_self);have h4:=(hun i h1.2).2 (.inl List.mem_cons_self);have h5:i<listed.size:=aO
        simp [h5] at h3 h4;rw [h3] at h4; cases h4
      unfold lateOp at hl;rw [hex] at hl;refine wp_of_late (K:=fun v u'=>wpSinkF P ops n f q T w (Q .normal) ls' ((puts ops hs vs a).put o'.dst v) u') hl (fun v u' hl'=>?_);exact ih hs ls' (j+1) vs _ _ u' (by simp at hf ⊢; omega) (by simpa using hsz) (by simp at hsm; omega) aO hls' hpw hlt hun' hcl' hlen hfr (hYn v) (.inl hnil) (.inl ⟨hnil,by rw [hpn]; exact hl'⟩)
     ·unfold lateOp at hl;rw [hex] at hl;refine wp_of_late (K:=fun v u'=>Keeps T w u'/\∀ u'',Below u'.heap.size u' u''->wpSinkF P ops n f q T w (Q .normal) ls' ((puts ops hs vs a).put o'.dst v) u'') hl (fun v u' hl'=>?_);exact ih hs ls' (j+1) vs _ _ u' (by simp at hf ⊢; omega) (by simpa using hsz) (by simp at hsm; omega) aO hls' hpw hlt hun' hcl' hlen hfr (hYn v) (.inr hl'.1) (.inr (fun u'' hu''=>by rw [hpn]; exact hl'.2 u'' hu''))
    unfold wpOp;simp only [ho];rw [if_pos (by simp [Region.wanted,hg])];exact .inl hwp
def waitsT (ops:Array Oper) (n:Nat) (o:Oper):Bool:=waitsF ops n ops.size o
def wpSink (P:Program) (ops:Array Oper) (n:Nat) (q:Bool) (T:List Nat) (w:World) (Q:Act->World->Prop):List Oper->Act->World->Prop:=wpSinkF P ops n ops.size q T w Q
theorem sink_any {a:Act} {l:List Oper} (n m:Nat) (T:List Nat) (hB:lateFit l n m=true) (hp:placesFit (l.take n++l.drop (n+m)) a.tmps.size=true)
 (h:∃ A,(∀ v,Keeps T w v->Nonempty (Later T w v)->wpQuiet P l.toArray (fun w'=>∃ x:Later T w v,w'=x.u) (fun a'=>a'=A) (l.take n++l.drop (n+m)) a) /\
  (∀ u,Below w.heap.size w u->wpSink P l.toArray n (n+m==l.length) T w (Q .normal) ((l.drop n).take m) A u)):wpAny P .any l.toArray Q l.toArray.size (Array.replicate l.toArray.size false) a w.drew:=by
 obtain ⟨A,hq,hl⟩:=h;have F:=fit_of hB;have hnl:n+m<=l.length:=by simp only [lateFit,Bool.and_eq_true,decide_eq_true_eq] at hB; exact hB.2
 simp only [placesFit,Bool.and_eq_true,decide_eq_true_eq] at hp;have hlenq:(l.take n++l.drop (n+m)).length=(List.range' 0 n++List.range' (n+m) (l.length - (n+m))).length:=aT
 have hidx:∀ (j i:Nat),(List.range' 0 n++List.range' (n+m) (l.length - (n+m)))[j]?=some i->(l.take n++l.drop (n+m))[j]?=l.toArray[i]?:=by
  intro j i hj;rw [List.getElem?_append] at hj ⊢;simp only [List.length_range',List.length_take] at hj ⊢;rw [show min n l.length=n by omega];split at hj
  ·rename_i hjn
   rw [if_pos hjn];rw [List.getElem?_range' hjn] at hj;simp only [Option.some.injEq] at hj;subst hj;rw [List.getElem?_take_of_lt hjn]; simp
  ·rename_i hjn
   rw [if_neg hjn];rw [List.getElem?_eq_some_iff] at hj;obtain ⟨hj3,hj4⟩:=hj;simp only [List.getElem_range'] at hj4;rw [List.getElem?_drop];simp;congr 1;omega
 have hY:=fun v hv=>yseq_of_quiet (P:=P) (ops:=l.toArray) (C:=CL T w v) (A:=A) (l.take n++l.drop (n+m)) _ a hlenq hidx (fun o ho=>by
  have:=List.all_eq_true.1 hp.1 o ho;cases hd:o.dst with
  | none=>rw [hd] at this; cases this
  | some d=>rw [hd] at this; exact ⟨d,rfl,by simpa using this⟩) hp.2 (hq v hv ⟨⟨v,hv,Zb _ _⟩⟩)
 have hw0:Below w.heap.size w w.drew:=(Zb _ _).drew;have hmem:∀ k,k∈List.range' 0 n++List.range' (n+m) (l.length - (n+m))↔(k<n\/(n+m<=k/\k<l.length)):=fun k=>by
  rw [List.mem_append,List.mem_range'_1,List.mem_range'_1]; omega
 have:=sinkF_main (P:=P) (T:=T) (w:=w) (Q:=Q) (q:=(n+m==l.length)) (e:=n+m) (f:=l.toArray.size) (fun h=>by simpa using h) (by simpa using hnl) F l.toArray.size (List.range' 0 n++List.range' (n+m) (l.length - (n+m))) ((l.drop n).take m) n _ (Array.replicate l.toArray.size false) a w.drew
  aT aS aT (Zr _) (fun k hk=>by
   have hk':k<m:=by simp at hk; omega
   rw [List.getElem?_take_of_lt hk',List.getElem?_drop]; simp)
  (by
   rw [List.pairwise_append];refine ⟨List.pairwise_lt_range',List.pairwise_lt_range',fun x hx y hy=>?_⟩;have:=List.mem_range'_1.1 hx;have:=List.mem_range'_1.1 hy;omega) (fun i hi=>by have:=(hmem i).1 hi; simp; omega)
  (fun k hk=>by
   have hk':k<l.length:=by simpa using hk
   rw [hmem];simp [hk'];omega) (fun i o _ hi=>by
   rw [Array.getD_eq_getD_getElem?,Array.getElem?_replicate] at hi;split at hi <;> simp at hi) (by rw [List.length_map]; exact hlenq.symm) (fun i hi=>by have:=(hmem i).1 hi; simp; omega) (fun v hv=>(hY v hv).1) (.inr (Keeps.of_below hw0)) (.inr fun u' hu'=>?_)
 ·exact this
 ·rw [(hY w (Keeps.refl _ _)).2];exact hl u' (hw0.trans hu')
theorem region_sink_mid {id:Nat} {a:Act} {l:List Oper} (n m:Nat) (T:List Nat) (hm:P.follows .mixedOrders=true) (hB:lateFit l n m=true) (hp:placesFit (l.take n++l.drop (n+m)) a.tmps.size=true)
 (h:∃ A,(∀ v,Keeps T w v->Nonempty (Later T w v)->wpQuiet P l.toArray (fun w'=>∃ x:Later T w v,w'=x.u) (fun a'=>a'=A) (l.take n++l.drop (n+m)) a) /\
  (∀ u,Below w.heap.size w u->wpSink P l.toArray n (n+m==l.length) T w (Q .normal) ((l.drop n).take m) A u)):(Code.region id l.toArray true).wp P Q a w:=wp_region_any hm (sink_any n m T hB hp h)
theorem region_sink {id:Nat} {a:Act} {l:List Oper} (n:Nat) (T:List Nat) (hm:P.follows .mixedOrders=true) (hB:lateFit l n (l.length - n)=true) (hp:placesFit (l.take n) a.tmps.size=true)
 (h:∃ A,(∀ v,Keeps T w v->Nonempty (Later T w v)->wpQuiet P l.toArray (fun w'=>∃ x:Later T w v,w'=x.u) (fun a'=>a'=A) (l.take n) a) /\
  (∀ u,Below w.heap.size w u->wpSink P l.toArray n true T w (Q .normal) (l.drop n) A u)):(Code.region id l.toArray true).wp P Q a w:=by
 have hnl:n+(l.length - n)<=l.length:=by simp only [lateFit,Bool.and_eq_true,decide_eq_true_eq] at hB; exact hB.2
 have e1:l.drop (n+(l.length - n))=[]:=List.drop_eq_nil_of_le aO;have e2:(l.drop n).take (l.length - n)=l.drop n:=List.take_of_length_le aS;have e3:(n+(l.length - n)==l.length)=true:=aT
 refine region_sink_mid n (l.length - n) T hm hB ?_ ?_
 ·rw [e1,List.append_nil]; exact hp
 ·rw [e1,List.append_nil,e2,e3]; exact h
end
theorem sinkF_nil {P:Program} {ops:Array Oper} {n f:Nat} {q:Bool} {T:List Nat} {w:World} {Q:Act->World->Prop} {A:Act} {u:World} (h:Q A u):wpSinkF P ops n f q T w Q [] A u:=h
theorem sinkF_mem {P:Program} {ops:Array Oper} {n f:Nat} {q:Bool} {T:List Nat} {w:World} {Q:Act->World->Prop} {o:Oper} {os:List Oper} {A:Act} {u:World}
 (h:∀ K:Value->World->Prop,(∀ v u',Keeps T w u'->(∀ u'',Below u'.heap.size u' u''->wpSinkF P ops n f q T w Q os (A.put o.dst v) u'')->K v u')->lateOp P o A u K):wpSinkF P ops n f q T w Q (o::os) A u:=
 .inr (h _ fun _ _ h1 h2=>⟨h1,h2⟩)
theorem sinkF_all {P:Program} {ops:Array Oper} {n f:Nat} {T:List Nat} {w:World} {Q:Act->World->Prop} {o:Oper} {os:List Oper} {A:Act} {u:World} (hw:waitsF ops n f o=true)
 (h:∀ K:Value->World->Prop,(∀ v u',wpSinkF P ops n f true T w Q os (A.put o.dst v) u'->K v u')->lateOp P o A u K):wpSinkF P ops n f true T w Q (o::os) A u:=
 .inl ⟨rfl,hw,h _ fun _ _ h1=>h1⟩
theorem sink_nil {P:Program} {ops:Array Oper} {n:Nat} {q:Bool} {T:List Nat} {w:World} {Q:Act->World->Prop} {A:Act} {u:World} (h:Q A u):wpSink P ops n q T w Q [] A u:=h
theorem sink_mem {P:Program} {ops:Array Oper} {n:Nat} {q:Bool} {T:List Nat} {w:World} {Q:Act->World->Prop} {o:Oper} {os:List Oper} {A:Act} {u:World}
 (h:∀ K:Value->World->Prop,(∀ v u',Keeps T w u'->(∀ u'',Below u'.heap.size u' u''->wpSink P ops n q T w Q os (A.put o.dst v) u'')->K v u')->lateOp P o A u K):wpSink P ops n q T w Q (o::os) A u:=sinkF_mem h
theorem sink_all {P:Program} {ops:Array Oper} {n:Nat} {T:List Nat} {w:World} {Q:Act->World->Prop} {o:Oper} {os:List Oper} {A:Act} {u:World} (hw:waitsT ops n o=true)
 (h:∀ K:Value->World->Prop,(∀ v u',wpSink P ops n true T w Q os (A.put o.dst v) u'->K v u')->lateOp P o A u K):wpSink P ops n true T w Q (o::os) A u:=sinkF_all hw h
section
variable {P:Program} {n:Nat} {T:List Nat} {w:World}
def waitsAll (n:Nat) (o:Oper):Bool:=(List.range n).all fun i=>o.after.any fun e=>Region.binds .any e&&e.on==i
def wpLate (P:Program) (n:Nat) (q:Bool) (T:List Nat) (w:World) (Q:Act->World->Prop):List Oper->Act->World->Prop
 | [],A,u=>Q A u
 | o::os,A,u=>(q=true/\waitsAll n o=true/\lateOp P o A u (fun v u'=>wpLate P n q T w Q os (A.put o.dst v) u')) \/
  lateOp P o A u (fun v u'=>Keeps T w u'/\∀ u'',Below u'.heap.size u' u''->wpLate P n q T w Q os (A.put o.dst v) u'')
theorem lateOp_mono {o:Oper} {a:Act} {u:World} {K K':Value->World->Prop} (h:lateOp P o a u K) (hk:∀ v u',K v u'->K' v u'):lateOp P o a u K':=by
 unfold lateOp at h ⊢;generalize (execOp a.eval o).run P u=r at *;cases r with
 | ok x u' =>
  cases x <;> simp only [lateUpon] at h ⊢
  case value v=>exact hk _ _ h
  case skip=>exact hk _ _ h
  case enter f args=>exact h.mono fun e u'' ⟨v,he,hv⟩=>⟨v,he,hk _ _ hv⟩
 | halt x u'=>simp only [lateUpon] at h
theorem waitsF_of {ops:Array Oper} {f:Nat} {o:Oper} (h:waitsAll n o=true):waitsF ops n f o=true:=by
 refine List.all_eq_true.2 fun i hi=>?_
 have h1:=List.all_eq_true.1 h i hi;rw [Bool.or_eq_true];refine .inr ?_;obtain ⟨e,he,hb⟩:=Array.any_eq_true'.1 h1;refine Array.any_eq_true'.2 ⟨e,he,?_⟩;simp only [Bool.and_eq_true,Bool.or_eq_true] at hb ⊢;exact ⟨hb.1,.inl hb.2⟩
theorem late_to {ops:Array Oper} {f:Nat} {q:Bool} {Q:Act->World->Prop}:∀ (ls:List Oper) (A:Act) (u:World),wpLate P n q T w Q ls A u->wpSinkF P ops n f q T w Q ls A u
 | [],_,_,h=>h
 | o::os,A,u,h=>by
  rcases h with ⟨h1,h2,h3⟩ | h
  ·exact .inl ⟨h1,waitsF_of h2,lateOp_mono h3 fun v u' hv=>late_to os _ u' hv⟩
  ·exact .inr (lateOp_mono h fun v u' hv=>⟨hv.1,fun u'' hu=>late_to os _ u'' (hv.2 u'' hu)⟩)
theorem region_late {Q:Exit->Act->World->Prop} {id:Nat} {a:Act} {l:List Oper} (n:Nat) (T:List Nat) (hm:P.follows .mixedOrders=true) (hB:lateFit l n (l.length - n)=true) (hp:placesFit (l.take n) a.tmps.size=true)
 (h:∃ A,(∀ v,Keeps T w v->Nonempty (Later T w v)->wpQuiet P l.toArray (fun w'=>∃ x:Later T w v,w'=x.u) (fun a'=>a'=A) (l.take n) a) /\
  (∀ u,Below w.heap.size w u->wpLate P n true T w (Q .normal) (l.drop n) A u)):(Code.region id l.toArray true).wp P Q a w:=by
 obtain ⟨A,h1,h2⟩:=h;exact region_sink n T hm hB hp ⟨A,h1,fun u hu=>late_to _ _ _ (h2 u hu)⟩
end
theorem late_nil {P:Program} {n:Nat} {q:Bool} {T:List Nat} {w:World} {Q:Act->World->Prop} {A:Act} {u:World} (h:Q A u):wpLate P n q T w Q [] A u:=h
theorem late_mem {P:Program} {n:Nat} {q:Bool} {T:List Nat} {w:World} {Q:Act->World->Prop} {o:Oper} {os:List Oper} {A:Act} {u:World}
 (h:∀ K:Value->World->Prop,(∀ v u',Keeps T w u'->(∀ u'',Below u'.heap.size u' u''->wpLate P n q T w Q os (A.put o.dst v) u'')->K v u')->lateOp P o A u K):wpLate P n q T w Q (o::os) A u:=
 .inr (h _ fun _ _ h1 h2=>⟨h1,h2⟩)
theorem late_sink {P:Program} {n:Nat} {T:List Nat} {w:World} {Q:Act->World->Prop} {o:Oper} {os:List Oper} {A:Act} {u:World} (hw:waitsAll n o=true)
 (h:∀ K:Value->World->Prop,(∀ v u',wpLate P n true T w Q os (A.put o.dst v) u'->K v u')->lateOp P o A u K):wpLate P n true T w Q (o::os) A u:=
 .inl ⟨rfl,hw,h _ fun _ _ h1=>h1⟩
theorem mod_eq (a b:Int):a.tmod b%b=a%b:=by
 have h:=Int.tmod_add_mul_tdiv a b;have e:a.tmod b=a+b*(-(a.tdiv b)):=by rw [Int.mul_neg]; omega
 rw [e,Int.add_mul_emod_self_left]
theorem tmod_bd (a b:Int) (hb:1<=b):-b<a.tmod b/\a.tmod b<b:=
 ⟨Int.lt_tmod_of_pos a aO,Int.tmod_lt_of_pos a aO⟩
theorem ref1_Mod (a b:Int) (hb:1<=b) (hb2:b<=1000000000) (w:World) :
 Calls Tryz.prog 39 #[.int .i64 a,.int .i64 b] w fun r w'=>r = .returned (.int .i64 (a%b))/\w=w':=by
 have hm:=Zh (mod_eq a b);have hbd:=tmod_bd a b hb;have h0:¬ b=0:=aO
 have hlt:¬ b<1:=aO
 go_enter Tryz.func39,Tryz.ntmps39;go_wp2;go_ret;exact ⟨ret_int hm.out,rfl⟩
structure DrawAt (w:World) (bd:Nat) (l:List Int):Prop where
 ex:∃ (A:Option Addr) (n cap at_:Nat),Own w bd #[.slice A n cap,.int .i64 at_]/\at_+l.length=n/\n<=9223372036854775807 /\
  (l≠[]->∃ b off,A=some ⟨b,off,none⟩/\b<bd/\∀ i,i<l.length->w.cell? ⟨b,off+(at_+i),none⟩=some (.int .i64 (l.getD i 0)))
def nextV:List Int->Int->Int
 | [],_=>0
 | x::_,m=>x%m
theorem ref1_Next (bd:Nat) (l:List Int) (m:Int) (hm:1<=m) (hm2:m<=1000000000) (w:World) (hd:DrawAt w bd l) :
 Calls Tryz.prog 34 #[.pointer (some ⟨bd,0,none⟩),.int .i64 m] w fun r w'=>r = .returned (.int .i64 (nextV l m))/\(Upd [bd] w w'/\DrawAt w' bd l.tail):=by
 obtain ⟨A,n,cap,at_,ho,hn,hmax,hl⟩:=hd.ex;have oc:=ho.cell;have of:=ho.thaw;cases l with
 | nil =>
  have hge:(n:Int)<=(at_:Int):=by simp at hn; omega
  go_enter Tryz.func34,Tryz.ntmps34;go_wp2;go_quiet (fail);go_wp2;go_ret;exact ⟨rfl,⟨rfl,rfl,rfl,aS,fun _ _ _=>rfl⟩,⟨A,n,cap,at_,ho,hn,hmax,fun h=>absurd rfl h⟩⟩
 | cons x l =>
  obtain ⟨b,off,rfl,hbd,hc⟩:=hl aS;have hne:b≠bd:=aO
  have hlt:b<w.heap.size:=by have:=ho.lt; omega
  have h0:=hc 0 aS;have hlt2:at_<n:=by simp at hn; omega
  have hge2:(at_:Int)<(n:Int):=aO
  simp at h0;go_enter Tryz.func34,Tryz.ntmps34;go_wp2;go_quiet (fail);go_wp2;have p:=(ho.drewN nq).set 1 (.int .i64 ((at_:Int)+1));have hcW:((w.drewN nq).setCell ⟨bd,1,none⟩ (.int .i64 ((at_:Int)+1))).cell? ⟨b,off+at_,none⟩=some (.int .i64 x):=by
   rw [World.cell?_setCell_other _ _ _ _ (by intro e; injection e with e1; exact hne e1.symm)]; exact h0
  have hall:∀ i,i<l.length->((w.drewN nq).setCell ⟨bd,1,none⟩ (.int .i64 ((at_:Int)+1))).cell? ⟨b,off+(at_+1+i),none⟩=some (.int .i64 (l.getD i 0)):=fun i hi=>by
   rw [World.cell?_setCell_other _ _ _ _ (by intro e; injection e with e1; exact hne e1.symm)];have:=hc (i+1) aT;rw [show off+(at_+(i+1))=off+(at_+1+i) by omega] at this;simpa using this
  have hU:Upd [bd] w ((w.drewN nq).setCell ⟨bd,1,none⟩ (.int .i64 ((at_:Int)+1))):=((Upd.refl _ _).drewN nq).set aS _;generalize (w.drewN nq).setCell ⟨bd,1,none⟩ (.int .i64 ((at_:Int)+1))=W at *;have HALL:=Zh hall;clear hall h0 oc of hc hl;have hbW:b<W.heap.size:=Zl hlt hU.size;refine region_late 13 [] aK aK (by rfl) ?_;apply Zs;refine ⟨fun v hv hne2=>?_,fun u hu=>?_⟩
  ·simp only [TK];have d1:=fun x=>(p.later (v:=v) (T:=[]) aS x).cell
   have d2:=fun y:Later [] W v=>(y.cell b (off+at_) hbW aS).trans hcW
   simp only [List.setIfInBounds_toArray,List.set_cons_zero,List.set_cons_succ] at d1
   repeat (go_big_quiet_step ((go_at_call 39; exact lateS (ref1_Mod _ _ hm hm2 _))))
   refine wpQuiet_nil ?_;exact rfl
  ·simp only [TK];refine late_mem (fun K hK=>?_);go_simp;refine hK _ _ (Keeps.of_below hu) (fun u2 hu2=>?_);clear hK K;refine late_nil ?_
   (try simp only [LN])
   go_wp2;go_ret;have hb2:=Below.hop hu hu2;exact ⟨rfl,hU.hop hb2,⟨_,n,cap,at_+1,p.below hb2,by simp at hn ⊢; omega,hmax,fun _=>⟨b,off,rfl,hbd,fun i hi=>(hb2.cell (p:=⟨b,_,none⟩) hbW).trans (HALL.out i hi)⟩⟩⟩
theorem DrawAt.of_blocks {w w':World} {bd:Nat} {l:List Int} (h:DrawAt w bd l) (hb:∀ i,i<=bd->w'.heap[i]?=w.heap[i]?):DrawAt w' bd l:=by
 obtain ⟨A,n,cap,at_,ho,hn,hmax,hl⟩:=h.ex;refine ⟨A,n,cap,at_,ho.of_block (hb bd (Zr _)),hn,hmax,fun h1=>?_⟩;obtain ⟨b,off,e,hlt,hc⟩:=hl h1;exact ⟨b,off,e,hlt,fun i hi=>(Zc (w:=w) (a:=⟨b,_,none⟩) (hb b aO)).trans (hc i hi)⟩
theorem DrawAt.below {w w':World} {bd:Nat} {l:List Int} (h:DrawAt w bd l) (hb:Below w.heap.size w w'):DrawAt w' bd l:=by
 have hlt:bd<w.heap.size:=by obtain ⟨_,_,_,_,ho,_⟩:=h.ex; exact ho.lt
 exact h.of_blocks fun i hi=>hb.block i aO
theorem DrawAt.alloc {w:World} {bd:Nat} {l:List Int} (h:DrawAt w bd l) (o:Obj):DrawAt (w.alloc o) bd l:=h.below ((Zb _ _).alloc (Zr _) o)
theorem DrawAt.lt {w:World} {bd:Nat} {l:List Int} (h:DrawAt w bd l):bd<w.heap.size:=by
 obtain ⟨_,_,_,_,ho,_⟩:=h.ex;exact ho.lt
structure SliceI (w:World) (A:Option Addr) (n:Nat) (l:List Int):Prop where
 len:l.length=n
 max:n<=9223372036854775807
 row:l≠[]->∃ b off,A=some ⟨b,off,none⟩/\b<w.heap.size/\∀ i,i<l.length->w.cell? ⟨b,off+i,none⟩=some (.int .i64 (l.getD i 0))
theorem SliceI.below {w w':World} {A:Option Addr} {n:Nat} {l:List Int} (h:SliceI w A n l) (hb:Below w.heap.size w w'):SliceI w' A n l:=
 ⟨h.len,h.max,fun h1=>by
  obtain ⟨b,off,e,hlt,hc⟩:=h.row h1;exact ⟨b,off,e,Zl hlt hb.size,fun i hi=>(hb.cell (p:=⟨b,_,none⟩) hlt).trans (hc i hi)⟩⟩
theorem DrawAt.start {w:World} {A:Option Addr} {n cap:Nat} {l:List Int} {T:TypeId} (h:SliceI w A n l):DrawAt (w.alloc (.cells #[.slice A n cap,.int .i64 0] T)) w.heap.size l:=by
 refine ⟨A,n,cap,0,Own.new rfl,by rw [h.len]; omega,h.max,fun h1=>?_⟩;obtain ⟨b,off,e,hlt,hc⟩:=h.row h1;exact ⟨b,off,e,hlt,fun i hi=>by rw [Nat.zero_add]; exact (World.cell?_alloc_lt w _ ⟨b,_,none⟩ hlt).trans (hc i hi)⟩
theorem ownsRow_upd {w w':World} {base:Nat} {e:TypeId} {size:Nat} {v:Value} {n:Nat} {xs:List Value} {bd:Nat} (h:w.ownsRow base e size v n xs) (k:Upd [bd] w w') (hb:bd<base):w'.ownsRow base e size v n xs:=by
 obtain ⟨h1,h2⟩:=h;refine ⟨h1,?_⟩;rcases h2 with h2 | ⟨g,cap,cur,e1,e2,e3,e4⟩
 ·exact .inl h2
 ·refine .inr ⟨g,cap,cur,e1,e2,?_,e4⟩;have hg:g<w.heap.size:=by
   rcases Nat.lt_or_ge g w.heap.size with h | h
   ·exact h
   ·rw [Array.getElem?_eq_none h] at e3; cases e3
  rw [k.block g hg aT]; exact e3
theorem ownBlock_ge {w:World} {base:Nat} {e:TypeId} {size:Nat} {v:Value} {n:Nat} {xs:List Value} (h:w.ownsRow base e size v n xs) {g:Nat} (hg:v.ownBlock=some g):base<=g:=by
 rcases h.2 with ⟨rfl,_⟩ | ⟨g',cap,cur,rfl,e2,_⟩
 ·cases hg
 ·simp [Value.ownBlock] at hg; omega
theorem ownsRow_cell {w:World} {base:Nat} {e:TypeId} {size:Nat} {g n cap:Nat} {xs:List Value} (h:w.ownsRow base e size (.slice (some ⟨g,0,none⟩) n cap) n xs) (hn:0<n) :
 base<=g/\g<w.heap.size/\n<=cap/\cap<=maxLen/\∀ i,i<n*size->w.cell? ⟨g,i,none⟩=xs[i]?:=by
 rcases h.2 with ⟨e1,e2⟩ | ⟨g',cap',cur,e1,e2,e3,e4,e5,e6,e7⟩
 ·omega
 ·injection e1 with a1 a2 a3
  injection a1 with a1; injection a1 with a1
  subst a1; subst a3;have hg:g<w.heap.size:=by
   rcases Nat.lt_or_ge g w.heap.size with h | h
   ·exact h
   ·rw [Array.getElem?_eq_none h] at e3; cases e3
  refine ⟨e2,hg,e4,e5,fun i hi=>?_⟩;rw [cell_of_row w g i cur e (0,0) e3,<- e7];rw [List.getElem?_take_of_lt hi,Array.getElem?_toList]
theorem nextV_bd (l:List Int) (m:Int) (hm:1<=m):0<=nextV l m/\nextV l m<m:=by
 cases l with
 | nil=>simp [nextV]; omega
 | cons x l=>exact ⟨Int.emod_nonneg _ aO,Int.emod_lt_of_pos _ aO⟩
end Go.Proofs.YtflgngjocgiojaaGreat
namespace Go.Proofs.YtflgngjocgiojaaGreat
open Go.ChangeShapes Go.WideShapes Go.ChangeAt Go.RowKit
theorem own:ownKnob Tryz.prog.godebug=none:=aK
theorem laidOut:laidOutB Tryz.prog=true:=aK
section
variable {H:Type} {enc:TypeId×Value->H} {P:Program} {w:World} {base:Nat} {spare:Nat->Bool} {held:Bool}
end
theorem i64_wf {n:Int} (h:(Lit.int .i64 n).wf=true):I64 n:=by
 simp [Lit.wf] at h;exact h
theorem sliceI_of {W:World} {a:Option Addr} {len cap:Nat} {zs:List Int}
 (h:(a=none/\len=0/\cap=0/\zs=[])\/∃ x,a=some x/\len<=cap/\cap<=maxLen/\zs.length=cap/\(∀ i,i<zs.length->W.cell? (x.add i)=some (.int .i64 (zs.getD i 0)))/\∀ n∈zs,(Lit.int .i64 n).wf=true)
 : SliceI W a len (zs.take len)/\len<=cap/\cap<=9223372036854775807:=by
 rcases h with ⟨rfl,rfl,rfl,rfl⟩ | ⟨x,rfl,hl,hm,hz,hc,_⟩
 ·exact ⟨⟨rfl,aO,fun h=>absurd rfl h⟩,aO,aO⟩
 ·unfold maxLen at hm;refine ⟨⟨aT,aO,fun hne=>?_⟩,hl,hm⟩;have hpos:0<len:=by
   rcases Nat.eq_zero_or_pos len with h | h
   ·rw [h] at hne; simp at hne
   ·exact h
  obtain ⟨b,off,spot⟩:=x;have h0:=hc 0 aO;have hs:spot=none:=by simpa [Addr.add] using World.cell?_spot h0
  subst hs;refine ⟨b,off,rfl,?_,fun i hi=>?_⟩
  ·simp [Addr.add] at h0;rcases Nat.lt_or_ge b W.heap.size with h | h
   ·exact h
   ·simp [World.cell?,Array.getElem?_eq_none h] at h0
  ·have hi':i<len:=by simp at hi; omega
   have h1:=hc i aO;have e:(zs.take len).getD i 0=zs.getD i 0:=by
    simp [List.getElem?_take_of_lt hi']
   rw [e,<- h1]
   by_cases h2:i=0
   ·subst h2; simp [Addr.add]
   ·simp [Addr.add,h2]
end Go.Proofs.YtflgngjocgiojaaGreat
namespace Go.Proofs.YtflgngjocgiojaaGreat
open Go.RowKit
theorem len4 {l:List Int} (h:l.length=4):∃ a b c d,l=[a,b,c,d]:=by
 match l,h with
 | [a,b,c,d],_=>exact ⟨a,b,c,d,rfl⟩
end Go.Proofs.YtflgngjocgiojaaGreat
namespace Go.Proofs.YtflgngjocgiojaaGreat
open Go.ChangeShapes Go.WideShapes Go.ChangeAt Go.RowKit
section
variable {H:Type} {enc:TypeId×Value->H} {P:Program} {w:World} {base:Nat} {held:Bool}
theorem slice_in {e i:TypeId} {fuel:Nat} {cs:List Value} {x:DataW H×List MemPlace} (he:P.underlying e=some (.slice i)) (hi:P.underlying i=some (.int .i64)) (hc:P.cellsOf i=1)
 (h:DataW.trod enc P w base (fun _=>true) held fuel e cs=some x) :
 ∃ a n c z,cs=[.slice a n c]/\SliceI w a n z/\n<=c/\c<=9223372036854775807:=by
 rcases open_ints he hi hc h with ⟨rfl,_⟩ | ⟨x,l,c,zs,rfl,_,hl,hm,hz,_,hcell,hwz⟩
 ·exact ⟨_,_,_,_,rfl,sliceI_of (zs:=[]) (.inl ⟨rfl,rfl,rfl,rfl⟩)⟩
 ·exact ⟨_,_,_,_,rfl,sliceI_of (zs:=zs) (.inr ⟨_,rfl,hl,hm,by simpa using hz,hcell,hwz⟩)⟩
end
end Go.Proofs.YtflgngjocgiojaaGreat
