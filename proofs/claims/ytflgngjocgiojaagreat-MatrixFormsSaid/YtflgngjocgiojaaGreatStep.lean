import Derived.Test.YtflgngjocgiojaaGreatMem
set_option linter.all false
namespace Go.Proofs.YtflgngjocgiojaaGreat
open Go.RowKit
section
variable {P:Program} {ops:Array Oper} {T:List Nat} {w:World} {Q:Exit->Act->World->Prop}
def effChain (P:Program) (ops:Array Oper) (T:List Nat) (w:World) (Q:Act->World->Prop):List Oper->Act->World->Prop
 | [],A,u=>Q A u
 | o::os,A,u=>Region.wanted o (yielded ops A.tmps)=true/\lateOp P o A u (fun v u'=>Keeps T w u'/\∀ u'',Below u'.heap.size u' u''->effChain P ops T w Q os (A.put o.dst v) u'')
structure EF where
 j:Nat
 o:Oper
 val:Nat×Nat->Value
 R:Nat×Nat->World->Prop
 st:∀ a u u',R a u->Below u.heap.size u u'->R a u'
def putE:List EF->(Nat->Nat×Nat)->Act->Act
 | [],_,A=>A
 | m::ms,f,A=>putE ms f (A.put m.o.dst (m.val (f m.j)))
def AEff (P:Program) (ops:Array Oper) (T:List Nat) (w:World) (Q:Act->World->Prop) (ls:List Oper) (ms:List EF) (A:Act) (u:World):Prop:=
 ∀ (f:Nat->Nat×Nat) (u':World),Below u.heap.size u u'->(∀ m∈ms,u.heap.size<=(f m.j).1/\(f m.j).1<u'.heap.size/\m.R (f m.j) u')->(ms.map fun m=>(f m.j).1).Nodup->effChain P ops T w Q ls (putE ms f A) u'
theorem AEff.later {ls:List Oper} {ms:List EF} {A:Act} {u v:World} {Q:Act->World->Prop} (h:AEff P ops T w Q ls ms A u) (hv:Below u.heap.size u v):AEff P ops T w Q ls ms A v:=
 fun f u' hu hm hn=>h f u' (hv.trans (hu.mono hv.size)) (fun m hm'=>⟨Zm hv.size (hm m hm').1,(hm m hm').2⟩) hn
structure Fit3 (ops:Array Oper) (mi:List Nat) (c:Nat):Prop where
 lt:∀ i∈mi,i<c
 sel:∀ (j:Nat) (o:Oper) cs b,ops[j]?=some o->o.op ≠ .select cs b
 back:∀ (j:Nat) (o:Oper),ops[j]?=some o->∀ e∈o.after,Region.binds .any e=true->e.on<j
 free:∀ (i j:Nat) (oi oj:Oper),i<c->i∉mi->i<j->ops[i]?=some oi->ops[j]?=some oj->(∀ e∈oj.after,Region.binds .any e=true->e.on≠i)->oi.apart ops oj=true
 behind:∀ (i j:Nat) (oi oj:Oper),i<c->i∉mi->j∈mi->j<i->ops[i]?=some oi->ops[j]?=some oj->oi.apart ops oj=true
 memApart:∀ (i j:Nat) (oi oj:Oper),i∈mi->j∈mi->i≠j->ops[i]?=some oi->ops[j]?=some oj->oi.apart ops oj=true
 chain:∀ (j:Nat) (o:Oper),c<j->ops[j]?=some o->∃ e∈o.after,Region.binds .any e=true/\e.on=j - 1
 memChain:∀ (o:Oper),ops[c]?=some o->∀ i∈mi,∃ e∈o.after,Region.binds .any e=true/\e.on=i
theorem wanted_puts {o:Oper} {t:Nat} (ht:ops[t]?=some o) :
 ∀ (hs:List Nat) (vs:List Value) (a:Act),(∀ i∈hs,(∃ o,ops[i]?=some o)/\Apart ops i t)->Region.wanted o (yielded ops (puts ops hs vs a).tmps)=Region.wanted o (yielded ops a.tmps)
 | [],_,_,_=>by simp [puts]
 | _::_,[],_,_=>by simp [puts]
 | i::hs,v::vs,a,hap=>by
  obtain ⟨⟨oi,hoi⟩,h1⟩:=hap i (List.mem_cons_self);simp only [puts];rw [wanted_puts ht hs vs _ (fun k hk=>hap k (List.mem_cons_of_mem _ hk)),dstOf_some hoi];exact wanted_put (ops:=ops) o a oi.dst v (Oper.apart_spec (h1 oi o hoi ht)).1
theorem seg_at {l:List Oper} {i k j x:Nat} (h:(List.range' i k)[j]?=some x):((l.drop i).take k)[j]?=l[x]?/\i<=x/\x<i+k:=by
 rw [List.getElem?_eq_some_iff] at h;obtain ⟨hj,h⟩:=h;simp only [List.getElem_range'] at h;have hjk:j<k:=by simpa using hj
 have hx:x=i+j:=aO
 subst hx;rw [List.getElem?_take_of_lt hjk,List.getElem?_drop];exact ⟨rfl,aO,aO⟩
structure EB where
 val:Nat×Nat->Value
 R:Nat×Nat->World->Prop
 st:∀ a u u',R a u->Below u.heap.size u u'->R a u'
end
theorem effc_nil {P:Program} {ops:Array Oper} {T:List Nat} {w:World} {Q:Act->World->Prop} {A:Act} {u:World} (h:Q A u):effChain P ops T w Q [] A u:=h
theorem effc_mem {P:Program} {ops:Array Oper} {T:List Nat} {w:World} {Q:Act->World->Prop} {o:Oper} {os:List Oper} {A:Act} {u:World} (hwant:Region.wanted o (yielded ops A.tmps)=true)
 (h:∀ K:Value->World->Prop,(∀ v u',Keeps T w u'->(∀ u'',Below u'.heap.size u' u''->effChain P ops T w Q os (A.put o.dst v) u'')->K v u')->lateOp P o A u K):effChain P ops T w Q (o::os) A u:=
 ⟨hwant,h _ fun _ _ h1 h2=>⟨h1,h2⟩⟩
section
variable {P:Program} {ops:Array Oper} {T:List Nat} {w:World} {Q:Exit->Act->World->Prop}
theorem Upd.keeps {w u v:World} (h:Keeps T w u) (k:Upd T u v):Keeps T w v:=
 ⟨Zm h.1 k.size,fun b hb ht=>(k.block b (Zl hb h.1) ht).trans (h.2 b hb ht)⟩
def YG (ops:Array Oper) (D:Nat->Value->Act->Prop):List Nat->List Value->Act->Prop
 | [],[],_=>True
 | i::hs,v::vs,a=>((∃ o,ops[i]?=some o)/\D i v a)/\YG ops D hs vs (a.put (dstOf ops i) v)
 | _,_,_=>False
structure Blind (ops:Array Oper) (D:Nat->Value->Act->Prop):Prop where
 l:∀ (i j:Nat) (v u:Value) (a:Act),(∃ o,ops[i]?=some o)->(∃ o,ops[j]?=some o)->Apart ops i j->(D j v (a.put (dstOf ops i) u)↔D j v a)
 r:∀ (i j:Nat) (v u:Value) (a:Act),(∃ o,ops[i]?=some o)->(∃ o,ops[j]?=some o)->Apart ops i j->(D i v (a.put (dstOf ops j) u)↔D i v a)
theorem yg_pull {D:Nat->Value->Act->Prop} (hD:Blind ops D) {j:Nat} {post:List Nat} {vj:Value} {vpost:List Value} :
 ∀ (pre:List Nat) (vpre:List Value) (a:Act),pre.length=vpre.length->(∀ i∈pre,Apart ops i j) ->
  YG ops D (pre++j::post) (vpre++vj::vpost) a ->
  YG ops D (j::(pre++post)) (vj::(vpre++vpost)) a/\puts ops (pre++j::post) (vpre++vj::vpost) a=puts ops (j::(pre++post)) (vj::(vpre++vpost)) a
 | [],[],a,_,_,h=>⟨h,rfl⟩
 | i::pre,v::vpre,a,hl,hap,h=>by
  obtain ⟨⟨⟨oi,hoi⟩,hyi⟩,h2⟩:=h;obtain ⟨h3,h4⟩:=yg_pull hD pre vpre _ (by simpa using hl) (fun k hk=>hap k (List.mem_cons_of_mem _ hk)) h2;obtain ⟨⟨⟨oj,hoj⟩,hyj⟩,h5⟩:=h3;have hij:=hap i (List.mem_cons_self);have ha:=hij oi oj hoi hoj;have hsw:=put_swap hoi hoj ha a v vj;refine ⟨⟨⟨⟨oj,hoj⟩,?_⟩,⟨⟨oi,hoi⟩,?_⟩,?_⟩,?_⟩
  ·exact (hD.l i j vj v a ⟨oi,hoi⟩ ⟨oj,hoj⟩ hij).1 hyj
  ·exact (hD.r i j v vj a ⟨oi,hoi⟩ ⟨oj,hoj⟩ hij).2 hyi
  ·rw [<- hsw]; exact h5
  ·simp only [List.cons_append,puts] at h4 ⊢;rw [h4,hsw]
theorem yg_put {D:Nat->Value->Act->Prop} (hD:Blind ops D) {t:Nat} {ot:Oper} (ht:ops[t]?=some ot) {x:Value} :
 ∀ (hs:List Nat) (vs:List Value) (a:Act),(∀ i∈hs,Apart ops i t)->YG ops D hs vs a ->
  YG ops D hs vs (a.put (dstOf ops t) x)
 | [],[],_,_,_=>trivial
 | i::hs,v::vs,a,hap,h=>by
  obtain ⟨⟨⟨oi,hoi⟩,hyi⟩,h2⟩:=h;have hit:=hap i (List.mem_cons_self);have ha:=hit oi ot hoi ht;refine ⟨⟨⟨oi,hoi⟩,(hD.r i t v x a ⟨oi,hoi⟩ ⟨ot,ht⟩ hit).2 hyi⟩,?_⟩;rw [<- put_swap hoi ht ha];exact yg_put hD ht hs vs _ (fun k hk=>hap k (List.mem_cons_of_mem _ hk)) h2
theorem yg_append {D:Nat->Value->Act->Prop}:∀ (hs:List Nat) (vs:List Value) (hs':List Nat) (vs':List Value) (a:Act),YG ops D hs vs a->YG ops D hs' vs' (puts ops hs vs a) ->
 YG ops D (hs++hs') (vs++vs') a/\puts ops (hs++hs') (vs++vs') a=puts ops hs' vs' (puts ops hs vs a)
 | [],[],_,_,_,_,h2=>⟨by simpa [puts] using h2,by simp [puts]⟩
 | i::hs,v::vs,hs',vs',a,h1,h2=>by
  have h3:=yg_append hs vs hs' vs' (a.put (dstOf ops i) v) h1.2 (by simpa [puts] using h2);exact ⟨⟨h1.1,h3.1⟩,by simpa [puts] using h3.2⟩
def stepRun (P:Program) (ops:Array Oper) (T:List Nat) (w:World) (Ph:Nat->World->Prop) (k:Nat) (o:Oper) (v:Value) (a:Act):Prop:=
 Region.wanted o (yielded ops a.tmps)=true/\∀ u,Keeps T w u->Ph k u->lateOp P o a u (fun v' u'=>v'=v/\Upd T u u'/\Ph (k+1) u')
theorem stepRun_l {Ph:Nat->World->Prop} {k:Nat} {oi oj:Oper} {v u:Value} {a:Act} (hs:∀ cs b,oj.op ≠ .select cs b) (hap:oi.apart ops oj=true) :
 stepRun P ops T w Ph k oj v (a.put oi.dst u)↔stepRun P ops T w Ph k oj v a:=by
 obtain ⟨h1,_,_⟩:=Oper.apart_spec hap;unfold stepRun lateOp;rw [execOp_put (ops:=ops) oj hs a oi.dst u h1,wanted_put (ops:=ops) oj a oi.dst u h1]
theorem stepRun_r {Ph:Nat->World->Prop} {k:Nat} {oi oj:Oper} {v u:Value} {a:Act} (hs:∀ cs b,oi.op ≠ .select cs b) (hap:oi.apart ops oj=true) :
 stepRun P ops T w Ph k oi v (a.put oj.dst u)↔stepRun P ops T w Ph k oi v a:=by
 obtain ⟨_,_,h1⟩:=Oper.apart_spec hap;unfold stepRun lateOp;rw [execOp_put (ops:=ops) oi hs a oj.dst u h1,wanted_put (ops:=ops) oi a oj.dst u h1]
structure ES (T:List Nat) where
 j:Nat
 o:Oper
 val:Nat×Nat->Value
 R:Nat×Nat->World->Prop
 st:∀ a u u',R a u->Upd T u u'->R a u'
def putS {T:List Nat}:List (ES T)->(Nat->Nat×Nat)->Act->Act
 | [],_,A=>A
 | m::ms,f,A=>putS ms f (A.put m.o.dst (m.val (f m.j)))
def ASt (P:Program) (ops:Array Oper) (T:List Nat) (w:World) (Ph:Nat->World->Prop) (n:Nat) (Q:Act->World->Prop) (ls:List Oper) (ms:List (ES T)) (A:Act) (u:World):Prop:=
 ∀ (f:Nat->Nat×Nat) (u':World),Upd T u u'->Ph n u'->(∀ m∈ms,u.heap.size<=(f m.j).1/\(f m.j).1<u'.heap.size/\m.R (f m.j) u')->(ms.map fun m=>(f m.j).1).Nodup->effChain P ops T w Q ls (putS ms f A) u'
theorem ASt.later {Ph:Nat->World->Prop} {n:Nat} {ls:List Oper} {ms:List (ES T)} {A:Act} {u v:World} {Q:Act->World->Prop} (h:ASt P ops T w Ph n Q ls ms A u) (hv:Upd T u v):ASt P ops T w Ph n Q ls ms A v:=
 fun f u' hu hp hm hn=>h f u' (hv.trans hu) hp (fun m hm'=>⟨Zm hv.size (hm m hm').1,(hm m hm').2⟩) hn
structure StepFit (ops:Array Oper) (mi si:List Nat) (c:Nat):Prop where
 nd:si.Nodup
 lt:∀ i∈si,i<c/\i∉mi
 next:∀ (k i i':Nat) (o:Oper),si[k]?=some i->si[k+1]?=some i'->ops[i']?=some o->∃ e∈o.after,Region.binds .any e=true/\e.on=i
 last:∀ (o:Oper),ops[c]?=some o->∀ i∈si,∃ e∈o.after,Region.binds .any e=true/\e.on=i
def oneOp:List Oper->(Oper->Prop)->Prop
 | [o],K=>K o
 | _,_=>False
structure EBS (T:List Nat) where
 val:Nat×Nat->Value
 R:Nat×Nat->World->Prop
 st:∀ a u u',R a u->Upd T u u'->R a u'
end
end Go.Proofs.YtflgngjocgiojaaGreat
