import Derived.Test.YtflgngjocgiojaaGreatDet
set_option linter.all false
namespace Go.Proofs.YtflgngjocgiojaaGreat
def minV (a:Nat) (O:Nat->Nat->Int) (cs:Nat->Nat) (r:Nat->Int) (j:Nat):Int:=det (a+1) (fun i b=>(if i<a then O i else r) (if b<a then cs b else j))
def minD (a:Nat) (O:Nat->Nat->Int) (cs:Nat->Nat):Int:=det a (fun i b=>O i (cs b))
theorem minV_comb (a:Nat) (O:Nat->Nat->Int) (cs:Nat->Nat) (r:Nat->Int):∃ γ:Nat->Int,∀ j,minV a O cs r j=minD a O cs*r j+sumF (fun i=>γ i*O i j) a:=by
 refine ⟨fun i=>sg1 (i+a)*det a (fun x b=>(if skip i x<a then O (skip i x) else r) (cs b)),fun j=>?_⟩;unfold minV;rw [det,sumF,Int.add_comm];congr 1
 ·simp only [if_neg (Nat.lt_irrefl a)];have h1:det a (fun x b=>(if skip a x<a then O (skip a x) else r) (if b<a then cs b else j))=minD a O cs:=det_eq fun x b hx hb=>by
   have e:skip a x=x:=by unfold skip; rw [if_pos hx]
   rw [e,if_pos hx,if_pos hb]
  rw [h1,sg1_two,Int.one_mul,Int.mul_comm]
 ·refine sumF_eq fun i hi=>?_
  simp only [if_pos hi,if_neg (Nat.lt_irrefl a)];have h1:det a (fun x b=>(if skip i x<a then O (skip i x) else r) (if b<a then cs b else j))=det a (fun x b=>(if skip i x<a then O (skip i x) else r) (cs b)):=det_eq fun x b _ hb=>by rw [if_pos hb]
  rw [h1];simp only [Int.mul_assoc,Int.mul_left_comm,Int.mul_comm]
theorem minV_zero {a:Nat} {O:Nat->Nat->Int} {cs:Nat->Nat} {r:Nat->Int} {t:Nat} (h:t<a):minV a O cs r (cs t)=0:=by
 unfold minV;refine det_same' (j:=t) h fun x=>?_
 rw [if_pos h,if_neg (Nat.lt_irrefl a)]
theorem minV_self (a:Nat) (O:Nat->Nat->Int) (cs:Nat->Nat):minV a O cs (O a) (cs a)=minD (a+1) O cs:=by
 unfold minV minD;refine det_eq fun i b hi hb=>?_
 by_cases h1:i<a
 ·by_cases h2:b<a
  ·rw [if_pos h1,if_pos h2]
  ·rw [if_pos h1,if_neg h2,show b=a by omega]
 ·by_cases h2:b<a
  ·rw [if_neg h1,if_pos h2,show i=a by omega]
  ·rw [if_neg h1,if_neg h2,show i=a by omega,show b=a by omega]
theorem indep {O:Nat->Nat->Int} {cs:Nat->Nat}:∀ {a:Nat},(∀ t,t<=a->minD t O cs≠0)->∀ δ:Nat->Int,(∀ t,t<a->sumF (fun i=>δ i*O i (cs t)) a=0)->∀ i,i<a->δ i=0
 | 0,_,_,_,i,hi=>aO
 | a+1,hd,δ,hz,i,hi=>by
  obtain ⟨γ,hγ⟩:=minV_comb a O cs (O a);have key:∀ j,sumF (fun i=>(minD a O cs*δ i - δ a*γ i)*O i j) a=minD a O cs*sumF (fun i=>δ i*O i j) (a+1) - δ a*minV a O cs (O a) j:=fun j=>by
   have h1:sumF (fun i=>(minD a O cs*δ i - δ a*γ i)*O i j) a=minD a O cs*sumF (fun i=>δ i*O i j) a - δ a*sumF (fun i=>γ i*O i j) a:=by
    rw [<- sumF_mul,<- sumF_mul,Int.sub_eq_add_neg,<- sumF_neg,<- sumF_add];refine sumF_eq fun i _=>?_
    grind
   rw [h1,hγ j,sumF];grind
  have ih:=indep (a:=a) (fun t ht=>hd t aO) (fun i=>minD a O cs*δ i - δ a*γ i) (fun t ht=>by
   rw [key,hz t aO,minV_zero ht];simp)
  have h2:=key (cs a);rw [hz a aO,minV_self,sumF_zero (fun i hi=>by
   have:=ih i hi;rw [this,Int.zero_mul])] at h2
  have h3:δ a*minD (a+1) O cs=0:=aO
  have ha:δ a=0:=by
   rcases Int.mul_eq_zero.1 h3 with h | h
   ·exact h
   ·exact absurd h (hd (a+1) (Zr _))
  by_cases e:i=a
  ·subst e; exact ha
  ·have h4:=ih i aO;rw [ha,Int.zero_mul,Int.sub_zero] at h4;rcases Int.mul_eq_zero.1 h4 with h | h
   ·exact absurd h (hd a aO)
   ·exact h
theorem bareiss {O:Nat->Nat->Int} {cs:Nat->Nat} {a:Nat} (hd:∀ t,t<=a+1->minD t O cs≠0) (r:Nat->Int) (j:Nat) :
 minD (a+1) O cs*minV a O cs r j - minV a O cs r (cs a)*minV a O cs (O a) j=minD a O cs*minV (a+1) O cs r j:=by
 obtain ⟨γr,hr⟩:=minV_comb a O cs r;obtain ⟨γk,hk⟩:=minV_comb a O cs (O a);obtain ⟨β,hβ⟩:=minV_comb (a+1) O cs r;have key:∀ j,minD (a+1) O cs*minV a O cs r j - minV a O cs r (cs a)*minV a O cs (O a) j - minD a O cs*minV (a+1) O cs r j =
  sumF (fun i=>(if i<a then minD (a+1) O cs*γr i - minV a O cs r (cs a)*γk i - minD a O cs*β i else -(minV a O cs r (cs a)*minD a O cs) - minD a O cs*β a)*O i j) (a+1):=fun j=>by
  have h1:sumF (fun i=>(if i<a then minD (a+1) O cs*γr i - minV a O cs r (cs a)*γk i - minD a O cs*β i else -(minV a O cs r (cs a)*minD a O cs) - minD a O cs*β a)*O i j) a =
   minD (a+1) O cs*sumF (fun i=>γr i*O i j) a+(-(minV a O cs r (cs a))*sumF (fun i=>γk i*O i j) a+(-(minD a O cs))*sumF (fun i=>β i*O i j) a):=by
   rw [<- sumF_mul,<- sumF_mul,<- sumF_mul,<- sumF_add,<- sumF_add];refine sumF_eq fun i hi=>?_
   rw [if_pos hi];grind
  rw [sumF,h1,if_neg (Nat.lt_irrefl a),hr j,hk j,hβ j,sumF];grind
 have hz:=indep (a:=a+1) hd _ (fun t ht=>by
  rw [<- key]
  by_cases e:t=a
  ·subst e;rw [minV_self,minV_zero (a:=t+1) (t:=t) aO];grind
  ·rw [minV_zero (a:=a) (t:=t) aO,minV_zero (a:=a) (t:=t) aO,minV_zero (a:=a+1) (t:=t) aO];simp)
 have h2:=key j;rw [sumF_zero (fun i hi=>by rw [hz i hi,Int.zero_mul])] at h2;omega
def rowF (L:List (List Int)) (i:Nat):Nat->Int:=fun j=>zAt (rAt L i) j
theorem minV_eq {a:Nat} {O O':Nat->Nat->Int} {cs cs':Nat->Nat} {r:Nat->Int} {j:Nat} (h1:∀ i,i<a->O i=O' i) (h2:∀ b,b<a->cs b=cs' b):minV a O cs r j=minV a O' cs' r j:=by
 unfold minV;refine det_eq fun i b _ _=>?_
 by_cases h3:i<a
 ·by_cases h4:b<a
  ·rw [if_pos h3,if_pos h4,if_pos h3,if_pos h4,h1 i h3,h2 b h4]
  ·rw [if_pos h3,if_neg h4,if_pos h3,if_neg h4,h1 i h3]
 ·by_cases h4:b<a
  ·rw [if_neg h3,if_pos h4,if_neg h3,if_pos h4,h2 b h4]
  ·rw [if_neg h3,if_neg h4,if_neg h3,if_neg h4]
theorem minD_eq {a:Nat} {O O':Nat->Nat->Int} {cs cs':Nat->Nat} (h1:∀ i,i<a->O i=O' i) (h2:∀ b,b<a->cs b=cs' b):minD a O cs=minD a O' cs':=by
 unfold minD;exact det_eq fun i b hi hb=>by rw [h1 i hi,h2 b hb]
theorem zAt_comb (R O:List Int) (c:Nat) (p:Int):∀ {n j:Nat},j<n->zAt (combZ R O c p n) j=(zAt O c*zAt R j - zAt R c*zAt O j) / p
 | n+1,j,h=>by
  rw [combZ];unfold zAt;rw [Ze];rcases Nat.lt_or_ge j n with h1 | h1
  ·rw [List.getElem?_append_left (by rw [combZ_len]; exact h1),<- Ze];exact zAt_comb R O c p h1
  ·obtain rfl:j=n:=aO
   rw [List.getElem?_append_right (by rw [combZ_len]; exact Zr _),combZ_len,Nat.sub_self];rfl
structure InvB (L0:List (List Int)) (wd:Nat) (s:BS) (c:Nat) (π cs:Nat->Nat):Prop where
 perm:∀ i,i<L0.length->π i<L0.length
 inj:∀ i j,i<L0.length->j<L0.length->π i=π j->i=j
 sur:∀ y,y<L0.length->∃ i,i<L0.length/\π i=y
 len:s.L.length=L0.length
 a_le:s.a<=L0.length
 col:∀ t,t<s.a->cs t<c
 inc:∀ t u,t<u->u<s.a->cs t<cs u
 low:∀ i,s.a<=i->i<L0.length->∀ j,j<wd->zAt (rAt s.L i) j=minV s.a (fun i=>rowF L0 (π i)) cs (rowF L0 (π i)) j
 high:∀ i,i<s.a->∀ j,j<wd->zAt (rAt s.L i) j=minV i (fun i=>rowF L0 (π i)) cs (rowF L0 (π i)) j
 b_eq:s.b=minD s.a (fun i=>rowF L0 (π i)) cs
 nz:∀ t,t<=s.a->minD t (fun i=>rowF L0 (π i)) cs≠0
 zero:∀ i,s.a<=i->i<L0.length->∀ c',c'<c->zAt (rAt s.L i) c'=0
theorem InvB.start (L0:List (List Int)) (wd:Nat):InvB L0 wd ⟨L0,1,0⟩ 0 id id where
 perm _ h:=h
 inj _ _ _ _ h:=h
 sur y h:=⟨y,h,rfl⟩
 len:=rfl
 a_le:=Nat.zero_le _
 col _ h:=by simp at h
 inc _ _ _ h:=by simp at h
 low i _ _ j _:=by
  show zAt (rAt L0 i) j=minV 0 _ _ _ j;unfold minV;simp only [det,sumF,Nat.not_lt_zero,if_false,sg1,rowF];simp
 high i h:=by simp at h
 b_eq:=rfl
 nz t h:=by
  obtain rfl:t=0:=by simpa using h
  show (1:Int)≠0;omega
 zero _ _ _ _ h:=aO
def swpN (a p i:Nat):Nat:=if i=a then p else if i=p then a else i
theorem InvB.stepS {L0:List (List Int)} {wd:Nat} {s:BS} {c p:Nat} {π cs:Nat->Nat} (hw:Wide L0 wd) (hws:Wide s.L wd) (h:InvB L0 wd s c π cs) (hc:c<wd) (hf:findP s.L c (s.L.length - s.a) s.a=some p):InvB L0 wd (stepB s c) (c+1) (fun i=>π (swpN s.a p i)) (fun t=>if t=s.a then c else cs t):=by
 obtain ⟨hp1,hp2,hp3⟩:=findP_spec _ _ _ hf;rw [stepB_some hf];obtain ⟨L,b,a⟩:=s;have hlen:=h.len;have hale:=h.a_le;simp only at hlen hale hp1 hp2 hp3 hws hf ⊢;have haN:a<L0.length:=aO
 have hpN:p<L0.length:=aO
 have haL:a<L.length:=aO
 have hpL:p<L.length:=aO
 have hπ':∀ i,i<a->π (swpN a p i)=π i:=fun i hi=>by unfold swpN; rw [if_neg aO,if_neg aO]
 have hcs':∀ t,t<a->(if t=a then c else cs t)=cs t:=fun t ht=>if_neg aO
 have hsw:∀ i,a<=i->i<L0.length->∀ j,j<wd->zAt (rAt (swapL L a p) i) j=minV a (fun i=>rowF L0 (π (swpN a p i))) (fun t=>if t=a then c else cs t) (rowF L0 (π (swpN a p i))) j:=fun i h1 h2 j hj=>by
  have e0:∀ r,minV a (fun i=>rowF L0 (π (swpN a p i))) (fun t=>if t=a then c else cs t) r j=minV a (fun i=>rowF L0 (π i)) cs r j:=fun r=>minV_eq (fun i hi=>by simp only [hπ' i hi]) hcs'
  rw [rAt_swap haL hpL,e0];unfold swpN
  by_cases e1:i=p
  ·rw [if_pos e1]
   by_cases e2:i=a
   ·rw [if_pos e2,<- e1,e2];exact h.low a (Zr _) haN j hj
   ·rw [if_neg e2,if_pos e1];exact h.low a (Zr _) haN j hj
  ·rw [if_neg e1]
   by_cases e2:i=a
   ·rw [if_pos e2,if_pos e2];exact h.low p hp1 hpN j hj
   ·rw [if_neg e2,if_neg e2,if_neg e1];exact h.low i h1 h2 j hj
 have hD:∀ t,t<=a->minD t (fun i=>rowF L0 (π (swpN a p i))) (fun t=>if t=a then c else cs t)=minD t (fun i=>rowF L0 (π i)) cs:=fun t ht=>minD_eq (fun i hi=>by simp only [hπ' i aO]) (fun b hb=>hcs' b aO)
 have hpiv:minD (a+1) (fun i=>rowF L0 (π (swpN a p i))) (fun t=>if t=a then c else cs t)=zAt (rAt (swapL L a p) a) c:=by
  rw [hsw a (Zr _) haN c hc,<- minV_self];simp only [if_true]
 have hpne:zAt (rAt (swapL L a p) a) c≠0:=by
  rw [rAt_swap haL hpL]
  by_cases e:a=p
  ·rw [if_pos e,e]; exact hp3
  ·rw [if_neg e,if_pos rfl]; exact hp3
 have hnz:∀ t,t<=a+1->minD t (fun i=>rowF L0 (π (swpN a p i))) (fun t=>if t=a then c else cs t)≠0:=fun t ht=>by
  by_cases e:t=a+1
  ·subst e; rw [hpiv]; exact hpne
  ·rw [hD t aO]; exact h.nz t (by show t<=a; omega)
 have hbD:b=minD a (fun i=>rowF L0 (π (swpN a p i))) (fun t=>if t=a then c else cs t):=by rw [hD a (Zr _)]; exact h.b_eq
 have hw1:Wide (swapL L a p) wd:=hws.swap haL hpL;have hsz:∀ i,a<=i->i<L0.length->∀ c',c'<c->zAt (rAt (swapL L a p) i) c'=0:=fun i h1 h2 c' h3=>by
  rw [rAt_swap haL hpL];split
  ·exact h.zero a (Zr _) haN c' h3
  ·split
   ·exact h.zero p hp1 hpN c' h3
   ·exact h.zero i h1 h2 c' h3
 have hel:∀ i,i<L0.length->rAt (elimL (swapL L a p) a c b (L.length - (a+1))) i=if a<i then combZ (rAt (swapL L a p) i) (rAt (swapL L a p) a) c b wd else rAt (swapL L a p) i:=fun i hi=>by
  rw [rAt_elim (by rw [swapL_len]; omega),hw1 i (by rw [swapL_len]; omega)]
  by_cases e:a<i
  ·rw [if_pos ⟨e,aO⟩,if_pos e]
  ·rw [if_neg (fun h=>e h.1),if_neg e]
 refine ⟨fun i hi=>h.perm _ (by unfold swpN; split <;> (try split) <;> omega),fun i j hi hj e=>?_,fun y hy=>?_,by simp only [elimL_len,swapL_len]; exact hlen,haN,fun t ht=>?_,fun t u htu hu=>?_,fun i h1 h2 j hj=>?_,fun i h1 j hj=>?_,hpiv.symm,hnz,fun i h1 h2 c' h3=>?_⟩
 ·have:=h.inj _ _ (by unfold swpN; split <;> (try split) <;> omega) (by unfold swpN; split <;> (try split) <;> omega) e;unfold swpN at this
  repeat' split at this
  all_goals omega
 ·obtain ⟨i,hi,e⟩:=h.sur y hy;refine ⟨swpN a p i,by unfold swpN; split <;> (try split) <;> omega,?_⟩;have e2:swpN a p (swpN a p i)=i:=by
   unfold swpN
   repeat' split
   all_goals omega
  simp only [e2];exact e
 ·simp only at ht
  by_cases e:t=a
  ·simp only [if_pos e]; omega
  ·simp only [if_neg e]; have:=h.col t (by show t<a; omega); omega
 ·simp only at hu
  by_cases e:u=a
  ·simp only [if_pos e,if_neg (show t≠a by omega)];exact h.col t (by show t<a; omega)
  ·simp only [if_neg e,if_neg (show t≠a by omega)];exact h.inc t u htu (by show u<a; omega)
 ·simp only at h1;rw [hel i h2,if_pos aO,zAt_comb _ _ _ _ hj,hsw a (Zr _) haN c hc,hsw i aO h2 j hj,hsw i aO h2 c hc,hsw a (Zr _) haN j hj];have hb:=bareiss (O:=fun i=>rowF L0 (π (swpN a p i))) (cs:=fun t=>if t=a then c else cs t) (a:=a) hnz (rowF L0 (π (swpN a p i))) j;rw [<- minV_self] at hb;simp only [if_true] at hb;rw [hb,hbD];exact Int.mul_ediv_cancel_left _ (hnz a aO)
 ·simp only at h1;rw [hel i aO,if_neg aO]
  by_cases e:i=a
  ·subst e; exact hsw i (Zr _) haN j hj
  ·rw [rAt_swap haL hpL,if_neg aO,if_neg e];have h4:=h.high i (by show i<a; omega) j hj;rw [h4,hπ' i aO];exact (minV_eq (fun x hx=>by simp only [hπ' x aO]) (fun b hb=>hcs' b aO)).symm
 ·simp only at h1;rw [hel i h2,if_pos aO,zAt_comb _ _ _ _ aO]
  by_cases e:c'=c
  ·subst e;rw [Int.mul_comm,Int.sub_self];exact Int.zero_ediv _
  ·rw [hsz i aO h2 c' aO,hsz a (Zr _) haN c' aO];simp
theorem InvB.step {L0:List (List Int)} {wd:Nat} {s:BS} {c:Nat} {π cs:Nat->Nat} (hw:Wide L0 wd) (hws:Wide s.L wd) (h:InvB L0 wd s c π cs) (hc:c<wd):∃ π' cs',InvB L0 wd (stepB s c) (c+1) π' cs'/\(∀ t,t<s.a->cs' t=cs t)/\(∀ p,findP s.L c (s.L.length - s.a) s.a=some p->cs' s.a=c):=by
 cases hf:findP s.L c (s.L.length - s.a) s.a with
 | none =>
  rw [stepB_none hf];have hz:=findP_zero _ _ hf;refine ⟨π,cs,?_,fun _ _=>rfl,fun p hp=>by cases hp⟩;refine ⟨h.perm,h.inj,h.sur,h.len,h.a_le,fun t ht=>Nat.lt_succ_of_lt (h.col t ht),h.inc,h.low,h.high,h.b_eq,h.nz,fun i h1 h2 c' h3=>?_⟩
  by_cases e:c'=c
  ·subst e; exact hz i h1 (by rw [h.len]; omega)
  ·exact h.zero i h1 h2 c' aO
 | some p=>exact ⟨_,_,h.stepS hw hws hc hf,fun t ht=>if_neg aO,fun _ _=>if_pos rfl⟩
theorem InvB.run2 {L0:List (List Int)} {wd:Nat} (hw:Wide L0 wd):∀ c,c<=wd->∃ π cs,InvB L0 wd (runB ⟨L0,1,0⟩ c) c π cs/\leadsB ⟨L0,1,0⟩ c=(List.range (runB ⟨L0,1,0⟩ c).a).map (fun t=>(cs t,t))
 | 0,_=>⟨id,id,InvB.start L0 wd,rfl⟩
 | c+1,h=>by
  obtain ⟨π,cs,hi,hl⟩:=InvB.run2 hw c aO;obtain ⟨π',cs',h1,h2,h3⟩:=hi.step hw (runB_wide hw c) aO;refine ⟨π',cs',h1,?_⟩;rw [leadsB,runB];have e:∀ n,n<=(runB ⟨L0,1,0⟩ c).a->(List.range n).map (fun t=>(cs t,t))=(List.range n).map (fun t=>(cs' t,t)):=fun n hn=>List.map_congr_left fun t ht=>by rw [h2 t (by have:=List.mem_range.1 ht; omega)]
  cases hf:findP (runB ⟨L0,1,0⟩ c).L c ((runB ⟨L0,1,0⟩ c).L.length - (runB ⟨L0,1,0⟩ c).a) (runB ⟨L0,1,0⟩ c).a with
  | none =>
   rw [stepB_none hf,List.append_nil,hl];exact e _ (Zr _)
  | some p =>
   rw [stepB_some hf,List.range_succ,List.map_append,hl,e _ (Zr _)];simp only [List.map_cons,List.map_nil];rw [h3 p hf]
theorem InvB.run {L0:List (List Int)} {wd:Nat} (hw:Wide L0 wd) (c:Nat) (hc:c<=wd):∃ π cs,InvB L0 wd (runB ⟨L0,1,0⟩ c) c π cs:=by
 obtain ⟨π,cs,h,_⟩:=InvB.run2 hw c hc;exact ⟨π,cs,h⟩
theorem fac_mono {n m:Nat} (h:n<=m):fac n<=fac m:=by
 induction m with
 | zero =>
  obtain rfl:n=0:=aO
  exact Zr _
 | succ m ih =>
  by_cases e:n=m+1
  ·subst e; exact Zr _
  ·have h1:=ih aO;have h2:=Nat.le_mul_of_pos_left (fac m) (show 0<m+1 by omega);rw [fac]; omega
theorem minV_abs {a:Nat} {O:Nat->Nat->Int} {cs:Nat->Nat} {r:Nat->Int} {j wd B:Nat} (hO:∀ i,i<a->∀ c,c<wd->(O i c).natAbs<=B) (hr:∀ c,c<wd->(r c).natAbs<=B) (hc:∀ b,b<a->cs b<wd) (hj:j<wd):(minV a O cs r j).natAbs<=fac (a+1)*B^(a+1):=by
 unfold minV;refine det_abs fun i b hi hb=>?_
 have h1:(if b<a then cs b else j)<wd:=by
  split
  ·rename_i h; exact hc b h
  ·exact hj
 by_cases h2:i<a
 ·rw [if_pos h2]; exact hO i h2 _ h1
 ·rw [if_neg h2]; exact hr _ h1
theorem small_top:fac 9*2147483648^9<2^300:=by decide +kernel
theorem minV_small {a:Nat} {O:Nat->Nat->Int} {cs:Nat->Nat} {r:Nat->Int} {j wd:Nat} (ha:a<=8) (hO:∀ i,i<a->∀ c,c<wd->(O i c).natAbs<=2147483648) (hr:∀ c,c<wd->(r c).natAbs<=2147483648) (hc:∀ b,b<a->cs b<wd) (hj:j<wd):(minV a O cs r j).natAbs<2^300:=by
 have h1:=minV_abs hO hr hc hj;have h2:=fac_mono (show a+1<=9 by omega);have h3:=Nat.pow_le_pow_right (n:=2147483648) aO (show a+1<=9 by omega);have h4:=Nat.mul_le_mul h2 h3;exact Nat.lt_of_le_of_lt (Zm h1 h4) small_top
theorem p_300:2^300<2^1000:=by decide +kernel
theorem sm_300 {z:Int} (h:z.natAbs<2^300):Sm z:=Nat.lt_trans h p_300
def Ent (L:List (List Int)) (wd:Nat):Prop:=∀ i,i<L.length->∀ j,j<wd->(zAt (rAt L i) j).natAbs<=2147483648
theorem InvB.small {L0:List (List Int)} {wd:Nat} {s:BS} {c:Nat} {π cs:Nat->Nat} (h:InvB L0 wd s c π cs) (he:Ent L0 wd) (hc:c<=wd) (ha:s.a<=8):∀ i,i<L0.length->∀ j,j<wd->(zAt (rAt s.L i) j).natAbs<2^300:=fun i hi j hj=>by
 have hO:∀ a,a<=s.a->∀ i,i<a->∀ c,c<wd->(rowF L0 (π i) c).natAbs<=2147483648:=fun a h1 i h2 c h3=>he _ (h.perm i (by have:=h.a_le; omega)) c h3
 by_cases h1:i<s.a
 ·rw [h.high i h1 j hj];exact minV_small aO (hO i aO) (fun c hc=>he _ (h.perm i hi) c hc) (fun b hb=>by have:=h.col b aO; omega) hj
 ·rw [h.low i aO hi j hj];exact minV_small ha (hO s.a (Zr _)) (fun c hc=>he _ (h.perm i hi) c hc) (fun b hb=>by have:=h.col b hb; omega) hj
theorem fine_of {L0:List (List Int)} {k wd:Nat} (hw:Wide L0 wd) (hk:k<=wd) (hk8:k<=8) (he:Ent L0 wd):FineL L0 k wd:=fun c hc i hi j hj=>by
 obtain ⟨π,cs,h⟩:=InvB.run hw c aO;have ha:=runB_a ⟨L0,1,0⟩ c;simp only at ha;rw [h.len] at hi;exact sm_300 (h.small he aO aO i hi j hj)
theorem large_abs {n:Int} (h:largeI n=false):n.natAbs<=2147483648:=by
 unfold largeI at h;simp at h;omega
theorem ent_sys {M:List (List Int)} (h:matCheck M=0):Ent (sysL M [] M.length) (cols M):=fun i hi j hj=>by
 obtain ⟨_,_,h3,h4⟩:=matCheck_ok h;rw [sysL_len] at hi;rw [rAt_sysL M [] hi,sysR_nil];exact large_abs (h4 i hi j hj)
theorem rank_fine {M:List (List Int)} (h:matCheck M=0):FineL (sysL M [] M.length) (cols M) (cols M):=by
 obtain ⟨_,h2,h3,_⟩:=matCheck_ok h;exact fine_of (wide_sys h3) (Zr _) h2 (ent_sys h)
theorem ent_sys1 {M:List (List Int)} {b:List Int} (h:matCheck M=0) (hb:b.length=M.length) (hl:anyF (fun k=>largeI (iAt b k)) b.length=false):Ent (sysL M b M.length) (cols M+1):=fun i hi j hj=>by
 obtain ⟨_,_,h3,h4⟩:=matCheck_ok h;rw [sysL_len] at hi;rw [rAt_sysL M b hi];unfold sysR zAt;rw [if_pos aO,Ze];have h5:=h3 i hi
 by_cases e:j<cols M
 ·rw [List.getElem?_append_left aO,<- Ze];exact large_abs (h4 i hi j e)
 ·rw [List.getElem?_append_right aO,h5,show j - cols M=0 by omega];exact large_abs (anyF_none hl (k:=i) aO)
theorem solve_fine {M:List (List Int)} {b:List Int} (h:matCheck M=0) (hc:cols M=M.length) (hb:b.length=M.length) (hl:anyF (fun k=>largeI (iAt b k)) b.length=false):FineL (sysL M b M.length) (cols M) (M.length+1):=by
 obtain ⟨_,h2,h3,_⟩:=matCheck_ok h;rw [show M.length+1=cols M+1 by omega];exact fine_of (wide_sys1 h3 hb) aO h2 (ent_sys1 h hb hl)
def gamC (a:Nat) (O:Nat->Nat->Int) (cs:Nat->Nat) (r:Nat->Int) (i:Nat):Int:=sg1 (i+a)*det a (fun x b=>(if skip i x<a then O (skip i x) else r) (cs b))
theorem minV_exp (a:Nat) (O:Nat->Nat->Int) (cs:Nat->Nat) (r:Nat->Int) (j:Nat):minV a O cs r j=minD a O cs*r j+sumF (fun i=>gamC a O cs r i*O i j) a:=by
 unfold minV;rw [det,sumF,Int.add_comm];congr 1
 ·simp only [if_neg (Nat.lt_irrefl a)];have h1:det a (fun x b=>(if skip a x<a then O (skip a x) else r) (if b<a then cs b else j))=minD a O cs:=det_eq fun x b hx hb=>by
   have e:skip a x=x:=by unfold skip; rw [if_pos hx]
   rw [e,if_pos hx,if_pos hb]
  rw [h1,sg1_two,Int.one_mul,Int.mul_comm]
 ·refine sumF_eq fun i hi=>?_
  simp only [if_pos hi,if_neg (Nat.lt_irrefl a)];have h1:det a (fun x b=>(if skip i x<a then O (skip i x) else r) (if b<a then cs b else j))=det a (fun x b=>(if skip i x<a then O (skip i x) else r) (cs b)):=det_eq fun x b _ hb=>by rw [if_pos hb]
  rw [h1];unfold gamC;simp only [Int.mul_assoc,Int.mul_left_comm,Int.mul_comm]
theorem gamC_abs {a:Nat} {O:Nat->Nat->Int} {cs:Nat->Nat} {r:Nat->Int} {i B:Nat} (hO:∀ i,i<a->∀ b,b<a->(O i (cs b)).natAbs<=B) (hr:∀ b,b<a->(r (cs b)).natAbs<=B):(gamC a O cs r i).natAbs<=fac a*B^a:=by
 unfold gamC;rw [Int.natAbs_mul,sg1_abs,Nat.one_mul];refine det_abs fun x b _ hb=>?_
 split
 ·rename_i h; exact hO _ h b hb
 ·exact hr b hb
theorem minD_abs {a:Nat} {O:Nat->Nat->Int} {cs:Nat->Nat} {B:Nat} (hO:∀ i,i<a->∀ b,b<a->(O i (cs b)).natAbs<=B):(minD a O cs).natAbs<=fac a*B^a:=det_abs fun i b hi hb=>hO i hi b hb
theorem transp_ne {O:Nat->Nat->Int} {f:Nat} (hd:∀ t,t<=f->minD t O id≠0):∀ t,t<=f->minD t (fun c i=>O i c) id≠0
 | 0,_=>by show (1:Int)≠0; omega
 | t+1,h=>fun e0=>by
  have ih:=transp_ne hd t aO;have hrel:∀ j,j<t+1->minD t (fun c i=>O i c) id*O j t=-sumF (fun c=>gamC t (fun c i=>O i c) id (fun i=>O i t) c*O j c) t:=fun j hj=>by
   have h1:=minV_exp t (fun c i=>O i c) id (fun i=>O i t) j;have h2:minV t (fun c i=>O i c) id (fun i=>O i t) j=0:=by
    by_cases e:j=t
    ·subst e;have:=minV_self j (fun c i=>O i c) id;rw [e0] at this;exact this
    ·exact minV_zero (cs:=id) (t:=j) aO
   rw [h2] at h1;omega
  have h3:minD t (fun c i=>O i c) id*minV t O id (O t) t=-sumF (fun c=>gamC t (fun c i=>O i c) id (fun i=>O i t) c*minV t O id (O t) c) t:=by
   have e1:∀ c,minV t O id (O t) c=minD t O id*O t c+sumF (fun i=>gamC t O id (O t) i*O i c) t:=fun c=>minV_exp t O id (O t) c
   have e2:minD t (fun c i=>O i c) id*sumF (fun i=>gamC t O id (O t) i*O i t) t=-sumF (fun c=>gamC t (fun c i=>O i c) id (fun i=>O i t) c*sumF (fun i=>gamC t O id (O t) i*O i c) t) t:=by
    rw [<- sumF_mul];have e3:sumF (fun i=>minD t (fun c i=>O i c) id*(gamC t O id (O t) i*O i t)) t=sumF (fun i=>-sumF (fun c=>gamC t (fun c i=>O i c) id (fun i=>O i t) c*(gamC t O id (O t) i*O i c)) t) t:=sumF_eq fun i hi=>by
     have h4:=hrel i aO;have h5:gamC t O id (O t) i*sumF (fun c=>gamC t (fun c i=>O i c) id (fun i=>O i t) c*O i c) t=sumF (fun c=>gamC t (fun c i=>O i c) id (fun i=>O i t) c*(gamC t O id (O t) i*O i c)) t:=by
      rw [<- sumF_mul];exact sumF_eq fun c _=>by grind
     rw [<- h5];grind
    rw [e3,sumF_neg,sumF_swap];congr 1;refine sumF_eq fun c _=>?_
    rw [sumF_mul]
   rw [e1 t,Int.mul_add,e2];have h4:=hrel t aO;have e5:sumF (fun c=>gamC t (fun c i=>O i c) id (fun i=>O i t) c*minV t O id (O t) c) t=minD t O id*sumF (fun c=>gamC t (fun c i=>O i c) id (fun i=>O i t) c*O t c) t+sumF (fun c=>gamC t (fun c i=>O i c) id (fun i=>O i t) c*sumF (fun i=>gamC t O id (O t) i*O i c) t) t:=by
    rw [<- sumF_mul,<- sumF_add];refine sumF_eq fun c _=>?_
    rw [e1 c];grind
   rw [e5];grind
  rw [sumF_zero (fun c hc=>by rw [show minV t O id (O t) c=0 from minV_zero (cs:=id) (t:=c) hc,Int.mul_zero])] at h3;have h6:=minV_self t O id;rw [show minV t O id (O t) (id t)=minV t O id (O t) t from rfl] at h6;rw [h6] at h3;rcases Int.mul_eq_zero.1 (show minD t (fun c i=>O i c) id*minD (t+1) O id=0 by omega) with h7 | h7
  ·exact ih h7
  ·exact hd (t+1) h h7
def cramN (f:Nat) (O:Nat->Nat->Int) (l c:Nat):Int:=-gamC f (fun c i=>O i c) id (fun i=>O i l) c
def cramD (f:Nat) (O:Nat->Nat->Int):Int:=minD f (fun c i=>O i c) id
theorem cram_row {f:Nat} {O:Nat->Nat->Int} {l i:Nat} (hi:i<f):sumF (fun c=>cramN f O l c*O i c) f=cramD f O*O i l:=by
 have h1:=minV_exp f (fun c i=>O i c) id (fun i=>O i l) i;rw [show minV f (fun c i=>O i c) id (fun i=>O i l) i=0 from minV_zero (cs:=id) (t:=i) hi] at h1;have h2:sumF (fun c=>cramN f O l c*O i c) f=-sumF (fun c=>gamC f (fun c i=>O i c) id (fun i=>O i l) c*O i c) f:=by
  rw [<- sumF_neg];exact sumF_eq fun c _=>by unfold cramN; grind
 rw [h2];unfold cramD;omega
theorem cram_minV {f:Nat} {O:Nat->Nat->Int} {cs:Nat->Nat} {l k:Nat} (hk:k<f):sumF (fun c=>cramN f O l c*minV k O cs (O k) c) f=cramD f O*minV k O cs (O k) l:=by
 have e1:∀ j,minV k O cs (O k) j=minD k O cs*O k j+sumF (fun i=>gamC k O cs (O k) i*O i j) k:=fun j=>minV_exp k O cs (O k) j
 have h1:sumF (fun c=>cramN f O l c*minV k O cs (O k) c) f=minD k O cs*sumF (fun c=>cramN f O l c*O k c) f+sumF (fun c=>sumF (fun i=>gamC k O cs (O k) i*(cramN f O l c*O i c)) k) f:=by
  rw [<- sumF_mul,<- sumF_add];refine sumF_eq fun c _=>?_
  rw [e1 c,Int.mul_add,<- sumF_mul];congr 1
  ·grind
  ·exact sumF_eq fun i _=>by grind
 rw [h1,cram_row hk,sumF_swap,e1 l];have h2:sumF (fun i=>sumF (fun c=>gamC k O cs (O k) i*(cramN f O l c*O i c)) f) k=sumF (fun i=>cramD f O*(gamC k O cs (O k) i*O i l)) k:=sumF_eq fun i hi=>by
  rw [sumF_mul,cram_row aO];grind
 rw [h2,sumF_mul];grind
theorem sumF_split (f:Nat->Int) (m:Nat):∀ n,sumF f (m+n)=sumF f m+sumF (fun i=>f (m+i)) n
 | 0=>by simp [sumF]
 | n+1=>by rw [<- Nat.add_assoc,sumF,sumF_split f m n,sumF,Int.add_assoc]
theorem pow_small {n:Nat} (h:n<=9) {z:Nat} (hz:z<=fac n*2147483648^n):z<2^300:=by
 have h2:=fac_mono h;have h3:=Nat.pow_le_pow_right (n:=2147483648) aO h;exact Nat.lt_of_le_of_lt (Zm hz (Nat.mul_le_mul h2 h3)) small_top
theorem top_600:2^300*2^300+8*(2^300*2^300)<2^1000:=by decide +kernel
theorem mul_300 {a b:Int} (ha:a.natAbs<2^300) (hb:b.natAbs<2^300):(a*b).natAbs<=2^300*2^300:=by
 rw [Int.natAbs_mul];revert ha hb;generalize 2^300=X;intro ha hb;exact Nat.mul_le_mul (Nat.le_of_lt ha) (Nat.le_of_lt hb)
def remS (U:Nat->Int) (N:Nat->Int) (D:Int) (k last j:Nat):Int:=U last*D - sumF (fun i=>U (k+1+i)*N (k+1+i)) j
theorem remS_sm {U N:Nat->Int} {D:Int} {k last j:Nat} (hj:j<=8) (hU:(U last).natAbs<2^300) (hD:D.natAbs<2^300) (h:∀ i,i<j->(U (k+1+i)).natAbs<2^300/\(N (k+1+i)).natAbs<2^300):Sm (remS U N D k last j):=by
 have h1:=mul_300 hU hD;have h2:=sumF_abs (f:=fun i=>U (k+1+i)*N (k+1+i)) (B:=2^300*2^300) (n:=j) (fun i hi=>mul_300 (h i hi).1 (h i hi).2);have h3:=Nat.mul_le_mul_right (2^300*2^300) hj;have h4:=Int.natAbs_sub_le (U last*D) (sumF (fun i=>U (k+1+i)*N (k+1+i)) j);have h5:=top_600;unfold Sm remS;generalize 2^300*2^300=X at *;omega
theorem sum_toQ {R:List Int} {N:Nat->Int} {D:Int} (hD:D≠0) (k last:Nat):∀ j,sumQ R (fun c=>toQ (N c) D) k last j=toQ (remS (zAt R) N D k last j) D
 | 0=>by
  show (zAt R last,(1:Int))=_;rw [<- toQ_one];refine toQ_eq aO hD ?_;unfold remS;rw [sumF];grind
 | j+1=>by
  rw [sumQ,sum_toQ hD k last j,<- toQ_one (zAt R (k+1+j)),mul_toQ aO hD,sub_toQ hD aO];refine toQ_eq (Int.mul_ne_zero hD aO) hD ?_;unfold remS;rw [sumF];grind
theorem back_ok {L:List (List Int)} {O:Nat->Nat->Int} {cs:Nat->Nat} {f last wd:Nat} (hf:f<=8) (hfw:f<=wd) (hl:last<wd) (hcs:∀ t,t<f->cs t=t) (hnz:∀ t,t<=f->minD t O cs≠0)
 (hU:∀ k,k<f->∀ j,j<wd->zAt (rAt L k) j=minV k O cs (O k) j) (hB:∀ i,i<f->∀ c,c<wd->(O i c).natAbs<=2147483648) :
 BackQ L (fun k=>toQ (cramN f O last k) (cramD f O)) f last/\cramD f O≠0/\(∀ k,(cramN f O last k).natAbs<2^300)/\(cramD f O).natAbs<2^300:=by
 have hid:∀ t,t<=f->minD t O id≠0:=fun t ht=>by
  have e:minD t O id=minD t O cs:=minD_eq (fun _ _=>rfl) (fun b hb=>(hcs b aO).symm);rw [e];exact hnz t ht
 have hD:cramD f O≠0:=transp_ne hid f (Zr _);have hDs:(cramD f O).natAbs<2^300:=pow_small (show f<=9 by omega) (minD_abs fun i hi b hb=>hB b hb i aO);have hNs:∀ k,(cramN f O last k).natAbs<2^300:=fun k=>by
  unfold cramN;rw [Int.natAbs_neg];exact pow_small (show f<=9 by omega) (gamC_abs (fun i hi b hb=>hB b hb i aO) (fun b hb=>hB b hb last hl))
 have hUs:∀ k,k<f->∀ j,j<wd->(zAt (rAt L k) j).natAbs<2^300:=fun k hk j hj=>by
  rw [hU k hk j hj];exact minV_small aO (fun i hi c hc=>hB i aO c hc) (hB k hk) (fun b hb=>by rw [hcs b aO]; omega) hj
 have hlead:∀ k,k<f->zAt (rAt L k) k≠0:=fun k hk=>by
  rw [hU k hk k aO];have h1:=minV_self k O cs;rw [hcs k hk] at h1;rw [h1];exact hnz (k+1) aO
 have hlow:∀ k,k<f->∀ j,j<k->zAt (rAt L k) j=0:=fun k hk j hj=>by
  rw [hU k hk j aO];have h1:=minV_zero (a:=k) (O:=O) (cs:=cs) (r:=O k) (t:=j) hj;rw [hcs j aO] at h1;exact h1
 have hrem:∀ k,k<f->remS (zAt (rAt L k)) (cramN f O last) (cramD f O) k last (f - 1 - k)=zAt (rAt L k) k*cramN f O last k:=fun k hk=>by
  have h1:=cram_minV (f:=f) (O:=O) (cs:=cs) (l:=last) hk;have h2:sumF (fun c=>cramN f O last c*minV k O cs (O k) c) f=sumF (fun c=>cramN f O last c*zAt (rAt L k) c) f:=sumF_eq fun c hc=>by rw [hU k hk c aO]
  rw [h2,<- hU k hk last hl] at h1;have h3:=sumF_split (fun c=>cramN f O last c*zAt (rAt L k) c) (k+1) (f - 1 - k);rw [show k+1+(f - 1 - k)=f by omega,h1,sumF,sumF_zero (fun i hi=>by rw [hlow k hk i hi,Int.mul_zero])] at h3;have h4:sumF (fun i=>zAt (rAt L k) (k+1+i)*cramN f O last (k+1+i)) (f - 1 - k)=sumF (fun i=>cramN f O last (k+1+i)*zAt (rAt L k) (k+1+i)) (f - 1 - k):=sumF_eq fun i _=>Int.mul_comm _ _
  unfold remS;rw [h4];grind
 refine ⟨⟨fun k hk=>?_,hlead,fun k hk=>⟨sm_300 (hUs k hk last hl),fun c hc=>sm_300 (hUs k hk c aO)⟩,fun k hk j hj=>?_,fun k hk j hj=>?_,fun k hk=>?_⟩,hD,hNs,hDs⟩
 ·rw [sum_toQ hD,div_toQ hD (hlead k hk),hrem k hk];refine toQ_eq hD (Int.mul_ne_zero hD (hlead k hk)) ?_;grind
 ·rw [sum_toQ hD];exact toQ_sm hD (remS_sm aO (hUs k hk last hl) hDs fun i hi=>⟨hUs k hk _ aO,hNs _⟩) (sm_300 hDs)
 ·rw [<- toQ_one (zAt (rAt L k) (k+1+j)),mul_toQ aO hD];have h1:=mul_300 (hUs k hk (k+1+j) aO) (hNs (k+1+j));have h5:=top_600;refine toQ_sm (Int.mul_ne_zero aO hD) ?_ (by rw [Int.one_mul]; exact sm_300 hDs);unfold Sm;generalize 2^300*2^300=X at *;omega
 ·exact toQ_sm hD (sm_300 (hNs k)) (sm_300 hDs)
end Go.Proofs.YtflgngjocgiojaaGreat
