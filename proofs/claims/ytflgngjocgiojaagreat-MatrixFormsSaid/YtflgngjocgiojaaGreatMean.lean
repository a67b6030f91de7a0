import Derived.Test.YtflgngjocgiojaaGreatBack
set_option linter.all false
namespace Go.Proofs.YtflgngjocgiojaaGreat
theorem firstF_range (cs:Nat->Nat):∀ a,(firstF ((List.range a).map (fun t=>(cs t,t)))<=a)/\(∀ t,t<firstF ((List.range a).map (fun t=>(cs t,t)))->cs t=t)/\(firstF ((List.range a).map (fun t=>(cs t,t)))<a->cs (firstF ((List.range a).map (fun t=>(cs t,t))))≠firstF ((List.range a).map (fun t=>(cs t,t))))
 | 0=>⟨Zr _,fun t h=>absurd h (Nat.not_lt_zero t),fun h=>absurd h (Nat.lt_irrefl 0)⟩
 | a+1=>by
  obtain ⟨h1,h2,h3⟩:=firstF_range cs a;rw [List.range_succ,List.map_append];simp only [List.map_cons,List.map_nil];rw [firstF_snoc];obtain ⟨f,hf⟩:=Zx (firstF ((List.range a).map (fun t=>(cs t,t))));rw [hf] at h1 h2 h3 ⊢;simp only
  by_cases e:cs a=a/\cs a=f
  ·rw [if_pos e];refine ⟨aO,fun t ht=>?_,fun h=>aO⟩
   by_cases e2:t=a
   ·subst e2; exact e.1
   ·exact h2 t aO
  ·rw [if_neg e];refine ⟨aO,h2,fun h=>?_⟩
   by_cases e2:f<a
   ·exact h3 e2
   ·have:f=a:=aO
    subst this;intro e3;exact e ⟨e3,e3⟩
theorem ofD_dvd (n:Int) {d:Int} (h:d≠0):(ofD n d).natAbs∣d.natAbs:=by
 have hg:0<Nat.gcd n.natAbs d.natAbs:=Nat.gcd_pos_of_pos_right _ aO;unfold ofD;obtain ⟨g,hgg⟩:=Zx (Nat.gcd n.natAbs d.natAbs);rw [hgg] at hg ⊢;have hd:g∣d.natAbs:=by rw [<- hgg]; exact Nat.gcd_dvd_right _ _
 have key:∀ d':Int,d'.natAbs=d.natAbs->(d' / (g:Int)).natAbs∣d.natAbs:=fun d' e=>by
  have d2:(g:Int)∣d':=Int.ofNat_dvd_left.2 (by rw [e]; exact hd);obtain ⟨b,hb⟩:=d2;rw [hb,Int.mul_ediv_cancel_left _ aO];rw [<- e,hb,Int.natAbs_mul];exact ⟨g,Nat.mul_comm _ _⟩
 split
 ·exact key (-d) (Int.natAbs_neg d)
 ·exact key d rfl
theorem byW_dvd {Q:Nat->QI} {n D:Nat} (hq:∀ i,i<n->0<(Q i).2/\(Q i).2.natAbs∣D):∀ i,i<=n->(byW Q i).natAbs∣D
 | 0,_=>⟨D,by simp [byW]⟩
 | i+1,h=>by
  have ih:=byW_dvd hq i aO;obtain ⟨h1,h2⟩:=hq i aO;rw [byW];obtain ⟨q,hqn⟩:∃ q:Nat,(Q i).2=(q:Int):=⟨(Q i).2.natAbs,aO⟩;rw [hqn] at h1 h2 ⊢;have e:(byW Q i*((q:Int) / ((Nat.gcd (byW Q i).natAbs (Int.natAbs (q:Int)):Nat):Int))).natAbs=Nat.lcm (byW Q i).natAbs q:=by
   rw [Int.natAbs_mul,Int.natAbs_natCast,<- Int.natCast_ediv,Int.natAbs_natCast];unfold Nat.lcm;rw [Nat.mul_div_assoc _ (Nat.gcd_dvd_right _ _)]
  rw [e];exact Nat.lcm_dvd ih h2
theorem goodQ_pos {a:QI} (h:goodQ a.1 a.2=true):0<a.2:=(goodQ_iff.1 h).1
theorem kern_fine {M:List (List Int)}:∃ x,FineK M x (kernF M):=by
 by_cases h:matCheck M=0
 ·obtain ⟨hn,hk8,hw0,_⟩:=matCheck_ok h;have hw:=wide_sys hw0;obtain ⟨π,cs,hI,hl⟩:=InvB.run2 hw (cols M) (Zr _);obtain ⟨h1,h2,_⟩:=firstF_range cs (runB ⟨sysL M [] M.length,1,0⟩ (cols M)).a;rw [<- hl] at h1 h2;have hf:firstF (leadsB ⟨sysL M [] M.length,1,0⟩ (cols M))=kernF M:=rfl;rw [hf] at h1 h2;refine ⟨fun k=>toQ (cramN (kernF M) (fun i=>rowF (sysL M [] M.length) (π i)) (kernF M) k) (cramD (kernF M) (fun i=>rowF (sysL M [] M.length) (π i))),fun _=>⟨rank_fine h,fun hfk=>?_⟩⟩;have he:=ent_sys h;have hale:=hI.a_le;obtain ⟨hB,hD,hN,hDs⟩:=back_ok (L:=(runB ⟨sysL M [] M.length,1,0⟩ (cols M)).L) (O:=fun i=>rowF (sysL M [] M.length) (π i)) (cs:=cs) (f:=kernF M) (last:=kernF M) (wd:=cols M) aO aO hfk h2 (fun t ht=>hI.nz t aO) (fun k hk j hj=>hI.high k aO j hj) (fun i hi c hc=>he _ (hI.perm i aO) c hc);refine ⟨hB,?_⟩;have hQ:∀ i,i<kernF M->kernQ (fun k=>toQ (cramN (kernF M) (fun i=>rowF (sysL M [] M.length) (π i)) (kernF M) k) (cramD (kernF M) (fun i=>rowF (sysL M [] M.length) (π i)))) (kernF M) i=toQ (-cramN (kernF M) (fun i=>rowF (sysL M [] M.length) (π i)) (kernF M) i) (cramD (kernF M) (fun i=>rowF (sysL M [] M.length) (π i))):=fun i hi=>by
   unfold kernQ;rw [if_pos hi,<- toQ_one 0,sub_toQ aO hD];refine toQ_eq (Int.mul_ne_zero aO hD) hD ?_;grind
  have hsm:∀ i,i<cols M->SmQ (kernQ (fun k=>toQ (cramN (kernF M) (fun i=>rowF (sysL M [] M.length) (π i)) (kernF M) k) (cramD (kernF M) (fun i=>rowF (sysL M [] M.length) (π i)))) (kernF M) i):=fun i hi=>by
   by_cases e:i<kernF M
   ·rw [hQ i e];exact toQ_sm hD (sm_300 (by rw [Int.natAbs_neg]; exact hN i)) (sm_300 hDs)
   ·unfold kernQ;rw [if_neg e];split
    ·exact SmQ.int Sm.one
    ·exact SmQ.int sm_zero
  refine ⟨hsm,fun i hi=>?_⟩;have hd:=byW_dvd (Q:=kernQ (fun k=>toQ (cramN (kernF M) (fun i=>rowF (sysL M [] M.length) (π i)) (kernF M) k) (cramD (kernF M) (fun i=>rowF (sysL M [] M.length) (π i)))) (kernF M)) (n:=cols M) (D:=(cramD (kernF M) (fun i=>rowF (sysL M [] M.length) (π i))).natAbs) (fun i hi=>⟨goodQ_pos (hsm i hi).1,by
   by_cases e:i<kernF M
   ·rw [hQ i e];exact ofD_dvd _ hD
   ·unfold kernQ;rw [if_neg e];split <;> exact ⟨_,(Nat.one_mul _).symm⟩⟩) i hi
  exact sm_300 (Nat.lt_of_le_of_lt (Nat.le_of_dvd aO hd) hDs)
 ·exact ⟨fun _=>(0,1),fun h2=>absurd h2 h⟩
theorem stepB_keep {s:BS} {c i:Nat} (h:i<s.a) (ha:s.a<=s.L.length):rAt (stepB s c).L i=rAt s.L i:=by
 cases hf:findP s.L c (s.L.length - s.a) s.a with
 | none=>rw [stepB_none hf]
 | some p =>
  obtain ⟨h1,h2,h3⟩:=findP_spec _ _ _ hf;rw [stepB_some hf];simp only;rw [rAt_elim (by rw [swapL_len]; omega),if_neg aO,rAt_swap aO aO,if_neg aO,if_neg aO]
theorem runB_keep {s:BS} (hs:s.a<=s.L.length) {c i:Nat} (h:i<(runB s c).a):∀ d,rAt (runB s (c+d)).L i=rAt (runB s c).L i
 | 0=>rfl
 | d+1=>by
  have h1:i<(runB s (c+d)).a:=by
   have key:∀ d,(runB s c).a<=(runB s (c+d)).a:=fun d=>by
    induction d with
    | zero=>exact Zr _
    | succ d ih=>exact Zm ih (stepB_a (runB s (c+d)) (c+d)).2.1
   have:=key d;omega
  rw [<- Nat.add_assoc,runB,stepB_keep h1 (by rw [runB_len]; exact runB_an s hs _)];exact runB_keep hs h d
theorem leadsB_split (s:BS) (c:Nat):∀ d,∃ rest,leadsB s (c+d)=leadsB s c++rest/\∀ x,x∈rest->c<=x.1
 | 0=>⟨[],(List.append_nil _).symm,fun x h=>by cases h⟩
 | d+1=>by
  obtain ⟨rest,h1,h2⟩:=leadsB_split s c d;rw [<- Nat.add_assoc,leadsB,h1,List.append_assoc];refine ⟨_,rfl,fun x hx=>?_⟩;rcases List.mem_append.1 hx with h | h
  ·exact h2 x h
  ·cases hf:findP (runB s (c+d)).L (c+d) ((runB s (c+d)).L.length - (runB s (c+d)).a) (runB s (c+d)).a with
   | none=>rw [hf] at h; cases h
   | some p =>
    rw [hf] at h;have:=List.mem_singleton.1 h;rw [this];exact Nat.le_add_right _ _
theorem kern_stage {L0:List (List Int)} {wd f:Nat} (hw:Wide L0 wd) (hf:firstF (leadsB ⟨L0,1,0⟩ wd)=f) (hfw:f<wd):∃ π cs,InvB L0 wd (runB ⟨L0,1,0⟩ (f+1)) (f+1) π cs/\(runB ⟨L0,1,0⟩ (f+1)).a=f/\∀ t,t<f->cs t=t:=by
 obtain ⟨π,cs,hI,hl⟩:=InvB.run2 hw wd (Zr _);obtain ⟨π1,cs1,hI1,hl1⟩:=InvB.run2 hw (f+1) aO;obtain ⟨rest,hr,hr2⟩:=leadsB_split ⟨L0,1,0⟩ (f+1) (wd - (f+1));rw [show f+1+(wd - (f+1))=wd by omega] at hr;obtain ⟨g1,g2,g3⟩:=firstF_range cs (runB ⟨L0,1,0⟩ wd).a;rw [<- hl,hf] at g1 g2 g3;obtain ⟨a,ha⟩:=Zx ((runB ⟨L0,1,0⟩ wd).a);obtain ⟨a1,ha1⟩:=Zx ((runB ⟨L0,1,0⟩ (f+1)).a);have hcol1:=hI1.col;have hinc:=hI.inc;rw [ha] at g1 g3 hl hinc;rw [ha1] at hl1 hcol1;have hat:∀ t,t<a->(leadsB ⟨L0,1,0⟩ wd)[t]?=some (cs t,t):=fun t ht=>by rw [hl]; simp [ht]
 have hat1:∀ t,t<a1->(leadsB ⟨L0,1,0⟩ (f+1))[t]?=some (cs1 t,t):=fun t ht=>by rw [hl1]; simp [ht]
 have hlen1:(leadsB ⟨L0,1,0⟩ (f+1)).length=a1:=by rw [hl1]; simp
 have hlen:(leadsB ⟨L0,1,0⟩ wd).length=a:=by rw [hl]; simp
 have hle:a1<=a:=by
  have:=congrArg List.length hr;rw [hlen,List.length_append,hlen1] at this;omega
 have heq:∀ t,t<a1->cs1 t=cs t:=fun t ht=>by
  have h1:=hat t aO;rw [hr,List.getElem?_append_left (by rw [hlen1]; exact ht),hat1 t ht] at h1;injection h1 with h1
  injection h1
 have hup:a1<=f:=by
  apply Classical.byContradiction;intro hc;have h1:=hcol1 f aO;rw [heq f aO] at h1;have h2:=g3 aO;rcases Nat.eq_zero_or_pos f with h0 | h0
  ·omega
  ·have h3:=hinc (f - 1) f aO aO;rw [g2 (f - 1) aO] at h3;omega
 have hlo:f<=a1:=by
  apply Classical.byContradiction;intro hc;have h1:=hat a1 aO;rw [hr,List.getElem?_append_right (by rw [hlen1]; exact Zr _)] at h1;have h2:=hr2 _ (List.mem_of_getElem? h1);simp only at h2;rw [g2 a1 aO] at h2;omega
 refine ⟨π1,cs1,hI1,by rw [ha1]; omega,fun t ht=>?_⟩;rw [heq t aO];exact g2 t ht
theorem dep:∀ {r p:Nat} (C:Nat->Nat->Int),r<p->∃ l:Nat->Int,(∃ i,i<p/\l i≠0)/\∀ t,t<r->sumF (fun i=>l i*C i t) p=0
 | 0,p,C,h=>⟨fun _=>1,⟨0,h,by show (1:Int)≠0; omega⟩,fun t ht=>aO⟩
 | r+1,p,C,h=>by
  by_cases hz:∀ i,i<p->C i r=0
  ·obtain ⟨l,h1,h2⟩:=dep (r:=r) C (show r<p by omega);refine ⟨l,h1,fun t ht=>?_⟩
   by_cases e:t=r
   ·subst e; exact sumF_zero fun i hi=>by rw [hz i hi,Int.mul_zero]
   ·exact h2 t aO
  ·obtain ⟨q,hq,hne⟩:∃ q,q<p/\C q r≠0:=Classical.byContradiction fun hc=>hz fun i hi=>Classical.byContradiction fun h2=>hc ⟨i,hi,h2⟩
   obtain ⟨n,rfl⟩:∃ n,p=n+1:=⟨p - 1,aO⟩;obtain ⟨l,⟨i0,hi0,hl0⟩,h2⟩:=dep (r:=r) (p:=n) (fun i t=>C q r*C (skip q i) t - C (skip q i) r*C q t) aO;have hsk:∀ i,i<n->skip q i<n+1/\skip q i≠q:=fun i hi=>by unfold skip; split <;> omega
   have hun:∀ i,(if skip q i<q then skip q i else skip q i - 1)=i:=fun i=>by unfold skip; repeat' split <;> try omega
   refine ⟨fun x=>if x=q then -sumF (fun i=>l i*C (skip q i) r) n else C q r*l (if x<q then x else x - 1),⟨skip q i0,(hsk i0 hi0).1,?_⟩,fun t ht=>?_⟩
   ·simp only [if_neg (hsk i0 hi0).2,hun i0];exact Int.mul_ne_zero hne hl0
   ·rw [<- sumF_skip (fun x=>(if x=q then -sumF (fun i=>l i*C (skip q i) r) n else C q r*l (if x<q then x else x - 1))*C x t) (n:=n) (i:=q) aO];simp only [if_true];have e1:sumF (fun k=>(if skip q k=q then -sumF (fun i=>l i*C (skip q i) r) n else C q r*l (if skip q k<q then skip q k else skip q k - 1))*C (skip q k) t) n=sumF (fun k=>C q r*l k*C (skip q k) t) n:=sumF_eq fun k hk=>by
     rw [if_neg (hsk k hk).2,hun k]
    rw [e1]
    by_cases e:t=r
    ·subst e;have e2:sumF (fun k=>C q t*l k*C (skip q k) t) n=C q t*sumF (fun i=>l i*C (skip q i) t) n:=by
      rw [<- sumF_mul];exact sumF_eq fun k _=>by grind
     rw [e2];grind
    ·have h3:=h2 t aO;have e2:sumF (fun i=>l i*(C q r*C (skip q i) t - C (skip q i) r*C q t)) n=sumF (fun k=>C q r*l k*C (skip q k) t) n + -sumF (fun i=>l i*C (skip q i) r) n*C q t:=by
      have e3:-sumF (fun i=>l i*C (skip q i) r) n*C q t=sumF (fun i=>-C q t*(l i*C (skip q i) r)) n:=by
       rw [sumF_mul];grind
      rw [e3,<- sumF_add];exact sumF_eq fun k _=>by grind
     rw [e2] at h3;exact h3
def Fact (M:Nat->Nat->Int) (m n r:Nat):Prop:=∃ (d:Int) (C E:Nat->Nat->Int),d≠0/\∀ i,i<m->∀ j,j<n->d*M i j=sumF (fun t=>C i t*E t j) r
theorem Fact.least {M:Nat->Nat->Int} {m n r p:Nat} (h:Fact M m n r) {π cs:Nat->Nat} (hπ:∀ i,i<p->π i<m) (hc:∀ t,t<p->cs t<n) (hnz:∀ t,t<=p->minD t (fun i=>M (π i)) cs≠0):p<=r:=by
 apply Classical.byContradiction;intro hlt;obtain ⟨d,C,E,hd,h⟩:=h;obtain ⟨l,⟨i,hi,hl⟩,h2⟩:=dep (r:=r) (p:=p) (fun i=>C (π i)) aO;have h3:=indep (O:=fun i=>M (π i)) (cs:=cs) hnz (fun i=>l i*d) (fun t ht=>by
  have e1:sumF (fun i=>l i*d*M (π i) (cs t)) p=sumF (fun i=>sumF (fun s=>E s (cs t)*(l i*C (π i) s)) r) p:=sumF_eq fun i hi=>by
   rw [Int.mul_assoc,h (π i) (hπ i hi) (cs t) (hc t ht),<- sumF_mul];exact sumF_eq fun s _=>by grind
  rw [e1,sumF_swap];refine sumF_zero fun s hs=>?_
  rw [sumF_mul,h2 s hs,Int.mul_zero]) i hi
 rcases Int.mul_eq_zero.1 h3 with h4 | h4
 ·exact hl h4
 ·exact hd h4
theorem Fact.map {M:Nat->Nat->Int} {m n r m':Nat} (h:Fact M m n r) (σ:Nat->Nat) (hσ:∀ i,i<m'->σ i<m):Fact (fun i=>M (σ i)) m' n r:=by
 obtain ⟨d,C,E,hd,h⟩:=h;exact ⟨d,fun i=>C (σ i),E,hd,fun i hi j hj=>h (σ i) (hσ i hi) j hj⟩
theorem Fact.congr {M M':Nat->Nat->Int} {m n r:Nat} (h:Fact M m n r) (e:∀ i,i<m->∀ j,j<n->M' i j=M i j):Fact M' m n r:=by
 obtain ⟨d,C,E,hd,h⟩:=h;exact ⟨d,C,E,hd,fun i hi j hj=>by rw [e i hi j hj]; exact h i hi j hj⟩
theorem Fact.plus {M:Nat->Nat->Int} {m n r:Nat} (h:Fact M m n r) (i k:Nat) (t:Int) (hk:k<m):Fact (fun x j=>if x=i then M x j+t*M k j else M x j) m n r:=by
 obtain ⟨d,C,E,hd,h⟩:=h;refine ⟨d,fun x s=>if x=i then C x s+t*C k s else C x s,E,hd,fun x hx j hj=>?_⟩
 by_cases e:x=i
 ·have e1:sumF (fun s=>(if x=i then C x s+t*C k s else C x s)*E s j) r=sumF (fun s=>C x s*E s j) r+t*sumF (fun s=>C k s*E s j) r:=by
   rw [<- sumF_mul,<- sumF_add];exact sumF_eq fun s _=>by rw [if_pos e]; grind
  show d*(if x=i then M x j+t*M k j else M x j)=_;rw [e1,if_pos e,<- h x hx j hj,<- h k hk j hj];grind
 ·have e1:sumF (fun s=>(if x=i then C x s+t*C k s else C x s)*E s j) r=sumF (fun s=>C x s*E s j) r:=sumF_eq fun s _=>by rw [if_neg e]
  show d*(if x=i then M x j+t*M k j else M x j)=_;rw [e1,if_neg e];exact h x hx j hj
theorem Fact.more {M:Nat->Nat->Int} {m n r:Nat} (h:Fact M m n r) (w:Nat->Int):Fact (fun i j=>if i<m then M i j else w j) (m+1) n (r+1):=by
 obtain ⟨d,C,E,hd,h⟩:=h;refine ⟨d,fun i t=>if i<m then (if t<r then C i t else 0) else (if t<r then 0 else d),fun t j=>if t<r then E t j else w j,hd,fun i hi j hj=>?_⟩;rw [sumF];simp only [if_neg (Nat.lt_irrefl r)]
 by_cases e:i<m
 ·have e1:sumF (fun t=>(if i<m then (if t<r then C i t else 0) else (if t<r then 0 else d))*(if t<r then E t j else w j)) r=sumF (fun t=>C i t*E t j) r:=sumF_eq fun t ht=>by rw [if_pos e,if_pos ht,if_pos ht]
  rw [e1,if_pos e,if_pos e,Int.zero_mul,Int.add_zero];exact h i e j hj
 ·have e1:sumF (fun t=>(if i<m then (if t<r then C i t else 0) else (if t<r then 0 else d))*(if t<r then E t j else w j)) r=0:=sumF_zero fun t ht=>by rw [if_neg e,if_pos ht,Int.zero_mul]
  rw [e1,if_neg e,if_neg e,Int.zero_add]
structure KerZ (M:List (List Int)) (Z:List Int) (f:Nat):Prop where
 len:Z.length=cols M
 lt:f<cols M
 pos:0<iAt Z f
 zero:∀ k,f<k->k<cols M->iAt Z k=0
 prim:∀ g:Nat,(∀ i,i<cols M->g∣(iAt Z i).natAbs)->g=1
 rows:∀ y,y<M.length->sumF (fun c=>iAt (rAt M y) c*iAt Z c) (cols M)=0
 small:∀ k,(iAt Z k).natAbs<2^650
end Go.Proofs.YtflgngjocgiojaaGreat
