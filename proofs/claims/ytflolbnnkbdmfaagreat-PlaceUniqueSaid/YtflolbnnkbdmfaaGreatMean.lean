import Derived.Test.YtflolbnnkbdmfaaGreatRank
set_option linter.all false
namespace Go.Proofs.YtflolbnnkbdmfaaGreat
theorem sumF_one (x:Nat->Int) {i:Nat}:∀ {a:Nat},i<a->sumF (fun t=>(if t=i then x t else 0)) a=x i
 | a+1,h=>by
  rw [sumF]
  by_cases e:i=a
  ·subst e;rw [if_pos rfl,sumF_zero (fun t ht=>if_neg aO),Int.zero_add]
  ·rw [if_neg (fun h=>e h.symm),Int.add_zero];exact sumF_one x aO
theorem rank_fact {L0:List (List Int)} {wd:Nat} (hw:Wide L0 wd):Fact (rowF L0) L0.length wd (leadsB ⟨L0,1,0⟩ wd).length/\∀ r,Fact (rowF L0) L0.length wd r->(leadsB ⟨L0,1,0⟩ wd).length<=r:=by
 obtain ⟨π,cs,hI⟩:=InvB.run hw wd (Zr _);have hla:(leadsB ⟨L0,1,0⟩ wd).length=(runB ⟨L0,1,0⟩ wd).a:=by simpa using leadsB_len ⟨L0,1,0⟩ wd
 rw [hla];obtain ⟨a,ha⟩:=Zx ((runB ⟨L0,1,0⟩ wd).a);have hale:=hI.a_le;have hnz:=hI.nz;have hcol:=hI.col;have hlow:=hI.low;rw [ha] at hale hnz hcol hlow;rw [ha];refine ⟨?_,fun r hr=>hr.least (π:=π) (cs:=cs) (fun i hi=>hI.perm i aO) hcol hnz⟩;have key:∀ y,∃ cf:Nat->Int,y<L0.length->∀ j,j<wd->minD a (fun i=>rowF L0 (π i)) cs*rowF L0 y j=sumF (fun t=>cf t*rowF L0 (π t) j) a:=fun y=>by
  by_cases hy:y<L0.length
  ·obtain ⟨i,hi,rfl⟩:=hI.sur y hy
   by_cases h1:i<a
   ·refine ⟨fun t=>if t=i then minD a (fun i=>rowF L0 (π i)) cs else 0,fun _ j _=>?_⟩;have e:sumF (fun t=>(if t=i then minD a (fun i=>rowF L0 (π i)) cs else 0)*rowF L0 (π t) j) a=sumF (fun t=>if t=i then minD a (fun i=>rowF L0 (π i)) cs*rowF L0 (π t) j else 0) a:=sumF_eq fun t _=>by
     by_cases e2:t=i
     ·rw [if_pos e2,if_pos e2]
     ·rw [if_neg e2,if_neg e2,Int.zero_mul]
    rw [e,sumF_one (fun t=>minD a (fun i=>rowF L0 (π i)) cs*rowF L0 (π t) j) h1]
   ·obtain ⟨γ,hγ⟩:=minV_comb a (fun i=>rowF L0 (π i)) cs (rowF L0 (π i));refine ⟨fun t=>-γ t,fun _ j hj=>?_⟩;have h2:=hlow i aO hi j hj;have h3:=hI.zero i (by rw [ha]; omega) hi j hj;rw [h3,hγ j] at h2;have h4:sumF (fun t=>-γ t*rowF L0 (π t) j) a=-sumF (fun t=>γ t*rowF L0 (π t) j) a:=by
     rw [<- sumF_neg];exact sumF_eq fun t _=>by grind
    rw [h4];omega
  ·exact ⟨fun _=>0,fun h=>absurd h hy⟩
 exact ⟨minD a (fun i=>rowF L0 (π i)) cs,fun y=>Classical.choose (key y),fun t=>rowF L0 (π t),hnz a (Zr _),fun y hy j hj=>Classical.choose_spec (key y) hy j hj⟩
theorem rankZ_fact {M:List (List Int)} (h:matCheck M=0):Fact (fun i j=>iAt (rAt M i) j) M.length (cols M) (rankZ M)/\∀ r,Fact (fun i j=>iAt (rAt M i) j) M.length (cols M) r->rankZ M<=r:=by
 obtain ⟨_,_,h3,_⟩:=matCheck_ok h;have hr:rankZ M=(leadsB ⟨sysL M [] M.length,1,0⟩ (cols M)).length:=by unfold rankZ; rw [if_pos h]
 have q:=rank_fact (wide_sys h3);rw [sysL_len,<- hr] at q;have e:∀ i,i<M.length->∀ j,rowF (sysL M [] M.length) i j=iAt (rAt M i) j:=fun i hi j=>by
  unfold rowF;rw [rAt_sysL M [] hi,sysR_nil];rfl
 refine ⟨?_,fun r hr2=>q.2 r ?_⟩
 ·obtain ⟨d,C,E,hd,hF⟩:=q.1;exact ⟨d,C,E,hd,fun i hi j hj=>by show d*iAt (rAt M i) j=_; rw [<- e i hi j]; exact hF i hi j hj⟩
 ·obtain ⟨d,C,E,hd,hF⟩:=hr2;exact ⟨d,C,E,hd,fun i hi j hj=>by rw [e i hi j]; exact hF i hi j hj⟩
theorem Fact.map {M:Nat->Nat->Int} {m n r m':Nat} (h:Fact M m n r) (σ:Nat->Nat) (hσ:∀ i,i<m'->σ i<m):Fact (fun i=>M (σ i)) m' n r:=by
 obtain ⟨d,C,E,hd,h⟩:=h;exact ⟨d,fun i=>C (σ i),E,hd,fun i hi j hj=>h (σ i) (hσ i hi) j hj⟩
theorem Fact.congr {M M':Nat->Nat->Int} {m n r:Nat} (h:Fact M m n r) (e:∀ i,i<m->∀ j,j<n->M' i j=M i j):Fact M' m n r:=by
 obtain ⟨d,C,E,hd,h⟩:=h;exact ⟨d,C,E,hd,fun i hi j hj=>by rw [e i hi j hj]; exact h i hi j hj⟩
theorem Fact.more {M:Nat->Nat->Int} {m n r:Nat} (h:Fact M m n r) (w:Nat->Int):Fact (fun i j=>if i<m then M i j else w j) (m+1) n (r+1):=by
 obtain ⟨d,C,E,hd,h⟩:=h;refine ⟨d,fun i t=>if i<m then (if t<r then C i t else 0) else (if t<r then 0 else d),fun t j=>if t<r then E t j else w j,hd,fun i hi j hj=>?_⟩;rw [sumF];simp only [if_neg (Nat.lt_irrefl r)]
 by_cases e:i<m
 ·have e1:sumF (fun t=>(if i<m then (if t<r then C i t else 0) else (if t<r then 0 else d))*(if t<r then E t j else w j)) r=sumF (fun t=>C i t*E t j) r:=sumF_eq fun t ht=>by rw [if_pos e,if_pos ht,if_pos ht]
  rw [e1,if_pos e,if_pos e,Int.zero_mul,Int.add_zero];exact h i e j hj
 ·have e1:sumF (fun t=>(if i<m then (if t<r then C i t else 0) else (if t<r then 0 else d))*(if t<r then E t j else w j)) r=0:=sumF_zero fun t ht=>by rw [if_neg e,if_pos ht,Int.zero_mul]
  rw [e1,if_neg e,if_neg e,Int.zero_add]
theorem rank_same {M M':List (List Int)} (h:matCheck M=0) (h':matCheck M'=0)
 (e1:∀ r,Fact (fun i j=>iAt (rAt M i) j) M.length (cols M) r->Fact (fun i j=>iAt (rAt M' i) j) M'.length (cols M') r)
 (e2:∀ r,Fact (fun i j=>iAt (rAt M' i) j) M'.length (cols M') r->Fact (fun i j=>iAt (rAt M i) j) M.length (cols M) r):rankZ M'=rankZ M:=by
 obtain ⟨a1,a2⟩:=rankZ_fact h;obtain ⟨b1,b2⟩:=rankZ_fact h';exact Nat.le_antisymm (b2 _ (e1 _ a1)) (a2 _ (e2 _ b1))
theorem fact_stage {L0:List (List Int)} {wd c:Nat} (hw:Wide L0 wd) (hc:c<=wd):Fact (rowF L0) L0.length c (runB ⟨L0,1,0⟩ c).a/\∀ r,Fact (rowF L0) L0.length c r->(runB ⟨L0,1,0⟩ c).a<=r:=by
 obtain ⟨π,cs,hI⟩:=InvB.run hw c hc;obtain ⟨a,ha⟩:=Zx ((runB ⟨L0,1,0⟩ c).a);have hale:=hI.a_le;have hnz:=hI.nz;have hcol:=hI.col;have hlow:=hI.low;rw [ha] at hale hnz hcol hlow;rw [ha];refine ⟨?_,fun r hr=>hr.least (π:=π) (cs:=cs) (fun i hi=>hI.perm i aO) hcol hnz⟩;have key:∀ y,∃ cf:Nat->Int,y<L0.length->∀ j,j<c->minD a (fun i=>rowF L0 (π i)) cs*rowF L0 y j=sumF (fun t=>cf t*rowF L0 (π t) j) a:=fun y=>by
  by_cases hy:y<L0.length
  ·obtain ⟨i,hi,rfl⟩:=hI.sur y hy
   by_cases h1:i<a
   ·refine ⟨fun t=>if t=i then minD a (fun i=>rowF L0 (π i)) cs else 0,fun _ j _=>?_⟩;have e:sumF (fun t=>(if t=i then minD a (fun i=>rowF L0 (π i)) cs else 0)*rowF L0 (π t) j) a=sumF (fun t=>if t=i then minD a (fun i=>rowF L0 (π i)) cs*rowF L0 (π t) j else 0) a:=sumF_eq fun t _=>by
     by_cases e2:t=i
     ·rw [if_pos e2,if_pos e2]
     ·rw [if_neg e2,if_neg e2,Int.zero_mul]
    rw [e,sumF_one (fun t=>minD a (fun i=>rowF L0 (π i)) cs*rowF L0 (π t) j) h1]
   ·obtain ⟨γ,hγ⟩:=minV_comb a (fun i=>rowF L0 (π i)) cs (rowF L0 (π i));refine ⟨fun t=>-γ t,fun _ j hj=>?_⟩;have h2:=hlow i aO hi j aO;have h3:=hI.zero i (by rw [ha]; omega) hi j hj;rw [h3,hγ j] at h2;have h4:sumF (fun t=>-γ t*rowF L0 (π t) j) a=-sumF (fun t=>γ t*rowF L0 (π t) j) a:=by
     rw [<- sumF_neg];exact sumF_eq fun t _=>by grind
    rw [h4];omega
  ·exact ⟨fun _=>0,fun h=>absurd h hy⟩
 exact ⟨minD a (fun i=>rowF L0 (π i)) cs,fun y=>Classical.choose (key y),fun t=>rowF L0 (π t),hnz a (Zr _),fun y hy j hj=>Classical.choose_spec (key y) hy j hj⟩
theorem minV_row {O:Nat->Nat->Int} {cs:Nat->Nat} {a i:Nat} (hnz:∀ t,t<=a->minD t O cs≠0) (hi:i<a) (j:Nat):minV a O cs (O i) j=0:=by
 obtain ⟨γ,hγ⟩:=minV_comb a O cs (O i);have h1:∀ j,sumF (fun t=>((if t=i then minD a O cs else 0)+γ t)*O t j) a=minV a O cs (O i) j:=fun j=>by
  have e:sumF (fun t=>((if t=i then minD a O cs else 0)+γ t)*O t j) a=sumF (fun t=>if t=i then minD a O cs*O t j else 0) a+sumF (fun t=>γ t*O t j) a:=by
   rw [<- sumF_add];refine sumF_eq fun t _=>?_
   by_cases e2:t=i
   ·rw [if_pos e2,if_pos e2]; grind
   ·rw [if_neg e2,if_neg e2]; grind
  rw [e,sumF_one (fun t=>minD a O cs*O t j) hi,hγ j]
 have h2:=indep hnz (fun t=>(if t=i then minD a O cs else 0)+γ t) (fun t ht=>by rw [h1,minV_zero ht]);rw [<- h1 j];exact sumF_zero fun t ht=>by rw [h2 t ht,Int.zero_mul]
theorem byW_pos {Q:Nat->QI} {n:Nat} (hq:∀ i,i<n->0<(Q i).2):∀ i,i<=n->0<byW Q i
 | 0,_=>by unfold byW; omega
 | i+1,h=>by
  have ih:=byW_pos hq i aO;have h1:=hq i aO;rw [byW];have h2:Nat.gcd (byW Q i).natAbs (Q i).2.natAbs∣(Q i).2.natAbs:=Nat.gcd_dvd_right _ _;have h3:0<Nat.gcd (byW Q i).natAbs (Q i).2.natAbs:=Nat.gcd_pos_of_pos_right _ aO;obtain ⟨k,hk⟩:=h2;have e:(Q i).2=((Nat.gcd (byW Q i).natAbs (Q i).2.natAbs:Nat):Int)*(k:Int):=by
   rw [<- Int.natCast_mul,<- hk]; omega
  have h4:(Q i).2 / ((Nat.gcd (byW Q i).natAbs (Q i).2.natAbs:Nat):Int)=(k:Int):=by
   conv=>lhs; lhs; rw [e]
   exact Int.mul_ediv_cancel_left _ aO
  rw [h4];have hk0:0<k:=by
   rcases Nat.eq_zero_or_pos k with h5 | h5
   ·rw [h5,Nat.mul_zero] at hk; omega
   ·exact h5
  exact Int.mul_pos ih aO
theorem byW_step {Q:Nat->QI} {i:Nat} (h0:0<byW Q i) (h1:0<(Q i).2):(byW Q i)∣(byW Q (i+1))/\(Q i).2∣byW Q (i+1):=by
 rw [byW];refine ⟨Int.dvd_mul_right _ _,?_⟩;obtain ⟨g,hg⟩:=Zx (Nat.gcd (byW Q i).natAbs (Q i).2.natAbs);have hd1:g∣(byW Q i).natAbs:=by rw [<- hg]; exact Nat.gcd_dvd_left _ _
 have hd2:g∣(Q i).2.natAbs:=by rw [<- hg]; exact Nat.gcd_dvd_right _ _
 have hgp:0<g:=by rw [<- hg]; exact Nat.gcd_pos_of_pos_right _ aO
 rw [hg];obtain ⟨a,ha⟩:=hd1;obtain ⟨b,hb⟩:=hd2;have ea:byW Q i=(g:Int)*(a:Int):=by rw [<- Int.natCast_mul,<- ha]; omega
 have eb:(Q i).2=(g:Int)*(b:Int):=by rw [<- Int.natCast_mul,<- hb]; omega
 rw [ea,eb,Int.mul_ediv_cancel_left _ aO];exact ⟨(a:Int),by grind⟩
theorem byW_has {Q:Nat->QI} {n:Nat} (hq:∀ i,i<n->0<(Q i).2):∀ i,i<=n->∀ j,j<i->(Q j).2∣byW Q i
 | 0,_,j,hj=>absurd hj (Nat.not_lt_zero j)
 | i+1,h,j,hj=>by
  obtain ⟨h1,h2⟩:=byW_step (byW_pos hq i aO) (hq i aO)
  by_cases e:j=i
  ·subst e; exact h2
  ·exact Int.dvd_trans (byW_has hq i aO j aO) h1
theorem wholeZ_at (Q:Nat->QI) (n:Nat):∀ k i,i<k->iAt (wholeZ Q n k) i=(Q i).1*(byW Q n / (Q i).2)
 | 0,i,h=>absurd h (Nat.not_lt_zero i)
 | k+1,i,h=>by
  unfold iAt;rw [wholeZ,Ze]
  by_cases e:i<k
  ·rw [List.getElem?_append_left (by rw [wholeZ_len]; exact e),<- Ze];exact wholeZ_at Q n k i e
  ·obtain rfl:i=k:=aO
   rw [List.getElem?_append_right (by rw [wholeZ_len]; exact Zr _),wholeZ_len,Nat.sub_self];rfl
theorem whole_mul {Q:Nat->QI} {n:Nat} (hq:∀ i,i<n->goodQ (Q i).1 (Q i).2=true) {i:Nat} (hi:i<n):iAt (wholeZ Q n n) i*(Q i).2=(Q i).1*byW Q n:=by
 rw [wholeZ_at Q n n i hi];obtain ⟨k,hk⟩:=byW_has (fun i hi=>goodQ_pos (hq i hi)) n (Zr _) i hi;have h1:=goodQ_pos (hq i hi);rw [hk,Int.mul_ediv_cancel_left _ aO];grind
theorem whole_prim {Q:Nat->QI} {n f:Nat} (hq:∀ i,i<n->goodQ (Q i).1 (Q i).2=true) (hf:f<n) (hone:Q f=(1,1)) {g:Nat} (hg:∀ i,i<n->g∣(iAt (wholeZ Q n n) i).natAbs):g=1:=by
 have hp:=byW_pos (fun i hi=>goodQ_pos (hq i hi)) n (Zr _);have h1:=whole_mul hq hf;rw [hone] at h1;simp only [Int.mul_one,Int.one_mul] at h1;have h2:=hg f hf;rw [h1] at h2;obtain ⟨B,hB⟩:=h2;have hg0:0<g:=by
  rcases Nat.eq_zero_or_pos g with h | h
  ·rw [h,Nat.zero_mul] at hB; omega
  ·exact h
 have hall:∀ i,i<n->0<(Q i).2/\(Q i).2.natAbs∣B:=fun i hi=>by
  obtain ⟨z,hz⟩:=hg i hi;have h3:=congrArg Int.natAbs (whole_mul hq hi);rw [Int.natAbs_mul,Int.natAbs_mul,hz,hB] at h3;have h4:z*(Q i).2.natAbs=(Q i).1.natAbs*B:=by
   have:g*(z*(Q i).2.natAbs)=g*((Q i).1.natAbs*B):=by grind
   exact Nat.eq_of_mul_eq_mul_left hg0 this
  obtain ⟨h5,h6⟩:=goodQ_iff.1 (hq i hi);refine ⟨h5,?_⟩;have h7:(Q i).2.natAbs∣(Q i).1.natAbs*B:=⟨z,by rw [<- h4,Nat.mul_comm]⟩;exact Nat.Coprime.dvd_of_dvd_mul_left (Nat.Coprime.symm h6) h7
 have h8:=byW_dvd hall n (Zr _);rw [hB] at h8;have hBp:0<B:=by
  rcases Nat.eq_zero_or_pos B with h | h
  ·rw [h,Nat.mul_zero] at hB; omega
  ·exact h
 have h9:=Nat.le_of_dvd hBp h8;have h10:g*B<=1*B:=aO
 have:=Nat.le_of_mul_le_mul_right h10 hBp;omega
structure KerZ (M:List (List Int)) (Z:List Int) (f:Nat):Prop where
 len:Z.length=cols M
 lt:f<cols M
 pos:0<iAt Z f
 zero:∀ k,f<k->k<cols M->iAt Z k=0
 prim:∀ g:Nat,(∀ i,i<cols M->g∣(iAt Z i).natAbs)->g=1
 rows:∀ y,y<M.length->sumF (fun c=>iAt (rAt M y) c*iAt Z c) (cols M)=0
 small:∀ k,(iAt Z k).natAbs<2^650
theorem p_065:(0:Int).natAbs<2^650:=by decide +kernel
theorem p_33:2^300<=2^300*2^300:=by decide +kernel
theorem kern_all {M:List (List Int)} (h:matCheck M=0):∃ x,FineK M x (kernF M)/\(kernF M<cols M->KerZ M (wholeZ (kernQ x (kernF M)) (cols M) (cols M)) (kernF M)):=by
 obtain ⟨hn,hk8,hw0,_⟩:=matCheck_ok h;have hw:=wide_sys hw0
 by_cases hfk0:kernF M<cols M
 ·obtain ⟨f,hf⟩:=Zx (kernF M);have hfk:=hfk0;rw [hf] at hfk ⊢;obtain ⟨π,cs,hI,hfa,h2⟩:=kern_stage hw (f:=f) hf hfk;have he:=ent_sys h;have hale:=hI.a_le;rw [hfa] at hale;have hnz:=hI.nz;have hhigh:=hI.high;have hlow:=hI.low;have hzero:=hI.zero;rw [hfa] at hnz hhigh hlow hzero;have hkeep:∀ k,k<f->rAt (runB ⟨sysL M [] M.length,1,0⟩ (cols M)).L k=rAt (runB ⟨sysL M [] M.length,1,0⟩ (f+1)).L k:=fun k hk=>by
   have:=runB_keep (s:=⟨sysL M [] M.length,1,0⟩) (Nat.zero_le _) (c:=f+1) (i:=k) (by rw [hfa]; exact hk) (cols M - (f+1));rw [show f+1+(cols M - (f+1))=cols M by omega] at this;exact this
  obtain ⟨hB,hD,hN,hDs⟩:=back_ok (L:=(runB ⟨sysL M [] M.length,1,0⟩ (cols M)).L) (O:=fun i=>rowF (sysL M [] M.length) (π i)) (cs:=cs) (f:=f) (last:=f) (wd:=cols M) aO aO hfk h2 (fun t ht=>hnz t aO) (fun k hk j hj=>by rw [hkeep k hk]; exact hhigh k hk j hj) (fun i hi c hc=>he _ (hI.perm i aO) c hc);obtain ⟨O,hO⟩:∃ O:Nat->Nat->Int,(fun i=>rowF (sysL M [] M.length) (π i))=O:=⟨_,rfl⟩;rw [hO] at hB hD hN hDs hnz hhigh hlow;obtain ⟨N,hNN⟩:=Zx (cramN f O f);obtain ⟨D,hDD⟩:=Zx (cramD f O);have hrow:∀ y,y<M.length->sumF (fun c=>N c*iAt (rAt M y) c) f=D*iAt (rAt M y) f:=fun y hy=>by
   have hyl:y<(sysL M [] M.length).length:=by rw [sysL_len]; exact hy
   obtain ⟨i,hi,rfl⟩:=hI.sur y hyl;have e:∀ j,O i j=iAt (rAt M (π i)) j:=fun j=>by
    rw [<- hO];show zAt (rAt (sysL M [] M.length) (π i)) j=_;rw [rAt_sysL M [] hy,sysR_nil];rfl
   have e2:(fun c=>N c*iAt (rAt M (π i)) c)=(fun c=>N c*O i c):=funext fun c=>by rw [e c]
   rw [e2,<- e f,<- hNN,<- hDD];refine dep_row h2 (hnz f (Zr _)) ?_
   by_cases hif:i<f
   ·
    exact minV_row hnz hif f
   ·have h3:=hlow i aO hi f hfk;have h4:=hzero i aO hi f aO;rw [h4] at h3;rw [<- hO] at h3 ⊢;exact h3.symm
  rw [hNN] at hB hN;rw [hDD] at hB hD hDs;have hQ:∀ i,i<f->kernQ (fun k=>toQ (N k) D) f i=toQ (-N i) D:=fun i hi=>by
   unfold kernQ;rw [if_pos hi,<- toQ_one 0,sub_toQ aO hD];refine toQ_eq (Int.mul_ne_zero aO hD) hD ?_;grind
  have hsm:∀ i,i<cols M->SmQ (kernQ (fun k=>toQ (N k) D) f i):=fun i hi=>by
   by_cases e:i<f
   ·rw [hQ i e];exact toQ_sm hD (sm_300 (by rw [Int.natAbs_neg]; exact hN i)) (sm_300 hDs)
   ·unfold kernQ;rw [if_neg e];split
    ·exact SmQ.int Sm.one
    ·exact SmQ.int sm_zero
  have hdv:∀ i,i<cols M->0<(kernQ (fun k=>toQ (N k) D) f i).2/\(kernQ (fun k=>toQ (N k) D) f i).2.natAbs∣D.natAbs:=fun i hi=>⟨goodQ_pos (hsm i hi).1,by
   by_cases e:i<f
   ·rw [hQ i e];exact ofD_dvd _ hD
   ·unfold kernQ;rw [if_neg e];split <;> exact ⟨_,(Nat.one_mul _).symm⟩⟩
  have hby:∀ i,i<=cols M->(byW (kernQ (fun k=>toQ (N k) D) f) i).natAbs<2^300:=fun i hi=>Nat.lt_of_le_of_lt (Nat.le_of_dvd aO (byW_dvd hdv i hi)) hDs
  refine ⟨fun k=>toQ (N k) D,fun _=>⟨rank_fine h,fun _=>⟨hB,hsm,fun i hi=>sm_300 (hby i hi)⟩⟩,fun _=>?_⟩;have hgq:∀ i,i<cols M->goodQ (kernQ (fun k=>toQ (N k) D) f i).1 (kernQ (fun k=>toQ (N k) D) f i).2=true:=fun i hi=>(hsm i hi).1
  have hone:kernQ (fun k=>toQ (N k) D) f f=(1,1):=by unfold kernQ; rw [if_neg (Nat.lt_irrefl _),if_pos rfl]
  have hzer:∀ k,f<k->kernQ (fun k=>toQ (N k) D) f k=(0,1):=fun k hk=>by unfold kernQ; rw [if_neg aO,if_neg aO]
  have hBp:=byW_pos (fun i hi=>goodQ_pos (hgq i hi)) (cols M) (Zr _);have hZf:=whole_mul hgq hfk;rw [hone] at hZf;simp only [Int.mul_one,Int.one_mul] at hZf;obtain ⟨B,hBB⟩:=Zx (byW (kernQ (fun k=>toQ (N k) D) f) (cols M));have hB3:=hby (cols M) (Zr _);obtain ⟨Z,hZZ⟩:=Zx (wholeZ (kernQ (fun k=>toQ (N k) D) f) (cols M) (cols M));have hmul:∀ i,i<cols M->iAt Z i*(kernQ (fun k=>toQ (N k) D) f i).2=(kernQ (fun k=>toQ (N k) D) f i).1*B:=fun i hi=>by rw [<- hZZ,<- hBB]; exact whole_mul hgq hi
  rw [hBB] at hZf hBp hB3;have hzl:Z.length=cols M:=by rw [<- hZZ]; exact wholeZ_len _ _ _
  have hprim:∀ g:Nat,(∀ i,i<cols M->g∣(iAt Z i).natAbs)->g=1:=fun g hg=>whole_prim hgq hfk hone (by rw [hZZ]; exact hg)
  rw [hZZ] at hZf ⊢;have hz0:∀ k,f<k->k<cols M->iAt Z k=0:=fun k h3 h4=>by
   have:=hmul k h4;rw [hzer k h3] at this;simpa using this
  have hZD:∀ i,i<f->iAt Z i*D=-N i*B:=fun i hi=>by
   have h3:=hmul i aO;have h4:=(of_spec (-N i) hD).2.1;have h5:=goodQ_pos (hgq i aO);rw [hQ i hi] at h3 h5;have h6:(toQ (-N i) D).1=ofN (-N i) D:=rfl;have h7:(toQ (-N i) D).2=ofD (-N i) D:=rfl;rw [h6,h7] at h3;rw [h7] at h5;have h8:ofD (-N i) D*(iAt Z i*D)=ofD (-N i) D*(-N i*B):=by
    have:iAt Z i*ofD (-N i) D*D=ofN (-N i) D*D*B:=by rw [h3]; grind
    rw [h4] at this;grind
   exact Int.eq_of_mul_eq_mul_left aO h8
  refine ⟨hzl,hfk,by rw [hZf]; exact hBp,hz0,hprim,fun y hy=>?_,fun k=>?_⟩
  ·have h3:=hrow y hy;have h4:=sumF_split (fun c=>iAt (rAt M y) c*iAt Z c) (f+1) (cols M - (f+1));rw [show f+1+(cols M - (f+1))=cols M by omega,sumF_zero (f:=fun i=>iAt (rAt M y) (f+1+i)*iAt Z (f+1+i)) (fun i hi=>by rw [hz0 _ aO aO,Int.mul_zero]),Int.add_zero,sumF,hZf] at h4;rw [h4];have h5:D*sumF (fun c=>iAt (rAt M y) c*iAt Z c) f=-B*sumF (fun c=>N c*iAt (rAt M y) c) f:=by
    rw [<- sumF_mul,<- sumF_mul];exact sumF_eq fun c hc=>by have:=hZD c hc; grind
   rw [h3] at h5;have h6:D*(sumF (fun c=>iAt (rAt M y) c*iAt Z c) f+iAt (rAt M y) f*B)=D*0:=by grind
   exact Int.eq_of_mul_eq_mul_left hD h6
  ·by_cases hk:k<cols M
   ·by_cases hkf:k<f
    ·have h3:=congrArg Int.natAbs (hmul k hk);rw [hQ k hkf] at h3;have h5:=goodQ_pos (hgq k hk);rw [hQ k hkf] at h5;rw [Int.natAbs_mul,Int.natAbs_mul] at h3;have h6:=(of_spec (-N k) hD).2.2.1;rw [Int.natAbs_neg] at h6;have h7:(toQ (-N k) D).1.natAbs<2^300:=Nat.lt_of_le_of_lt h6 (hN k);have h8:(iAt Z k).natAbs<=(iAt Z k).natAbs*(toQ (-N k) D).2.natAbs:=Nat.le_mul_of_pos_right _ aO;have h9:(toQ (-N k) D).1.natAbs*B.natAbs<=2^300*2^300:=by revert h7 hB3; generalize 2^300=X; exact fun hB3 h7=>Nat.mul_le_mul (Nat.le_of_lt h7) (Nat.le_of_lt hB3)
     omega
    ·by_cases e:k=f
     ·rw [e,hZf];have:2^300<=2^300*2^300:=p_33;omega
     ·rw [hz0 k aO hk];exact p_065
   ·have:iAt Z k=0:=by
     unfold iAt;rw [Ze,List.getElem?_eq_none aO];rfl
    rw [this];exact p_065
 ·obtain ⟨x,hx⟩:=kern_fine (M:=M);exact ⟨x,hx,fun h2=>absurd h2 hfk0⟩
end Go.Proofs.YtflolbnnkbdmfaaGreat
