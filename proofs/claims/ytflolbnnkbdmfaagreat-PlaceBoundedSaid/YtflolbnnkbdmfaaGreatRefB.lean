import Derived.Test.YtflolbnnkbdmfaaGreatRankC
set_option linter.all false
namespace Go.Proofs.YtflolbnnkbdmfaaGreat
theorem fact_stage {L0:List (List Int)} {wd c:Nat} (hw:Wide L0 wd) (hc:c<=wd):Fact (rowF L0) L0.length c (runB ⟨L0,1,0⟩ c).a/\∀ r,Fact (rowF L0) L0.length c r->(runB ⟨L0,1,0⟩ c).a<=r:=by
 obtain ⟨π,cs,hI⟩:=InvB.run hw c hc;obtain ⟨a,ha⟩:=Zx ((runB ⟨L0,1,0⟩ c).a);have hale:=hI.a_le;have hnz:=hI.nz;have hcol:=hI.col;have hlow:=hI.low;rw [ha] at hale hnz hcol hlow;rw [ha];refine ⟨?_,fun r hr=>hr.least (π:=π) (cs:=cs) (fun i hi=>hI.perm i aO) hcol hnz⟩;have key:∀ y,∃ cf:Nat->Int,y<L0.length->∀ j,j<c->minD a (fun i=>rowF L0 (π i)) cs*rowF L0 y j=sumF (fun t=>cf t*rowF L0 (π t) j) a:=fun y=>by
  by_cases hy:y<L0.length
  ·obtain ⟨i,hi,rfl⟩:=hI.sur y hy
   by_cases h1:i<a
   ·refine ⟨fun t=>if t=i then minD a (fun i=>rowF L0 (π i)) cs else 0,fun _ j _=>?_⟩;have e:sumF (fun t=>(if t=i then minD a (fun i=>rowF L0 (π i)) cs else 0)*rowF L0 (π t) j) a=sumF (fun t=>if t=i then minD a (fun i=>rowF L0 (π i)) cs*rowF L0 (π t) j else 0) a:=sumF_eq fun t _=>by
     by_cases e2:t=i
     ·rw [if_pos e2,if_pos e2]
     ·rw [if_neg e2,if_neg e2,Int.zero_mul]
    rw [e,sumF_one (fun t=>minD a (fun i=>rowF L0 (π i)) cs*rowF L0 (π t) j) h1]
   ·obtain ⟨γ,hγ⟩:=minV_comb a (fun i=>rowF L0 (π i)) cs (rowF L0 (π i));refine ⟨fun t=>-γ t,fun _ j hj=>?_⟩;have h2:=hlow i aO hi j aO;have h3:=hI.zero i (by rw [ha]; omega) hi j hj;rw [h3,hγ j] at h2;have h4:sumF (fun t=>-γ t*rowF L0 (π t) j) a=-sumF (fun t=>γ t*rowF L0 (π t) j) a:=by
     rw [<- sumF_neg];exact sumF_eq fun t _=>by grind
    rw [h4];omega
  ·exact ⟨fun _=>0,fun h=>absurd h hy⟩
 exact ⟨minD a (fun i=>rowF L0 (π i)) cs,fun y=>Classical.choose (key y),fun t=>rowF L0 (π t),hnz a (Zr _),fun y hy j hj=>Classical.choose_spec (key y) hy j hj⟩
theorem minV_row {O:Nat->Nat->Int} {cs:Nat->Nat} {a i:Nat} (hnz:∀ t,t<=a->minD t O cs≠0) (hi:i<a) (j:Nat):minV a O cs (O i) j=0:=by
 obtain ⟨γ,hγ⟩:=minV_comb a O cs (O i);have h1:∀ j,sumF (fun t=>((if t=i then minD a O cs else 0)+γ t)*O t j) a=minV a O cs (O i) j:=fun j=>by
  have e:sumF (fun t=>((if t=i then minD a O cs else 0)+γ t)*O t j) a=sumF (fun t=>if t=i then minD a O cs*O t j else 0) a+sumF (fun t=>γ t*O t j) a:=by
   rw [<- sumF_add];refine sumF_eq fun t _=>?_
   by_cases e2:t=i
   ·rw [if_pos e2,if_pos e2]; grind
   ·rw [if_neg e2,if_neg e2]; grind
  rw [e,sumF_one (fun t=>minD a O cs*O t j) hi,hγ j]
 have h2:=indep hnz (fun t=>(if t=i then minD a O cs else 0)+γ t) (fun t ht=>by rw [h1,minV_zero ht]);rw [<- h1 j];exact sumF_zero fun t ht=>by rw [h2 t ht,Int.zero_mul]
theorem byW_pos {Q:Nat->QI} {n:Nat} (hq:∀ i,i<n->0<(Q i).2):∀ i,i<=n->0<byW Q i
 | 0,_=>by unfold byW; omega
 | i+1,h=>by
  have ih:=byW_pos hq i aO;have h1:=hq i aO;rw [byW];have h2:Nat.gcd (byW Q i).natAbs (Q i).2.natAbs∣(Q i).2.natAbs:=Nat.gcd_dvd_right _ _;have h3:0<Nat.gcd (byW Q i).natAbs (Q i).2.natAbs:=Nat.gcd_pos_of_pos_right _ aO;obtain ⟨k,hk⟩:=h2;have e:(Q i).2=((Nat.gcd (byW Q i).natAbs (Q i).2.natAbs:Nat):Int)*(k:Int):=by
   rw [<- Int.natCast_mul,<- hk]; omega
  have h4:(Q i).2 / ((Nat.gcd (byW Q i).natAbs (Q i).2.natAbs:Nat):Int)=(k:Int):=by
   conv=>lhs; lhs; rw [e]
   exact Int.mul_ediv_cancel_left _ aO
  rw [h4];have hk0:0<k:=by
   rcases Nat.eq_zero_or_pos k with h5 | h5
   ·rw [h5,Nat.mul_zero] at hk; omega
   ·exact h5
  exact Int.mul_pos ih aO
theorem byW_step {Q:Nat->QI} {i:Nat} (h0:0<byW Q i) (h1:0<(Q i).2):(byW Q i)∣(byW Q (i+1))/\(Q i).2∣byW Q (i+1):=by
 rw [byW];refine ⟨Int.dvd_mul_right _ _,?_⟩;obtain ⟨g,hg⟩:=Zx (Nat.gcd (byW Q i).natAbs (Q i).2.natAbs);have hd1:g∣(byW Q i).natAbs:=by rw [<- hg]; exact Nat.gcd_dvd_left _ _
 have hd2:g∣(Q i).2.natAbs:=by rw [<- hg]; exact Nat.gcd_dvd_right _ _
 have hgp:0<g:=by rw [<- hg]; exact Nat.gcd_pos_of_pos_right _ aO
 rw [hg];obtain ⟨a,ha⟩:=hd1;obtain ⟨b,hb⟩:=hd2;have ea:byW Q i=(g:Int)*(a:Int):=by rw [<- Int.natCast_mul,<- ha]; omega
 have eb:(Q i).2=(g:Int)*(b:Int):=by rw [<- Int.natCast_mul,<- hb]; omega
 rw [ea,eb,Int.mul_ediv_cancel_left _ aO];exact ⟨(a:Int),by grind⟩
theorem byW_has {Q:Nat->QI} {n:Nat} (hq:∀ i,i<n->0<(Q i).2):∀ i,i<=n->∀ j,j<i->(Q j).2∣byW Q i
 | 0,_,j,hj=>absurd hj (Nat.not_lt_zero j)
 | i+1,h,j,hj=>by
  obtain ⟨h1,h2⟩:=byW_step (byW_pos hq i aO) (hq i aO)
  by_cases e:j=i
  ·subst e; exact h2
  ·exact Int.dvd_trans (byW_has hq i aO j aO) h1
theorem wholeZ_at (Q:Nat->QI) (n:Nat):∀ k i,i<k->iAt (wholeZ Q n k) i=(Q i).1*(byW Q n / (Q i).2)
 | 0,i,h=>absurd h (Nat.not_lt_zero i)
 | k+1,i,h=>by
  unfold iAt;rw [wholeZ,Ze]
  by_cases e:i<k
  ·rw [List.getElem?_append_left (by rw [wholeZ_len]; exact e),<- Ze];exact wholeZ_at Q n k i e
  ·obtain rfl:i=k:=aO
   rw [List.getElem?_append_right (by rw [wholeZ_len]; exact Zr _),wholeZ_len,Nat.sub_self];rfl
theorem whole_mul {Q:Nat->QI} {n:Nat} (hq:∀ i,i<n->goodQ (Q i).1 (Q i).2=true) {i:Nat} (hi:i<n):iAt (wholeZ Q n n) i*(Q i).2=(Q i).1*byW Q n:=by
 rw [wholeZ_at Q n n i hi];obtain ⟨k,hk⟩:=byW_has (fun i hi=>goodQ_pos (hq i hi)) n (Zr _) i hi;have h1:=goodQ_pos (hq i hi);rw [hk,Int.mul_ediv_cancel_left _ aO];grind
theorem whole_prim {Q:Nat->QI} {n f:Nat} (hq:∀ i,i<n->goodQ (Q i).1 (Q i).2=true) (hf:f<n) (hone:Q f=(1,1)) {g:Nat} (hg:∀ i,i<n->g∣(iAt (wholeZ Q n n) i).natAbs):g=1:=by
 have hp:=byW_pos (fun i hi=>goodQ_pos (hq i hi)) n (Zr _);have h1:=whole_mul hq hf;rw [hone] at h1;simp only [Int.mul_one,Int.one_mul] at h1;have h2:=hg f hf;rw [h1] at h2;obtain ⟨B,hB⟩:=h2;have hg0:0<g:=by
  rcases Nat.eq_zero_or_pos g with h | h
  ·rw [h,Nat.zero_mul] at hB; omega
  ·exact h
 have hall:∀ i,i<n->0<(Q i).2/\(Q i).2.natAbs∣B:=fun i hi=>by
  obtain ⟨z,hz⟩:=hg i hi;have h3:=congrArg Int.natAbs (whole_mul hq hi);rw [Int.natAbs_mul,Int.natAbs_mul,hz,hB] at h3;have h4:z*(Q i).2.natAbs=(Q i).1.natAbs*B:=by
   have:g*(z*(Q i).2.natAbs)=g*((Q i).1.natAbs*B):=by grind
   exact Nat.eq_of_mul_eq_mul_left hg0 this
  obtain ⟨h5,h6⟩:=goodQ_iff.1 (hq i hi);refine ⟨h5,?_⟩;have h7:(Q i).2.natAbs∣(Q i).1.natAbs*B:=⟨z,by rw [<- h4,Nat.mul_comm]⟩;exact Nat.Coprime.dvd_of_dvd_mul_left (Nat.Coprime.symm h6) h7
 have h8:=byW_dvd hall n (Zr _);rw [hB] at h8;have hBp:0<B:=by
  rcases Nat.eq_zero_or_pos B with h | h
  ·rw [h,Nat.mul_zero] at hB; omega
  ·exact h
 have h9:=Nat.le_of_dvd hBp h8;have h10:g*B<=1*B:=aO
 have:=Nat.le_of_mul_le_mul_right h10 hBp;omega
structure KerZ (M:List (List Int)) (Z:List Int) (f:Nat):Prop where
 len:Z.length=cols M
 lt:f<cols M
 pos:0<iAt Z f
 zero:∀ k,f<k->k<cols M->iAt Z k=0
 prim:∀ g:Nat,(∀ i,i<cols M->g∣(iAt Z i).natAbs)->g=1
 rows:∀ y,y<M.length->sumF (fun c=>iAt (rAt M y) c*iAt Z c) (cols M)=0
 small:∀ k,(iAt Z k).natAbs<2^650
theorem p_065:(0:Int).natAbs<2^650:=by decide +kernel
theorem p_33:2^300<=2^300*2^300:=by decide +kernel
theorem kern_all {M:List (List Int)} (h:matCheck M=0):∃ x,FineK M x (kernF M)/\(kernF M<cols M->KerZ M (wholeZ (kernQ x (kernF M)) (cols M) (cols M)) (kernF M)):=by
 obtain ⟨hn,hk8,hw0,_⟩:=matCheck_ok h;have hw:=wide_sys hw0
 by_cases hfk0:kernF M<cols M
 ·obtain ⟨f,hf⟩:=Zx (kernF M);have hfk:=hfk0;rw [hf] at hfk ⊢;obtain ⟨π,cs,hI,hfa,h2⟩:=kern_stage hw (f:=f) hf hfk;have he:=ent_sys h;have hale:=hI.a_le;rw [hfa] at hale;have hnz:=hI.nz;have hhigh:=hI.high;have hlow:=hI.low;have hzero:=hI.zero;rw [hfa] at hnz hhigh hlow hzero;have hkeep:∀ k,k<f->rAt (runB ⟨sysL M [] M.length,1,0⟩ (cols M)).L k=rAt (runB ⟨sysL M [] M.length,1,0⟩ (f+1)).L k:=fun k hk=>by
   have:=runB_keep (s:=⟨sysL M [] M.length,1,0⟩) (Nat.zero_le _) (c:=f+1) (i:=k) (by rw [hfa]; exact hk) (cols M - (f+1));rw [show f+1+(cols M - (f+1))=cols M by omega] at this;exact this
  obtain ⟨hB,hD,hN,hDs⟩:=back_ok (L:=(runB ⟨sysL M [] M.length,1,0⟩ (cols M)).L) (O:=fun i=>rowF (sysL M [] M.length) (π i)) (cs:=cs) (f:=f) (last:=f) (wd:=cols M) aO aO hfk h2 (fun t ht=>hnz t aO) (fun k hk j hj=>by rw [hkeep k hk]; exact hhigh k hk j hj) (fun i hi c hc=>he _ (hI.perm i aO) c hc);obtain ⟨O,hO⟩:∃ O:Nat->Nat->Int,(fun i=>rowF (sysL M [] M.length) (π i))=O:=⟨_,rfl⟩;rw [hO] at hB hD hN hDs hnz hhigh hlow;obtain ⟨N,hNN⟩:=Zx (cramN f O f);obtain ⟨D,hDD⟩:=Zx (cramD f O);have hrow:∀ y,y<M.length->sumF (fun c=>N c*iAt (rAt M y) c) f=D*iAt (rAt M y) f:=fun y hy=>by
   have hyl:y<(sysL M [] M.length).length:=by rw [sysL_len]; exact hy
   obtain ⟨i,hi,rfl⟩:=hI.sur y hyl;have e:∀ j,O i j=iAt (rAt M (π i)) j:=fun j=>by
    rw [<- hO];show zAt (rAt (sysL M [] M.length) (π i)) j=_;rw [rAt_sysL M [] hy,sysR_nil];rfl
   have e2:(fun c=>N c*iAt (rAt M (π i)) c)=(fun c=>N c*O i c):=funext fun c=>by rw [e c]
   rw [e2,<- e f,<- hNN,<- hDD];refine dep_row h2 (hnz f (Zr _)) ?_
   by_cases hif:i<f
   ·
    exact minV_row hnz hif f
   ·have h3:=hlow i aO hi f hfk;have h4:=hzero i aO hi f aO;rw [h4] at h3;rw [<- hO] at h3 ⊢;exact h3.symm
  rw [hNN] at hB hN;rw [hDD] at hB hD hDs;have hQ:∀ i,i<f->kernQ (fun k=>toQ (N k) D) f i=toQ (-N i) D:=fun i hi=>by
   unfold kernQ;rw [if_pos hi,<- toQ_one 0,sub_toQ aO hD];refine toQ_eq (Int.mul_ne_zero aO hD) hD ?_;grind
  have hsm:∀ i,i<cols M->SmQ (kernQ (fun k=>toQ (N k) D) f i):=fun i hi=>by
   by_cases e:i<f
   ·rw [hQ i e];exact toQ_sm hD (sm_300 (by rw [Int.natAbs_neg]; exact hN i)) (sm_300 hDs)
   ·unfold kernQ;rw [if_neg e];split
    ·exact SmQ.int Sm.one
    ·exact SmQ.int sm_zero
  have hdv:∀ i,i<cols M->0<(kernQ (fun k=>toQ (N k) D) f i).2/\(kernQ (fun k=>toQ (N k) D) f i).2.natAbs∣D.natAbs:=fun i hi=>⟨goodQ_pos (hsm i hi).1,by
   by_cases e:i<f
   ·rw [hQ i e];exact ofD_dvd _ hD
   ·unfold kernQ;rw [if_neg e];split <;> exact ⟨_,(Nat.one_mul _).symm⟩⟩
  have hby:∀ i,i<=cols M->(byW (kernQ (fun k=>toQ (N k) D) f) i).natAbs<2^300:=fun i hi=>Nat.lt_of_le_of_lt (Nat.le_of_dvd aO (byW_dvd hdv i hi)) hDs
  refine ⟨fun k=>toQ (N k) D,fun _=>⟨rank_fine h,fun _=>⟨hB,hsm,fun i hi=>sm_300 (hby i hi)⟩⟩,fun _=>?_⟩;have hgq:∀ i,i<cols M->goodQ (kernQ (fun k=>toQ (N k) D) f i).1 (kernQ (fun k=>toQ (N k) D) f i).2=true:=fun i hi=>(hsm i hi).1
  have hone:kernQ (fun k=>toQ (N k) D) f f=(1,1):=by unfold kernQ; rw [if_neg (Nat.lt_irrefl _),if_pos rfl]
  have hzer:∀ k,f<k->kernQ (fun k=>toQ (N k) D) f k=(0,1):=fun k hk=>by unfold kernQ; rw [if_neg aO,if_neg aO]
  have hBp:=byW_pos (fun i hi=>goodQ_pos (hgq i hi)) (cols M) (Zr _);have hZf:=whole_mul hgq hfk;rw [hone] at hZf;simp only [Int.mul_one,Int.one_mul] at hZf;obtain ⟨B,hBB⟩:=Zx (byW (kernQ (fun k=>toQ (N k) D) f) (cols M));have hB3:=hby (cols M) (Zr _);obtain ⟨Z,hZZ⟩:=Zx (wholeZ (kernQ (fun k=>toQ (N k) D) f) (cols M) (cols M));have hmul:∀ i,i<cols M->iAt Z i*(kernQ (fun k=>toQ (N k) D) f i).2=(kernQ (fun k=>toQ (N k) D) f i).1*B:=fun i hi=>by rw [<- hZZ,<- hBB]; exact whole_mul hgq hi
  rw [hBB] at hZf hBp hB3;have hzl:Z.length=cols M:=by rw [<- hZZ]; exact wholeZ_len _ _ _
  have hprim:∀ g:Nat,(∀ i,i<cols M->g∣(iAt Z i).natAbs)->g=1:=fun g hg=>whole_prim hgq hfk hone (by rw [hZZ]; exact hg)
  rw [hZZ] at hZf ⊢;have hz0:∀ k,f<k->k<cols M->iAt Z k=0:=fun k h3 h4=>by
   have:=hmul k h4;rw [hzer k h3] at this;simpa using this
  have hZD:∀ i,i<f->iAt Z i*D=-N i*B:=fun i hi=>by
   have h3:=hmul i aO;have h4:=(of_spec (-N i) hD).2.1;have h5:=goodQ_pos (hgq i aO);rw [hQ i hi] at h3 h5;have h6:(toQ (-N i) D).1=ofN (-N i) D:=rfl;have h7:(toQ (-N i) D).2=ofD (-N i) D:=rfl;rw [h6,h7] at h3;rw [h7] at h5;have h8:ofD (-N i) D*(iAt Z i*D)=ofD (-N i) D*(-N i*B):=by
    have:iAt Z i*ofD (-N i) D*D=ofN (-N i) D*D*B:=by rw [h3]; grind
    rw [h4] at this;grind
   exact Int.eq_of_mul_eq_mul_left aO h8
  refine ⟨hzl,hfk,by rw [hZf]; exact hBp,hz0,hprim,fun y hy=>?_,fun k=>?_⟩
  ·have h3:=hrow y hy;have h4:=sumF_split (fun c=>iAt (rAt M y) c*iAt Z c) (f+1) (cols M - (f+1));rw [show f+1+(cols M - (f+1))=cols M by omega,sumF_zero (f:=fun i=>iAt (rAt M y) (f+1+i)*iAt Z (f+1+i)) (fun i hi=>by rw [hz0 _ aO aO,Int.mul_zero]),Int.add_zero,sumF,hZf] at h4;rw [h4];have h5:D*sumF (fun c=>iAt (rAt M y) c*iAt Z c) f=-B*sumF (fun c=>N c*iAt (rAt M y) c) f:=by
    rw [<- sumF_mul,<- sumF_mul];exact sumF_eq fun c hc=>by have:=hZD c hc; grind
   rw [h3] at h5;have h6:D*(sumF (fun c=>iAt (rAt M y) c*iAt Z c) f+iAt (rAt M y) f*B)=D*0:=by grind
   exact Int.eq_of_mul_eq_mul_left hD h6
  ·by_cases hk:k<cols M
   ·by_cases hkf:k<f
    ·have h3:=congrArg Int.natAbs (hmul k hk);rw [hQ k hkf] at h3;have h5:=goodQ_pos (hgq k hk);rw [hQ k hkf] at h5;rw [Int.natAbs_mul,Int.natAbs_mul] at h3;have h6:=(of_spec (-N k) hD).2.2.1;rw [Int.natAbs_neg] at h6;have h7:(toQ (-N k) D).1.natAbs<2^300:=Nat.lt_of_le_of_lt h6 (hN k);have h8:(iAt Z k).natAbs<=(iAt Z k).natAbs*(toQ (-N k) D).2.natAbs:=Nat.le_mul_of_pos_right _ aO;have h9:(toQ (-N k) D).1.natAbs*B.natAbs<=2^300*2^300:=by revert h7 hB3; generalize 2^300=X; exact fun hB3 h7=>Nat.mul_le_mul (Nat.le_of_lt h7) (Nat.le_of_lt hB3)
     omega
    ·by_cases e:k=f
     ·rw [e,hZf];have:2^300<=2^300*2^300:=p_33;omega
     ·rw [hz0 k aO hk];exact p_065
   ·have:iAt Z k=0:=by
     unfold iAt;rw [Ze,List.getElem?_eq_none aO];rfl
    rw [this];exact p_065
 ·obtain ⟨x,hx⟩:=kern_fine (M:=M);exact ⟨x,hx,fun h2=>absurd h2 hfk0⟩
end Go.Proofs.YtflolbnnkbdmfaaGreat
namespace Go.Proofs.YtflolbnnkbdmfaaGreat
open Go.RowKit
set_option maxHeartbeats 8000000
set_option maxRecDepth 100000
theorem anyF_no {p:Nat->Bool} {n:Nat} (h:∀ k,k<n->p k=false):anyF p n=false:=by
 induction n with
 | zero=>rfl
 | succ n ih=>rw [anyF,ih (fun k hk=>h k aO),h n aO]; rfl
end Go.Proofs.YtflolbnnkbdmfaaGreat
namespace Go.Proofs.YtflolbnnkbdmfaaGreat
theorem inc_id {cs:Nat->Nat} {n:Nat} (hc:∀ t,t<n->cs t<n) (hi:∀ t u,t<u->u<n->cs t<cs u):∀ t,t<n->cs t=t:=by
 have lo:∀ t,t<n->t<=cs t:=by
  intro t
  induction t with
  | zero=>intro _; exact Nat.zero_le _
  | succ t ih =>
   intro ht;have:=ih aO;have:=hi t (t+1) aO ht;omega
 have hi2:∀ d t,t+d<n->cs t+d<=cs (t+d):=by
  intro d
  induction d with
  | zero=>intro t _; exact Zr _
  | succ d ih =>
   intro t ht;have:=ih t aO;have:=hi (t+d) (t+(d+1)) aO ht;omega
 intro t ht;have h1:=lo t ht;have h2:=hi2 (n - 1 - t) t aO;rw [show t+(n - 1 - t)=n - 1 by omega] at h2;have h3:=hc (n - 1) aO;omega
def rankA (M:List (List Int)) (k:Nat):Nat:=(runB ⟨sysL M [] M.length,1,0⟩ k).a
theorem rankA_step (M:List (List Int)) (k:Nat):rankA M k<=rankA M (k+1)/\rankA M (k+1)<=rankA M k+1:=by
 have:=stepB_a (runB ⟨sysL M [] M.length,1,0⟩ k) k;unfold rankA;rw [runB];omega
theorem rankA_le (M:List (List Int)):∀ k,rankA M k<=k
 | 0=>Zr _
 | k+1=>by have:=rankA_le M k; have:=(rankA_step M k).2; omega
theorem rankA_add (M:List (List Int)) (k:Nat):∀ d,rankA M k<=rankA M (k+d)/\rankA M (k+d)<=rankA M k+d
 | 0=>⟨Zr _,Zr _⟩
 | d+1=>by have:=rankA_add M k d; have:=rankA_step M (k+d); rw [<- Nat.add_assoc]; omega
theorem rowF_sys {M:List (List Int)} {i:Nat} (hi:i<M.length) (j:Nat):rowF (sysL M [] M.length) i j=iAt (rAt M i) j:=by
 unfold rowF;rw [rAt_sysL M [] hi,sysR_nil];rfl
theorem rank_part {M P:List (List Int)} {k:Nat} (h:matCheck M=0) (hP:matCheck P=0) (hl:P.length=M.length) (hc:cols P=k) (hk:k<=cols M) (e:∀ i,i<M.length->∀ j,j<k->iAt (rAt P i) j=iAt (rAt M i) j):rankZ P=rankA M k:=by
 obtain ⟨_,_,h3,_⟩:=matCheck_ok h;obtain ⟨a1,a2⟩:=rankZ_fact hP;obtain ⟨b1,b2⟩:=fact_stage (wide_sys h3) hk;rw [sysL_len] at b1 b2;rw [hl,hc] at a1 a2;refine Nat.le_antisymm (a2 _ ?_) (b2 _ ?_)
 ·exact b1.congr fun i hi j hj=>by rw [rowF_sys hi,e i hi j hj]
 ·exact a1.congr fun i hi j hj=>by rw [rowF_sys hi,e i hi j hj]
theorem rankZ_A {M:List (List Int)} (h:matCheck M=0):rankZ M=rankA M (cols M):=rank_part h h rfl rfl (Zr _) fun _ _ _ _=>rfl
theorem kernF_le {M:List (List Int)} (h:matCheck M=0):kernF M<=cols M:=by
 obtain ⟨_,_,h3,_⟩:=matCheck_ok h;obtain ⟨π,cs,hI,hl⟩:=InvB.run2 (wide_sys h3) (cols M) (Zr _);obtain ⟨g1,_,_⟩:=firstF_range cs (rankA M (cols M));have e:kernF M=firstF ((List.range (rankA M (cols M))).map (fun t=>(cs t,t))):=by unfold kernF rankA; rw [hl]
 have:=rankA_le M (cols M);omega
theorem rankA_first {M:List (List Int)} (h:matCheck M=0) {k:Nat} (hk:k<=cols M):rankA M k<k↔kernF M<k:=by
 obtain ⟨_,_,h3,_⟩:=matCheck_ok h;have hw:=wide_sys h3;have hle:=kernF_le h;obtain ⟨f,hf⟩:=Zx (kernF M);rw [hf] at hle ⊢;have hlow:∀ k,k<=f->rankA M k=k:=fun k hkf=>by
  rcases Nat.lt_or_ge f (cols M) with h1 | h1
  ·obtain ⟨π,cs,hI,hfa,h2⟩:=kern_stage hw (f:=f) hf h1;obtain ⟨b1,b2⟩:=fact_stage hw (c:=k) aO;have hnz:=hI.nz;have hale:=hI.a_le;rw [hfa] at hnz hale;have:=b1.least (π:=π) (cs:=cs) (p:=k) (fun i hi=>hI.perm i aO) (fun t ht=>by rw [h2 t aO]; exact ht) (fun t ht=>hnz t aO);have h5:=rankA_le M k;unfold rankA at h5 ⊢;omega
  ·obtain ⟨π,cs,hI,hl⟩:=InvB.run2 hw (cols M) (Zr _);obtain ⟨g1,_,_⟩:=firstF_range cs (rankA M (cols M));have e:kernF M=firstF ((List.range (rankA M (cols M))).map (fun t=>(cs t,t))):=by unfold kernF rankA; rw [hl]
   have h5:=(rankA_add M k (cols M - k)).2;rw [show k+(cols M - k)=cols M by omega] at h5;have:=rankA_le M k;omega
 constructor
 ·intro h1;apply Classical.byContradiction;intro h2;rw [hlow k aO] at h1;omega
 ·intro h1;obtain ⟨π,cs,hI,hfa,h2⟩:=kern_stage hw (f:=f) hf aO;have h5:=(rankA_add M (f+1) (k - (f+1))).2;rw [show f+1+(k - (f+1))=k by omega] at h5;have h6:rankA M (f+1)=f:=hfa;omega
theorem rank_kern {M:List (List Int)} (h:matCheck M=0):kernF M<cols M↔rankZ M<cols M:=by
 rw [rankZ_A h];exact (rankA_first h (Zr _)).symm
theorem rankZ_le {M:List (List Int)} (h:matCheck M=0):rankZ M<=cols M/\rankZ M<=M.length:=by
 refine ⟨by rw [rankZ_A h]; exact rankA_le M _,?_⟩;obtain ⟨_,b⟩:=rankZ_fact h;refine b _ ⟨1,fun i t=>if t=i then 1 else 0,fun t j=>iAt (rAt M t) j,aO,fun i hi j hj=>?_⟩;have e:sumF (fun t=>(if t=i then (1:Int) else 0)*iAt (rAt M t) j) M.length=sumF (fun t=>if t=i then iAt (rAt M t) j else 0) M.length:=sumF_eq fun t _=>by
  by_cases e2:t=i
  ·rw [if_pos e2,if_pos e2,Int.one_mul]
  ·rw [if_neg e2,if_neg e2,Int.zero_mul]
 rw [e,sumF_one (fun t=>iAt (rAt M t) j) hi,Int.one_mul]
end Go.Proofs.YtflolbnnkbdmfaaGreat
namespace Go.Proofs.YtflolbnnkbdmfaaGreat
open Go.RowKit
set_option maxHeartbeats 8000000
set_option maxRecDepth 100000
theorem ref1_trim {w:World} {A:Option Addr} {n:Nat} {D:List Nat} (c:Nat) (hv:DigsAt w A n D) (hnc:n<=c) (hc:c<=9223372036854775807) :
 Calls Tryz.prog 194 #[.slice A n c] w fun e w'=>e = .returned (.slice A (trimN D n) c)/\Below w.heap.size w w':=by
 have HV:=Zh hv;clear hv;go_enter Tryz.func194,Tryz.ntmps194;go_wp2;have hw:=Zb w.heap.size w;go_loopw [3] (fun s wr=>∃ k:Nat,k<=n/\s = .int .i64 k/\trimN D k=trimN D n/\Below w.heap.size w wr) (fun s _=>(intOf s).toNat)
 case atStart=>exact ⟨n,Zr _,rfl,rfl,hw⟩
 case round =>
  clear hw;obtain ⟨k,hk,rfl,ht,hw⟩:=hrel;have HT:=Zh ht;clear ht;have hkm:(k:Int)<=9223372036854775807:=aO
  by_cases hk0:k=0
  ·subst hk0;go_wp2;go_ret;exact ⟨by rw [<- HT.out,trimN_zero]; rfl,hw⟩
  ·obtain ⟨j,hj⟩:∃ j,j+1=k:=⟨k - 1,aO⟩;have HJ:=Zh hj;have hj1:(0:Int)<(k:Int):=aO
   have hj2:(k:Int) - 1=(j:Int):=aO
   have hj3:(j:Int)<(n:Int):=aO
   have hkc:(k:Int)<=(c:Int):=aO
   obtain ⟨d,hd⟩:=Zx (dAt D j);obtain ⟨b,off,hA,hb,a1⟩:=(HV.out.below hw).cells (show j<n by omega) hd;subst hA
   by_cases h0:d=0
   ·subst h0;have HT2:=Zh (show trimN D j=trimN D n by rw [<- HT.out,<- hj,trimN_yes hd]);clear hd HT hj hk0;go_wp2;go_roundw
    case rel=>exact ⟨j,by have:=HJ.out; omega,rfl,HT2.out,hw⟩
    case measure=>have:=HJ.out; simp [intOf]; omega
   ·have hdi:¬ (d:Int)=0:=aO
    have HT2:=Zh (show k=trimN D n by rw [<- HT.out,<- hj,trimN_no (by rw [hd]; exact h0)]);clear hd HT h0 hj hk0;go_wp2;go_ret;exact ⟨by rw [<- HT2.out]; rfl,hw⟩
theorem ref1_digits {w:World} (m:Nat) (hm:m<18446744073709551616) :
 Calls Tryz.prog 120 #[.int .u64 m] w fun r w'=>NewD w m r w'/\Below w.heap.size w w':=by
 obtain ⟨lo,hlo⟩:=Zx (m%4294967296);obtain ⟨hi,hhi⟩:=Zx (m / 4294967296);have hlo1:lo<4294967296:=aO
 have hhi1:hi<4294967296:=aO
 have hc1:IntKind.u32.wrap (m:Int)=(lo:Int):=by rw [IntKind.wrap_u32]; omega
 have hc2:(m:Int) / 4294967296=(hi:Int):=aO
 have hc3:IntKind.u32.wrap (hi:Int)=(hi:Int):=by rw [IntKind.wrap_u32]; omega
 have HM:=Zh (Zi hlo hhi);have hW:=(Zb w.heap.size w).alloc (Zr _) (.cells #[.int .u32 lo,.int .u32 hi] 230);have oD:OwnD (w.alloc (.cells #[.int .u32 lo,.int .u32 hi] 230)) w.heap.size [lo,hi]:=Own.new aS;have hD:=oD.digs (fun d hd=>by
  simp at hd;rcases hd with rfl | rfl <;> assumption)
 have HT:=Zh (ref1_trim 2 hD (Zr _) aO);have HD:=Zh hD;clear oD hD hlo hhi;go_enter Tryz.func120,Tryz.ntmps120;go_wp2_with fail;generalize (w.alloc (.cells #[.int .u32 lo,.int .u32 hi] 230))=W0 at *;refine Zd HT.out ?_;rintro e w2 ⟨rfl,hb⟩;have hw:=hW.trans (hb.mono hW.size);have hd:=HD.out.below hb;have hlt:=Zl (by obtain ⟨b,off,e,h,_⟩:=HD.out.row aS; cases e; exact h) hb.size;have HH:=Zh (Zi hd hlt);clear HT HD hb hd hlt;go_wp2;go_ret;exact ⟨NewD.of HH.out.1 aS (by rw [vD_cons,vD_cons,vD_nil]; have:=HM.out; omega) HH.out.2,hw⟩
theorem sameRaw {s1 s2:Bool} {D1 D2:List Nat} (h:¬ (s1=s2/\D1.length=D2.length)):decide (s1=s2/\D1=D2)=false:=
 decide_eq_false fun ⟨a,b⟩=>h ⟨a,by rw [b]⟩
theorem ref1_Same {w:World} {v1 v2:Value} {s1 s2:Bool} {D1 D2:List Nat} (h1:RawAt w v1 s1 D1) (h2:RawAt w v2 s2 D2) :
 Calls Tryz.prog 85 #[v1,v2] w fun r w'=>r = .returned (.bool (decide (s1=s2/\D1=D2)))/\Below w.heap.size w w':=by
 obtain ⟨A1,n1,c1,rfl,hc1,hm1,d1⟩:=h1;obtain ⟨A2,n2,c2,rfl,hc2,hm2,d2⟩:=h2;have hl1:=d1.len;have hl2:=d2.len;have hW:=(((Zb w.heap.size w).alloc (Zr _) (.cells #[.bool s1,.slice A1 n1 c1] 40)).alloc aS (.cells #[.bool s2,.slice A2 n2 c2] 40));have o2:Own ((w.alloc (.cells #[.bool s1,.slice A1 n1 c1] 40)).alloc (.cells #[.bool s2,.slice A2 n2 c2] 40)) w.heap.size #[.bool s1,.slice A1 n1 c1]:=aOwn;have o3:Own ((w.alloc (.cells #[.bool s1,.slice A1 n1 c1] 40)).alloc (.cells #[.bool s2,.slice A2 n2 c2] 40)) (w.heap.size+1) #[.bool s2,.slice A2 n2 c2]:=aOwn
 by_cases hs:s1=s2
 ·by_cases hn:n1=n2
  ·subst hs;subst hn;have hsb:(s1==s1)=true:=by cases s1 <;> rfl
   obtain ⟨o,ho⟩:=Zx (decide (s1=s1/\D1=D2));rw [ho];have hnm:(n1:Int)<=9223372036854775807:=aO
   have HL:=Zh (Zi hl1 (Zi hl2 ho));have H1:=Zh d1;have H2:=Zh d2;clear d1 d2 hl1 hl2 ho;go_enter Tryz.func85,Tryz.ntmps85;go_wp2;generalize ((w.alloc (.cells #[.bool s1,.slice A1 n1 c1] 40)).alloc (.cells #[.bool s1,.slice A2 n1 c2] 40))=W0 at *;go_loopw [5] (fun i wr=>∃ k:Nat,k<=n1/\i = .int .i64 k/\(∀ i,i<k->dAt D1 i=dAt D2 i)/\Below w.heap.size w wr/\Own wr w.heap.size #[.bool s1,.slice A1 n1 c1]/\Own wr (w.heap.size+1) #[.bool s1,.slice A2 n1 c2]) (fun i _=>n1 - (intOf i).toNat)
   case atStart=>exact ⟨0,Nat.zero_le _,rfl,fun i a=>aO,hW,o2,o3⟩
   case round =>
    clear hW o2 o3;obtain ⟨k,hk,rfl,hall,hw,o2,o3⟩:=hrel;have HA:=Zh hall;clear hall;have o2c:=o2.cell
    by_cases hkn:k<n1
    ·have hkni:(k:Int)<(n1:Int):=aO
     obtain ⟨d,hd⟩:=Zx (dAt D1 k);obtain ⟨e,he⟩:=Zx (dAt D2 k);obtain ⟨b,off,hA,hb,a1⟩:=(H1.out.below hw).cells hkn hd;obtain ⟨b2,off2,hA2,hb2,a2⟩:=(H2.out.below hw).cells hkn he;subst hA;subst hA2;have HD:=Zh (Zi hd he);clear hd he;go_wp2
     by_cases heq:d=e
     ·subst heq;refine region_late 11 [] aK aK (by rfl) ?_;apply Zs;refine ⟨fun v hv hne=>?_,fun u hu=>?_⟩
      ·simp only [TK];have f1:=fun x:Later [] wr v=>(x.cell b (off+k) hb aS).trans a1
       have f2:=fun x:Later [] wr v=>(x.cell b2 (off2+k) hb2 aS).trans a2
       have g1:=fun x=>(o2.later (v:=v) (T:=[]) aS x).cell
       have g2:=fun x=>(o3.later (v:=v) (T:=[]) aS x).cell
       exact qz
      ·simp only [TK];refine late_nil ?_
       (try simp only [LN])
       have hw2:=hw.trans (hu.mono hw.size);have p2:=o2.below hu;have p3:=o3.below hu;clear o2 o3 o2c;go_wp2;go_roundw
       case rel=>exact ⟨k+1,aO,by go_num,fun i a=>by
        rcases Nat.eq_or_lt_of_le (Nat.lt_succ_iff.1 a) with h | h
        ·rw [h,HD.out.1,HD.out.2]
        ·exact HA.out i h,hw2,p2,p3⟩
       case measure=>simp [intOf]; omega
     ·have hbe:((d:Int)==(e:Int))=false:=aT
      have hof:o=false:=by
       rw [<- HL.out.2.2];refine decide_eq_false fun ⟨_,h⟩=>heq ?_
       rw [<- HD.out.1,<- HD.out.2,h]
      subst hof;refine region_late 11 [] aK aK (by rfl) ?_;apply Zs;refine ⟨fun v hv hne=>?_,fun u hu=>?_⟩
      ·simp only [TK];have f1:=fun x:Later [] wr v=>(x.cell b (off+k) hb aS).trans a1
       have f2:=fun x:Later [] wr v=>(x.cell b2 (off2+k) hb2 aS).trans a2
       have g1:=fun x=>(o2.later (v:=v) (T:=[]) aS x).cell
       have g2:=fun x=>(o3.later (v:=v) (T:=[]) aS x).cell
       exact qz
      ·simp only [TK];refine late_nil ?_
       (try simp only [LN])
       have hw2:=hw.trans (hu.mono hw.size);go_wp2;go_ret;exact ⟨rfl,hw2⟩
    ·obtain rfl:k=n1:=aO
     have hkni:¬ (k:Int)<(k:Int):=aO
     have hot:o=true:=by
      rw [<- HL.out.2.2];exact decide_eq_true ⟨by first | trivial | rfl,eq_of_dAt (by rw [HL.out.1,HL.out.2.1]) (fun i hi=>HA.out i (by rw [HL.out.1] at hi; exact hi))⟩
     subst hot;go_wp2;go_ret;exact ⟨rfl,hw⟩
  ·rw [sameRaw (by rw [hl1,hl2]; exact fun h=>hn h.2)];subst hs;have hni:¬ (n1:Int)=(n2:Int):=aO
   clear d1 d2 hl1 hl2;go_enter Tryz.func85,Tryz.ntmps85;go_wp2;go_ret;exact ⟨rfl,hW⟩
 ·rw [sameRaw fun h=>hs h.1];clear d1 d2 hl1 hl2;go_enter Tryz.func85,Tryz.ntmps85;cases s1 <;> cases s2
  ·exact absurd rfl hs
  ·go_wp2;go_ret;exact ⟨rfl,hW⟩
  ·go_wp2;go_ret;exact ⟨rfl,hW⟩
  ·exact absurd rfl hs
end Go.Proofs.YtflolbnnkbdmfaaGreat
