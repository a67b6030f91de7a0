import Derived.Test.YtflolbnnkbdmfaaGreatMatO
set_option linter.all false
namespace Go.Proofs.YtflolbnnkbdmfaaGreat
theorem goodQ_iff {p q:Int}:goodQ p q=true↔0<q/\Nat.gcd p.natAbs q.natAbs=1:=by
 unfold goodQ;simp
theorem of_spec (n:Int) {d:Int} (h:d≠0):goodQ (ofN n d) (ofD n d)=true/\ofN n d*d=n*ofD n d/\(ofN n d).natAbs<=n.natAbs/\(ofD n d).natAbs<=d.natAbs:=by
 have hg:0<Nat.gcd n.natAbs d.natAbs:=Nat.gcd_pos_of_pos_right _ aO;obtain ⟨g,hgg⟩:=Zx (Nat.gcd n.natAbs d.natAbs);rw [hgg] at hg;have key:∀ (n' d':Int),n'.natAbs=n.natAbs->d'.natAbs=d.natAbs->0<d'->n'*d=n*d'->goodQ (n' / (g:Int)) (d' / (g:Int))=true/\n' / (g:Int)*d=n*(d' / (g:Int))/\(n' / (g:Int)).natAbs<=n.natAbs/\(d' / (g:Int)).natAbs<=d.natAbs:=fun n' d' h1 h2 h3 h4=>by
  have d1:(g:Int)∣n':=Int.ofNat_dvd_left.2 (by rw [h1,<- hgg]; exact Nat.gcd_dvd_left _ _);have d2:(g:Int)∣d':=Int.ofNat_dvd_left.2 (by rw [h2,<- hgg]; exact Nat.gcd_dvd_right _ _);obtain ⟨a,ha⟩:=d1;obtain ⟨b,hb⟩:=d2;have hg0:(g:Int)≠0:=aO
  rw [ha,hb,Int.mul_ediv_cancel_left _ hg0,Int.mul_ediv_cancel_left _ hg0];have e1:n.natAbs=g*a.natAbs:=by rw [<- h1,ha,Int.natAbs_mul]; rfl
  have e2:d.natAbs=g*b.natAbs:=by rw [<- h2,hb,Int.natAbs_mul]; rfl
  refine ⟨goodQ_iff.2 ⟨?_,?_⟩,?_,?_,?_⟩
  ·rw [hb] at h3;exact Int.pos_of_mul_pos_right h3 aO |> fun h=>h
  ·have h5:=hgg;rw [e1,e2,Nat.gcd_mul_left] at h5;exact Nat.eq_of_mul_eq_mul_left hg aO
  ·rw [ha,hb] at h4;have:(g:Int)*(a*d)=(g:Int)*(n*b):=by grind
   exact Int.eq_of_mul_eq_mul_left hg0 this
  ·rw [e1]; exact Nat.le_mul_of_pos_left _ hg
  ·rw [e2]; exact Nat.le_mul_of_pos_left _ hg
 unfold ofN ofD;rw [hgg]
 by_cases hd:d<0
 ·rw [if_pos hd,if_pos hd];exact key (-n) (-d) (Int.natAbs_neg n) (Int.natAbs_neg d) aO (by grind)
 ·rw [if_neg hd,if_neg hd];exact key n d rfl rfl aO rfl
theorem good_uniq {p q p' q':Int} (h:goodQ p q=true) (h':goodQ p' q'=true) (e:p*q'=p'*q):p=p'/\q=q':=by
 obtain ⟨h1,h2⟩:=goodQ_iff.1 h;obtain ⟨h3,h4⟩:=goodQ_iff.1 h';have en:p.natAbs*q'.natAbs=p'.natAbs*q.natAbs:=by rw [<- Int.natAbs_mul,<- Int.natAbs_mul,e]
 have d1:q.natAbs∣q'.natAbs:=Nat.Coprime.dvd_of_dvd_mul_left (show Nat.Coprime q.natAbs p.natAbs from (Nat.gcd_comm _ _).trans h2) ⟨p'.natAbs,by rw [en,Nat.mul_comm]⟩;have d2:q'.natAbs∣q.natAbs:=Nat.Coprime.dvd_of_dvd_mul_left (show Nat.Coprime q'.natAbs p'.natAbs from (Nat.gcd_comm _ _).trans h4) ⟨p.natAbs,by rw [<- en,Nat.mul_comm]⟩;have eq:q=q':=by have:=Nat.dvd_antisymm d1 d2; omega
 subst eq;exact ⟨Int.eq_of_mul_eq_mul_right aO e,rfl⟩
def toQ (n d:Int):QI:=(ofN n d,ofD n d)
theorem toQ_eq {n d n' d':Int} (h:d≠0) (h':d'≠0) (e:n*d'=n'*d):toQ n d=toQ n' d':=by
 obtain ⟨g1,e1,_⟩:=of_spec n h;obtain ⟨g2,e2,_⟩:=of_spec n' h';have q1:=(goodQ_iff.1 g1).1;have q2:=(goodQ_iff.1 g2).1;have:ofN n d*ofD n' d'=ofN n' d'*ofD n d:=by
  have h3:(d*d')*(ofN n d*ofD n' d')=(d*d')*(ofN n' d'*ofD n d):=by
   grind
  exact Int.eq_of_mul_eq_mul_left (Int.mul_ne_zero h h') h3
 obtain ⟨r1,r2⟩:=good_uniq g1 g2 this;exact Prod.ext r1 r2
theorem toQ_one (z:Int):toQ z 1=(z,1):=Prod.ext (ofN_one z) (ofD_one z)
theorem toQ_sm {n d:Int} (h:d≠0) (hn:Sm n) (hd:Sm d):SmQ (toQ n d):=by
 obtain ⟨g,_,h1,h2⟩:=of_spec n h;exact ⟨g,Nat.lt_of_le_of_lt h1 hn,Nat.lt_of_le_of_lt h2 hd⟩
section
variable {a b c d:Int}
theorem ofD_ne (n:Int) (h:d≠0):ofD n d≠0:=by have:=(goodQ_iff.1 (of_spec n h).1).1; omega
theorem mul_toQ (hb:b≠0) (hd:d≠0):mulQ (toQ a b) (toQ c d)=toQ (a*c) (b*d):=by
 have e1:=(of_spec a hb).2.1;have e2:=(of_spec c hd).2.1;refine toQ_eq (Int.mul_ne_zero (ofD_ne a hb) (ofD_ne c hd)) (Int.mul_ne_zero hb hd) ?_;show ofN a b*ofN c d*(b*d)=a*c*(ofD a b*ofD c d);have:(ofN a b*b)*(ofN c d*d)=(a*ofD a b)*(c*ofD c d):=by rw [e1,e2]
 grind
theorem sub_toQ (hb:b≠0) (hd:d≠0):subQ (toQ a b) (toQ c d)=toQ (a*d - c*b) (b*d):=by
 have e1:=(of_spec a hb).2.1;have e2:=(of_spec c hd).2.1;refine toQ_eq (Int.mul_ne_zero (ofD_ne a hb) (ofD_ne c hd)) (Int.mul_ne_zero hb hd) ?_;show (ofN a b*ofD c d + -ofN c d*ofD a b)*(b*d)=(a*d - c*b)*(ofD a b*ofD c d);grind
theorem add_toQ (hb:b≠0) (hd:d≠0):addQ (toQ a b) (toQ c d)=toQ (a*d+c*b) (b*d):=by
 have e1:=(of_spec a hb).2.1;have e2:=(of_spec c hd).2.1;refine toQ_eq (Int.mul_ne_zero (ofD_ne a hb) (ofD_ne c hd)) (Int.mul_ne_zero hb hd) ?_;show (ofN a b*ofD c d+ofN c d*ofD a b)*(b*d)=(a*d+c*b)*(ofD a b*ofD c d);grind
theorem div_toQ (hb:b≠0) (hc:c≠0):divQ (toQ a b) (c,1)=toQ a (b*c):=by
 have e1:=(of_spec a hb).2.1;refine toQ_eq (Int.mul_ne_zero (ofD_ne a hb) hc) (Int.mul_ne_zero hb hc) ?_;show ofN a b*1*(b*c)=a*(ofD a b*c);grind
end
def gamC (a:Nat) (O:Nat->Nat->Int) (cs:Nat->Nat) (r:Nat->Int) (i:Nat):Int:=sg1 (i+a)*det a (fun x b=>(if skip i x<a then O (skip i x) else r) (cs b))
theorem minV_exp (a:Nat) (O:Nat->Nat->Int) (cs:Nat->Nat) (r:Nat->Int) (j:Nat):minV a O cs r j=minD a O cs*r j+sumF (fun i=>gamC a O cs r i*O i j) a:=by
 unfold minV;rw [det,sumF,Int.add_comm];congr 1
 ·simp only [if_neg (Nat.lt_irrefl a)];have h1:det a (fun x b=>(if skip a x<a then O (skip a x) else r) (if b<a then cs b else j))=minD a O cs:=det_eq fun x b hx hb=>by
   have e:skip a x=x:=by unfold skip; rw [if_pos hx]
   rw [e,if_pos hx,if_pos hb]
  rw [h1,sg1_two,Int.one_mul,Int.mul_comm]
 ·refine sumF_eq fun i hi=>?_
  simp only [if_pos hi,if_neg (Nat.lt_irrefl a)];have h1:det a (fun x b=>(if skip i x<a then O (skip i x) else r) (if b<a then cs b else j))=det a (fun x b=>(if skip i x<a then O (skip i x) else r) (cs b)):=det_eq fun x b _ hb=>by rw [if_pos hb]
  rw [h1];unfold gamC;simp only [Int.mul_assoc,Int.mul_left_comm,Int.mul_comm]
theorem gamC_abs {a:Nat} {O:Nat->Nat->Int} {cs:Nat->Nat} {r:Nat->Int} {i B:Nat} (hO:∀ i,i<a->∀ b,b<a->(O i (cs b)).natAbs<=B) (hr:∀ b,b<a->(r (cs b)).natAbs<=B):(gamC a O cs r i).natAbs<=fac a*B^a:=by
 unfold gamC;rw [Int.natAbs_mul,sg1_abs,Nat.one_mul];refine det_abs fun x b _ hb=>?_
 split
 ·rename_i h; exact hO _ h b hb
 ·exact hr b hb
theorem minD_abs {a:Nat} {O:Nat->Nat->Int} {cs:Nat->Nat} {B:Nat} (hO:∀ i,i<a->∀ b,b<a->(O i (cs b)).natAbs<=B):(minD a O cs).natAbs<=fac a*B^a:=det_abs fun i b hi hb=>hO i hi b hb
theorem transp_ne {O:Nat->Nat->Int} {f:Nat} (hd:∀ t,t<=f->minD t O id≠0):∀ t,t<=f->minD t (fun c i=>O i c) id≠0
 | 0,_=>by show (1:Int)≠0; omega
 | t+1,h=>fun e0=>by
  have ih:=transp_ne hd t aO;have hrel:∀ j,j<t+1->minD t (fun c i=>O i c) id*O j t=-sumF (fun c=>gamC t (fun c i=>O i c) id (fun i=>O i t) c*O j c) t:=fun j hj=>by
   have h1:=minV_exp t (fun c i=>O i c) id (fun i=>O i t) j;have h2:minV t (fun c i=>O i c) id (fun i=>O i t) j=0:=by
    by_cases e:j=t
    ·subst e;have:=minV_self j (fun c i=>O i c) id;rw [e0] at this;exact this
    ·exact minV_zero (cs:=id) (t:=j) aO
   rw [h2] at h1;omega
  have h3:minD t (fun c i=>O i c) id*minV t O id (O t) t=-sumF (fun c=>gamC t (fun c i=>O i c) id (fun i=>O i t) c*minV t O id (O t) c) t:=by
   have e1:∀ c,minV t O id (O t) c=minD t O id*O t c+sumF (fun i=>gamC t O id (O t) i*O i c) t:=fun c=>minV_exp t O id (O t) c
   have e2:minD t (fun c i=>O i c) id*sumF (fun i=>gamC t O id (O t) i*O i t) t=-sumF (fun c=>gamC t (fun c i=>O i c) id (fun i=>O i t) c*sumF (fun i=>gamC t O id (O t) i*O i c) t) t:=by
    rw [<- sumF_mul];have e3:sumF (fun i=>minD t (fun c i=>O i c) id*(gamC t O id (O t) i*O i t)) t=sumF (fun i=>-sumF (fun c=>gamC t (fun c i=>O i c) id (fun i=>O i t) c*(gamC t O id (O t) i*O i c)) t) t:=sumF_eq fun i hi=>by
     have h4:=hrel i aO;have h5:gamC t O id (O t) i*sumF (fun c=>gamC t (fun c i=>O i c) id (fun i=>O i t) c*O i c) t=sumF (fun c=>gamC t (fun c i=>O i c) id (fun i=>O i t) c*(gamC t O id (O t) i*O i c)) t:=by
      rw [<- sumF_mul];exact sumF_eq fun c _=>by grind
     rw [<- h5];grind
    rw [e3,sumF_neg,sumF_swap];congr 1;refine sumF_eq fun c _=>?_
    rw [sumF_mul]
   rw [e1 t,Int.mul_add,e2];have h4:=hrel t aO;have e5:sumF (fun c=>gamC t (fun c i=>O i c) id (fun i=>O i t) c*minV t O id (O t) c) t=minD t O id*sumF (fun c=>gamC t (fun c i=>O i c) id (fun i=>O i t) c*O t c) t+sumF (fun c=>gamC t (fun c i=>O i c) id (fun i=>O i t) c*sumF (fun i=>gamC t O id (O t) i*O i c) t) t:=by
    rw [<- sumF_mul,<- sumF_add];refine sumF_eq fun c _=>?_
    rw [e1 c];grind
   rw [e5];grind
  rw [sumF_zero (fun c hc=>by rw [show minV t O id (O t) c=0 from minV_zero (cs:=id) (t:=c) hc,Int.mul_zero])] at h3;have h6:=minV_self t O id;rw [show minV t O id (O t) (id t)=minV t O id (O t) t from rfl] at h6;rw [h6] at h3;rcases Int.mul_eq_zero.1 (show minD t (fun c i=>O i c) id*minD (t+1) O id=0 by omega) with h7 | h7
  ·exact ih h7
  ·exact hd (t+1) h h7
def cramN (f:Nat) (O:Nat->Nat->Int) (l c:Nat):Int:=-gamC f (fun c i=>O i c) id (fun i=>O i l) c
def cramD (f:Nat) (O:Nat->Nat->Int):Int:=minD f (fun c i=>O i c) id
theorem cram_row {f:Nat} {O:Nat->Nat->Int} {l i:Nat} (hi:i<f):sumF (fun c=>cramN f O l c*O i c) f=cramD f O*O i l:=by
 have h1:=minV_exp f (fun c i=>O i c) id (fun i=>O i l) i;rw [show minV f (fun c i=>O i c) id (fun i=>O i l) i=0 from minV_zero (cs:=id) (t:=i) hi] at h1;have h2:sumF (fun c=>cramN f O l c*O i c) f=-sumF (fun c=>gamC f (fun c i=>O i c) id (fun i=>O i l) c*O i c) f:=by
  rw [<- sumF_neg];exact sumF_eq fun c _=>by unfold cramN; grind
 rw [h2];unfold cramD;omega
theorem cram_minV {f:Nat} {O:Nat->Nat->Int} {cs:Nat->Nat} {l k:Nat} (hk:k<f):sumF (fun c=>cramN f O l c*minV k O cs (O k) c) f=cramD f O*minV k O cs (O k) l:=by
 have e1:∀ j,minV k O cs (O k) j=minD k O cs*O k j+sumF (fun i=>gamC k O cs (O k) i*O i j) k:=fun j=>minV_exp k O cs (O k) j
 have h1:sumF (fun c=>cramN f O l c*minV k O cs (O k) c) f=minD k O cs*sumF (fun c=>cramN f O l c*O k c) f+sumF (fun c=>sumF (fun i=>gamC k O cs (O k) i*(cramN f O l c*O i c)) k) f:=by
  rw [<- sumF_mul,<- sumF_add];refine sumF_eq fun c _=>?_
  rw [e1 c,Int.mul_add,<- sumF_mul];congr 1
  ·grind
  ·exact sumF_eq fun i _=>by grind
 rw [h1,cram_row hk,sumF_swap,e1 l];have h2:sumF (fun i=>sumF (fun c=>gamC k O cs (O k) i*(cramN f O l c*O i c)) f) k=sumF (fun i=>cramD f O*(gamC k O cs (O k) i*O i l)) k:=sumF_eq fun i hi=>by
  rw [sumF_mul,cram_row aO];grind
 rw [h2,sumF_mul];grind
theorem sumF_split (f:Nat->Int) (m:Nat):∀ n,sumF f (m+n)=sumF f m+sumF (fun i=>f (m+i)) n
 | 0=>by simp [sumF]
 | n+1=>by rw [<- Nat.add_assoc,sumF,sumF_split f m n,sumF,Int.add_assoc]
theorem pow_small {n:Nat} (h:n<=9) {z:Nat} (hz:z<=fac n*2147483648^n):z<2^300:=by
 have h2:=fac_mono h;have h3:=Nat.pow_le_pow_right (n:=2147483648) aO h;exact Nat.lt_of_le_of_lt (Zm hz (Nat.mul_le_mul h2 h3)) small_top
theorem top_600:2^300*2^300+8*(2^300*2^300)<2^1000:=by decide +kernel
theorem mul_300 {a b:Int} (ha:a.natAbs<2^300) (hb:b.natAbs<2^300):(a*b).natAbs<=2^300*2^300:=by
 rw [Int.natAbs_mul];revert ha hb;generalize 2^300=X;intro ha hb;exact Nat.mul_le_mul (Nat.le_of_lt ha) (Nat.le_of_lt hb)
def remS (U:Nat->Int) (N:Nat->Int) (D:Int) (k last j:Nat):Int:=U last*D - sumF (fun i=>U (k+1+i)*N (k+1+i)) j
theorem remS_sm {U N:Nat->Int} {D:Int} {k last j:Nat} (hj:j<=8) (hU:(U last).natAbs<2^300) (hD:D.natAbs<2^300) (h:∀ i,i<j->(U (k+1+i)).natAbs<2^300/\(N (k+1+i)).natAbs<2^300):Sm (remS U N D k last j):=by
 have h1:=mul_300 hU hD;have h2:=sumF_abs (f:=fun i=>U (k+1+i)*N (k+1+i)) (B:=2^300*2^300) (n:=j) (fun i hi=>mul_300 (h i hi).1 (h i hi).2);have h3:=Nat.mul_le_mul_right (2^300*2^300) hj;have h4:=Int.natAbs_sub_le (U last*D) (sumF (fun i=>U (k+1+i)*N (k+1+i)) j);have h5:=top_600;unfold Sm remS;generalize 2^300*2^300=X at *;omega
theorem sum_toQ {R:List Int} {N:Nat->Int} {D:Int} (hD:D≠0) (k last:Nat):∀ j,sumQ R (fun c=>toQ (N c) D) k last j=toQ (remS (zAt R) N D k last j) D
 | 0=>by
  show (zAt R last,(1:Int))=_;rw [<- toQ_one];refine toQ_eq aO hD ?_;unfold remS;rw [sumF];grind
 | j+1=>by
  rw [sumQ,sum_toQ hD k last j,<- toQ_one (zAt R (k+1+j)),mul_toQ aO hD,sub_toQ hD aO];refine toQ_eq (Int.mul_ne_zero hD aO) hD ?_;unfold remS;rw [sumF];grind
theorem back_ok {L:List (List Int)} {O:Nat->Nat->Int} {cs:Nat->Nat} {f last wd:Nat} (hf:f<=8) (hfw:f<=wd) (hl:last<wd) (hcs:∀ t,t<f->cs t=t) (hnz:∀ t,t<=f->minD t O cs≠0)
 (hU:∀ k,k<f->∀ j,j<wd->zAt (rAt L k) j=minV k O cs (O k) j) (hB:∀ i,i<f->∀ c,c<wd->(O i c).natAbs<=2147483648) :
 BackQ L (fun k=>toQ (cramN f O last k) (cramD f O)) f last/\cramD f O≠0/\(∀ k,(cramN f O last k).natAbs<2^300)/\(cramD f O).natAbs<2^300:=by
 have hid:∀ t,t<=f->minD t O id≠0:=fun t ht=>by
  have e:minD t O id=minD t O cs:=minD_eq (fun _ _=>rfl) (fun b hb=>(hcs b aO).symm);rw [e];exact hnz t ht
 have hD:cramD f O≠0:=transp_ne hid f (Zr _);have hDs:(cramD f O).natAbs<2^300:=pow_small (show f<=9 by omega) (minD_abs fun i hi b hb=>hB b hb i aO);have hNs:∀ k,(cramN f O last k).natAbs<2^300:=fun k=>by
  unfold cramN;rw [Int.natAbs_neg];exact pow_small (show f<=9 by omega) (gamC_abs (fun i hi b hb=>hB b hb i aO) (fun b hb=>hB b hb last hl))
 have hUs:∀ k,k<f->∀ j,j<wd->(zAt (rAt L k) j).natAbs<2^300:=fun k hk j hj=>by
  rw [hU k hk j hj];exact minV_small aO (fun i hi c hc=>hB i aO c hc) (hB k hk) (fun b hb=>by rw [hcs b aO]; omega) hj
 have hlead:∀ k,k<f->zAt (rAt L k) k≠0:=fun k hk=>by
  rw [hU k hk k aO];have h1:=minV_self k O cs;rw [hcs k hk] at h1;rw [h1];exact hnz (k+1) aO
 have hlow:∀ k,k<f->∀ j,j<k->zAt (rAt L k) j=0:=fun k hk j hj=>by
  rw [hU k hk j aO];have h1:=minV_zero (a:=k) (O:=O) (cs:=cs) (r:=O k) (t:=j) hj;rw [hcs j aO] at h1;exact h1
 have hrem:∀ k,k<f->remS (zAt (rAt L k)) (cramN f O last) (cramD f O) k last (f - 1 - k)=zAt (rAt L k) k*cramN f O last k:=fun k hk=>by
  have h1:=cram_minV (f:=f) (O:=O) (cs:=cs) (l:=last) hk;have h2:sumF (fun c=>cramN f O last c*minV k O cs (O k) c) f=sumF (fun c=>cramN f O last c*zAt (rAt L k) c) f:=sumF_eq fun c hc=>by rw [hU k hk c aO]
  rw [h2,<- hU k hk last hl] at h1;have h3:=sumF_split (fun c=>cramN f O last c*zAt (rAt L k) c) (k+1) (f - 1 - k);rw [show k+1+(f - 1 - k)=f by omega,h1,sumF,sumF_zero (fun i hi=>by rw [hlow k hk i hi,Int.mul_zero])] at h3;have h4:sumF (fun i=>zAt (rAt L k) (k+1+i)*cramN f O last (k+1+i)) (f - 1 - k)=sumF (fun i=>cramN f O last (k+1+i)*zAt (rAt L k) (k+1+i)) (f - 1 - k):=sumF_eq fun i _=>Int.mul_comm _ _
  unfold remS;rw [h4];grind
 refine ⟨⟨fun k hk=>?_,hlead,fun k hk=>⟨sm_300 (hUs k hk last hl),fun c hc=>sm_300 (hUs k hk c aO)⟩,fun k hk j hj=>?_,fun k hk j hj=>?_,fun k hk=>?_⟩,hD,hNs,hDs⟩
 ·rw [sum_toQ hD,div_toQ hD (hlead k hk),hrem k hk];refine toQ_eq hD (Int.mul_ne_zero hD (hlead k hk)) ?_;grind
 ·rw [sum_toQ hD];exact toQ_sm hD (remS_sm aO (hUs k hk last hl) hDs fun i hi=>⟨hUs k hk _ aO,hNs _⟩) (sm_300 hDs)
 ·rw [<- toQ_one (zAt (rAt L k) (k+1+j)),mul_toQ aO hD];have h1:=mul_300 (hUs k hk (k+1+j) aO) (hNs (k+1+j));have h5:=top_600;refine toQ_sm (Int.mul_ne_zero aO hD) ?_ (by rw [Int.one_mul]; exact sm_300 hDs);unfold Sm;generalize 2^300*2^300=X at *;omega
 ·exact toQ_sm hD (sm_300 (hNs k)) (sm_300 hDs)
theorem firstF_range (cs:Nat->Nat):∀ a,(firstF ((List.range a).map (fun t=>(cs t,t)))<=a)/\(∀ t,t<firstF ((List.range a).map (fun t=>(cs t,t)))->cs t=t)/\(firstF ((List.range a).map (fun t=>(cs t,t)))<a->cs (firstF ((List.range a).map (fun t=>(cs t,t))))≠firstF ((List.range a).map (fun t=>(cs t,t))))
 | 0=>⟨Zr _,fun t h=>absurd h (Nat.not_lt_zero t),fun h=>absurd h (Nat.lt_irrefl 0)⟩
 | a+1=>by
  obtain ⟨h1,h2,h3⟩:=firstF_range cs a;rw [List.range_succ,List.map_append];simp only [List.map_cons,List.map_nil];rw [firstF_snoc];obtain ⟨f,hf⟩:=Zx (firstF ((List.range a).map (fun t=>(cs t,t))));rw [hf] at h1 h2 h3 ⊢;simp only
  by_cases e:cs a=a/\cs a=f
  ·rw [if_pos e];refine ⟨aO,fun t ht=>?_,fun h=>aO⟩
   by_cases e2:t=a
   ·subst e2; exact e.1
   ·exact h2 t aO
  ·rw [if_neg e];refine ⟨aO,h2,fun h=>?_⟩
   by_cases e2:f<a
   ·exact h3 e2
   ·have:f=a:=aO
    subst this;intro e3;exact e ⟨e3,e3⟩
theorem ofD_dvd (n:Int) {d:Int} (h:d≠0):(ofD n d).natAbs∣d.natAbs:=by
 have hg:0<Nat.gcd n.natAbs d.natAbs:=Nat.gcd_pos_of_pos_right _ aO;unfold ofD;obtain ⟨g,hgg⟩:=Zx (Nat.gcd n.natAbs d.natAbs);rw [hgg] at hg ⊢;have hd:g∣d.natAbs:=by rw [<- hgg]; exact Nat.gcd_dvd_right _ _
 have key:∀ d':Int,d'.natAbs=d.natAbs->(d' / (g:Int)).natAbs∣d.natAbs:=fun d' e=>by
  have d2:(g:Int)∣d':=Int.ofNat_dvd_left.2 (by rw [e]; exact hd);obtain ⟨b,hb⟩:=d2;rw [hb,Int.mul_ediv_cancel_left _ aO];rw [<- e,hb,Int.natAbs_mul];exact ⟨g,Nat.mul_comm _ _⟩
 split
 ·exact key (-d) (Int.natAbs_neg d)
 ·exact key d rfl
theorem byW_dvd {Q:Nat->QI} {n D:Nat} (hq:∀ i,i<n->0<(Q i).2/\(Q i).2.natAbs∣D):∀ i,i<=n->(byW Q i).natAbs∣D
 | 0,_=>⟨D,by simp [byW]⟩
 | i+1,h=>by
  have ih:=byW_dvd hq i aO;obtain ⟨h1,h2⟩:=hq i aO;rw [byW];obtain ⟨q,hqn⟩:∃ q:Nat,(Q i).2=(q:Int):=⟨(Q i).2.natAbs,aO⟩;rw [hqn] at h1 h2 ⊢;have e:(byW Q i*((q:Int) / ((Nat.gcd (byW Q i).natAbs (Int.natAbs (q:Int)):Nat):Int))).natAbs=Nat.lcm (byW Q i).natAbs q:=by
   rw [Int.natAbs_mul,Int.natAbs_natCast,<- Int.natCast_ediv,Int.natAbs_natCast];unfold Nat.lcm;rw [Nat.mul_div_assoc _ (Nat.gcd_dvd_right _ _)]
  rw [e];exact Nat.lcm_dvd ih h2
theorem goodQ_pos {a:QI} (h:goodQ a.1 a.2=true):0<a.2:=(goodQ_iff.1 h).1
theorem kern_fine {M:List (List Int)}:∃ x,FineK M x (kernF M):=by
 by_cases h:matCheck M=0
 ·obtain ⟨hn,hk8,hw0,_⟩:=matCheck_ok h;have hw:=wide_sys hw0;obtain ⟨π,cs,hI,hl⟩:=InvB.run2 hw (cols M) (Zr _);obtain ⟨h1,h2,_⟩:=firstF_range cs (runB ⟨sysL M [] M.length,1,0⟩ (cols M)).a;rw [<- hl] at h1 h2;have hf:firstF (leadsB ⟨sysL M [] M.length,1,0⟩ (cols M))=kernF M:=rfl;rw [hf] at h1 h2;refine ⟨fun k=>toQ (cramN (kernF M) (fun i=>rowF (sysL M [] M.length) (π i)) (kernF M) k) (cramD (kernF M) (fun i=>rowF (sysL M [] M.length) (π i))),fun _=>⟨rank_fine h,fun hfk=>?_⟩⟩;have he:=ent_sys h;have hale:=hI.a_le;obtain ⟨hB,hD,hN,hDs⟩:=back_ok (L:=(runB ⟨sysL M [] M.length,1,0⟩ (cols M)).L) (O:=fun i=>rowF (sysL M [] M.length) (π i)) (cs:=cs) (f:=kernF M) (last:=kernF M) (wd:=cols M) aO aO hfk h2 (fun t ht=>hI.nz t aO) (fun k hk j hj=>hI.high k aO j hj) (fun i hi c hc=>he _ (hI.perm i aO) c hc);refine ⟨hB,?_⟩;have hQ:∀ i,i<kernF M->kernQ (fun k=>toQ (cramN (kernF M) (fun i=>rowF (sysL M [] M.length) (π i)) (kernF M) k) (cramD (kernF M) (fun i=>rowF (sysL M [] M.length) (π i)))) (kernF M) i=toQ (-cramN (kernF M) (fun i=>rowF (sysL M [] M.length) (π i)) (kernF M) i) (cramD (kernF M) (fun i=>rowF (sysL M [] M.length) (π i))):=fun i hi=>by
   unfold kernQ;rw [if_pos hi,<- toQ_one 0,sub_toQ aO hD];refine toQ_eq (Int.mul_ne_zero aO hD) hD ?_;grind
  have hsm:∀ i,i<cols M->SmQ (kernQ (fun k=>toQ (cramN (kernF M) (fun i=>rowF (sysL M [] M.length) (π i)) (kernF M) k) (cramD (kernF M) (fun i=>rowF (sysL M [] M.length) (π i)))) (kernF M) i):=fun i hi=>by
   by_cases e:i<kernF M
   ·rw [hQ i e];exact toQ_sm hD (sm_300 (by rw [Int.natAbs_neg]; exact hN i)) (sm_300 hDs)
   ·unfold kernQ;rw [if_neg e];split
    ·exact SmQ.int Sm.one
    ·exact SmQ.int sm_zero
  refine ⟨hsm,fun i hi=>?_⟩;have hd:=byW_dvd (Q:=kernQ (fun k=>toQ (cramN (kernF M) (fun i=>rowF (sysL M [] M.length) (π i)) (kernF M) k) (cramD (kernF M) (fun i=>rowF (sysL M [] M.length) (π i)))) (kernF M)) (n:=cols M) (D:=(cramD (kernF M) (fun i=>rowF (sysL M [] M.length) (π i))).natAbs) (fun i hi=>⟨goodQ_pos (hsm i hi).1,by
   by_cases e:i<kernF M
   ·rw [hQ i e];exact ofD_dvd _ hD
   ·unfold kernQ;rw [if_neg e];split <;> exact ⟨_,(Nat.one_mul _).symm⟩⟩) i hi
  exact sm_300 (Nat.lt_of_le_of_lt (Nat.le_of_dvd aO hd) hDs)
 ·exact ⟨fun _=>(0,1),fun h2=>absurd h2 h⟩
theorem stepB_keep {s:BS} {c i:Nat} (h:i<s.a) (ha:s.a<=s.L.length):rAt (stepB s c).L i=rAt s.L i:=by
 cases hf:findP s.L c (s.L.length - s.a) s.a with
 | none=>rw [stepB_none hf]
 | some p =>
  obtain ⟨h1,h2,h3⟩:=findP_spec _ _ _ hf;rw [stepB_some hf];simp only;rw [rAt_elim (by rw [swapL_len]; omega),if_neg aO,rAt_swap aO aO,if_neg aO,if_neg aO]
theorem runB_keep {s:BS} (hs:s.a<=s.L.length) {c i:Nat} (h:i<(runB s c).a):∀ d,rAt (runB s (c+d)).L i=rAt (runB s c).L i
 | 0=>rfl
 | d+1=>by
  have h1:i<(runB s (c+d)).a:=by
   have key:∀ d,(runB s c).a<=(runB s (c+d)).a:=fun d=>by
    induction d with
    | zero=>exact Zr _
    | succ d ih=>exact Zm ih (stepB_a (runB s (c+d)) (c+d)).2.1
   have:=key d;omega
  rw [<- Nat.add_assoc,runB,stepB_keep h1 (by rw [runB_len]; exact runB_an s hs _)];exact runB_keep hs h d
theorem dep_row {O:Nat->Nat->Int} {cs:Nat->Nat} {f l:Nat} {r:Nat->Int} (hcs:∀ t,t<f->cs t=t) (hnz:minD f O cs≠0) (hz:minV f O cs r l=0):sumF (fun c=>cramN f O l c*r c) f=cramD f O*r l:=by
 obtain ⟨γ,hγ⟩:=minV_comb f O cs r;have h1:∀ j,(j<f\/j=l)->minD f O cs*r j=-sumF (fun i=>γ i*O i j) f:=fun j hj=>by
  have h2:=hγ j;have h3:minV f O cs r j=0:=by
   rcases hj with h | h
   ·have:=minV_zero (a:=f) (O:=O) (cs:=cs) (r:=r) (t:=j) h;rw [hcs j h] at this;exact this
   ·rw [h]; exact hz
  rw [h3] at h2;omega
 have h2:minD f O cs*sumF (fun c=>cramN f O l c*r c) f=minD f O cs*(cramD f O*r l):=by
  have e1:minD f O cs*sumF (fun c=>cramN f O l c*r c) f=-sumF (fun c=>sumF (fun i=>γ i*(cramN f O l c*O i c)) f) f:=by
   rw [<- sumF_mul,<- sumF_neg];refine sumF_eq fun c hc=>?_
   have h4:=h1 c (.inl hc);have h5:sumF (fun i=>γ i*(cramN f O l c*O i c)) f=cramN f O l c*sumF (fun i=>γ i*O i c) f:=by
    rw [<- sumF_mul];exact sumF_eq fun i _=>by grind
   rw [h5];grind
  have e2:sumF (fun c=>sumF (fun i=>γ i*(cramN f O l c*O i c)) f) f=cramD f O*sumF (fun i=>γ i*O i l) f:=by
   rw [sumF_swap,<- sumF_mul];refine sumF_eq fun i hi=>?_
   rw [sumF_mul,cram_row hi];grind
  have h6:=h1 l (.inr rfl);rw [e1,e2];grind
 exact Int.eq_of_mul_eq_mul_left hnz h2
theorem leadsB_split (s:BS) (c:Nat):∀ d,∃ rest,leadsB s (c+d)=leadsB s c++rest/\∀ x,x∈rest->c<=x.1
 | 0=>⟨[],(List.append_nil _).symm,fun x h=>by cases h⟩
 | d+1=>by
  obtain ⟨rest,h1,h2⟩:=leadsB_split s c d;rw [<- Nat.add_assoc,leadsB,h1,List.append_assoc];refine ⟨_,rfl,fun x hx=>?_⟩;rcases List.mem_append.1 hx with h | h
  ·exact h2 x h
  ·cases hf:findP (runB s (c+d)).L (c+d) ((runB s (c+d)).L.length - (runB s (c+d)).a) (runB s (c+d)).a with
   | none=>rw [hf] at h; cases h
   | some p =>
    rw [hf] at h;have:=List.mem_singleton.1 h;rw [this];exact Nat.le_add_right _ _
theorem kern_stage {L0:List (List Int)} {wd f:Nat} (hw:Wide L0 wd) (hf:firstF (leadsB ⟨L0,1,0⟩ wd)=f) (hfw:f<wd):∃ π cs,InvB L0 wd (runB ⟨L0,1,0⟩ (f+1)) (f+1) π cs/\(runB ⟨L0,1,0⟩ (f+1)).a=f/\∀ t,t<f->cs t=t:=by
 obtain ⟨π,cs,hI,hl⟩:=InvB.run2 hw wd (Zr _);obtain ⟨π1,cs1,hI1,hl1⟩:=InvB.run2 hw (f+1) aO;obtain ⟨rest,hr,hr2⟩:=leadsB_split ⟨L0,1,0⟩ (f+1) (wd - (f+1));rw [show f+1+(wd - (f+1))=wd by omega] at hr;obtain ⟨g1,g2,g3⟩:=firstF_range cs (runB ⟨L0,1,0⟩ wd).a;rw [<- hl,hf] at g1 g2 g3;obtain ⟨a,ha⟩:=Zx ((runB ⟨L0,1,0⟩ wd).a);obtain ⟨a1,ha1⟩:=Zx ((runB ⟨L0,1,0⟩ (f+1)).a);have hcol1:=hI1.col;have hinc:=hI.inc;rw [ha] at g1 g3 hl hinc;rw [ha1] at hl1 hcol1;have hat:∀ t,t<a->(leadsB ⟨L0,1,0⟩ wd)[t]?=some (cs t,t):=fun t ht=>by rw [hl]; simp [ht]
 have hat1:∀ t,t<a1->(leadsB ⟨L0,1,0⟩ (f+1))[t]?=some (cs1 t,t):=fun t ht=>by rw [hl1]; simp [ht]
 have hlen1:(leadsB ⟨L0,1,0⟩ (f+1)).length=a1:=by rw [hl1]; simp
 have hlen:(leadsB ⟨L0,1,0⟩ wd).length=a:=by rw [hl]; simp
 have hle:a1<=a:=by
  have:=congrArg List.length hr;rw [hlen,List.length_append,hlen1] at this;omega
 have heq:∀ t,t<a1->cs1 t=cs t:=fun t ht=>by
  have h1:=hat t aO;rw [hr,List.getElem?_append_left (by rw [hlen1]; exact ht),hat1 t ht] at h1;injection h1 with h1
  injection h1
 have hup:a1<=f:=by
  apply Classical.byContradiction;intro hc;have h1:=hcol1 f aO;rw [heq f aO] at h1;have h2:=g3 aO;rcases Nat.eq_zero_or_pos f with h0 | h0
  ·omega
  ·have h3:=hinc (f - 1) f aO aO;rw [g2 (f - 1) aO] at h3;omega
 have hlo:f<=a1:=by
  apply Classical.byContradiction;intro hc;have h1:=hat a1 aO;rw [hr,List.getElem?_append_right (by rw [hlen1]; exact Zr _)] at h1;have h2:=hr2 _ (List.mem_of_getElem? h1);simp only at h2;rw [g2 a1 aO] at h2;omega
 refine ⟨π1,cs1,hI1,by rw [ha1]; omega,fun t ht=>?_⟩;rw [heq t aO];exact g2 t ht
theorem dep:∀ {r p:Nat} (C:Nat->Nat->Int),r<p->∃ l:Nat->Int,(∃ i,i<p/\l i≠0)/\∀ t,t<r->sumF (fun i=>l i*C i t) p=0
 | 0,p,C,h=>⟨fun _=>1,⟨0,h,by show (1:Int)≠0; omega⟩,fun t ht=>aO⟩
 | r+1,p,C,h=>by
  by_cases hz:∀ i,i<p->C i r=0
  ·obtain ⟨l,h1,h2⟩:=dep (r:=r) C (show r<p by omega);refine ⟨l,h1,fun t ht=>?_⟩
   by_cases e:t=r
   ·subst e; exact sumF_zero fun i hi=>by rw [hz i hi,Int.mul_zero]
   ·exact h2 t aO
  ·obtain ⟨q,hq,hne⟩:∃ q,q<p/\C q r≠0:=Classical.byContradiction fun hc=>hz fun i hi=>Classical.byContradiction fun h2=>hc ⟨i,hi,h2⟩
   obtain ⟨n,rfl⟩:∃ n,p=n+1:=⟨p - 1,aO⟩;obtain ⟨l,⟨i0,hi0,hl0⟩,h2⟩:=dep (r:=r) (p:=n) (fun i t=>C q r*C (skip q i) t - C (skip q i) r*C q t) aO;have hsk:∀ i,i<n->skip q i<n+1/\skip q i≠q:=fun i hi=>by unfold skip; split <;> omega
   have hun:∀ i,(if skip q i<q then skip q i else skip q i - 1)=i:=fun i=>by unfold skip; repeat' split <;> try omega
   refine ⟨fun x=>if x=q then -sumF (fun i=>l i*C (skip q i) r) n else C q r*l (if x<q then x else x - 1),⟨skip q i0,(hsk i0 hi0).1,?_⟩,fun t ht=>?_⟩
   ·simp only [if_neg (hsk i0 hi0).2,hun i0];exact Int.mul_ne_zero hne hl0
   ·rw [<- sumF_skip (fun x=>(if x=q then -sumF (fun i=>l i*C (skip q i) r) n else C q r*l (if x<q then x else x - 1))*C x t) (n:=n) (i:=q) aO];simp only [if_true];have e1:sumF (fun k=>(if skip q k=q then -sumF (fun i=>l i*C (skip q i) r) n else C q r*l (if skip q k<q then skip q k else skip q k - 1))*C (skip q k) t) n=sumF (fun k=>C q r*l k*C (skip q k) t) n:=sumF_eq fun k hk=>by
     rw [if_neg (hsk k hk).2,hun k]
    rw [e1]
    by_cases e:t=r
    ·subst e;have e2:sumF (fun k=>C q t*l k*C (skip q k) t) n=C q t*sumF (fun i=>l i*C (skip q i) t) n:=by
      rw [<- sumF_mul];exact sumF_eq fun k _=>by grind
     rw [e2];grind
    ·have h3:=h2 t aO;have e2:sumF (fun i=>l i*(C q r*C (skip q i) t - C (skip q i) r*C q t)) n=sumF (fun k=>C q r*l k*C (skip q k) t) n + -sumF (fun i=>l i*C (skip q i) r) n*C q t:=by
      have e3:-sumF (fun i=>l i*C (skip q i) r) n*C q t=sumF (fun i=>-C q t*(l i*C (skip q i) r)) n:=by
       rw [sumF_mul];grind
      rw [e3,<- sumF_add];exact sumF_eq fun k _=>by grind
     rw [e2] at h3;exact h3
def Fact (M:Nat->Nat->Int) (m n r:Nat):Prop:=∃ (d:Int) (C E:Nat->Nat->Int),d≠0/\∀ i,i<m->∀ j,j<n->d*M i j=sumF (fun t=>C i t*E t j) r
theorem Fact.least {M:Nat->Nat->Int} {m n r p:Nat} (h:Fact M m n r) {π cs:Nat->Nat} (hπ:∀ i,i<p->π i<m) (hc:∀ t,t<p->cs t<n) (hnz:∀ t,t<=p->minD t (fun i=>M (π i)) cs≠0):p<=r:=by
 apply Classical.byContradiction;intro hlt;obtain ⟨d,C,E,hd,h⟩:=h;obtain ⟨l,⟨i,hi,hl⟩,h2⟩:=dep (r:=r) (p:=p) (fun i=>C (π i)) aO;have h3:=indep (O:=fun i=>M (π i)) (cs:=cs) hnz (fun i=>l i*d) (fun t ht=>by
  have e1:sumF (fun i=>l i*d*M (π i) (cs t)) p=sumF (fun i=>sumF (fun s=>E s (cs t)*(l i*C (π i) s)) r) p:=sumF_eq fun i hi=>by
   rw [Int.mul_assoc,h (π i) (hπ i hi) (cs t) (hc t ht),<- sumF_mul];exact sumF_eq fun s _=>by grind
  rw [e1,sumF_swap];refine sumF_zero fun s hs=>?_
  rw [sumF_mul,h2 s hs,Int.mul_zero]) i hi
 rcases Int.mul_eq_zero.1 h3 with h4 | h4
 ·exact hl h4
 ·exact hd h4
theorem sumF_one (x:Nat->Int) {i:Nat}:∀ {a:Nat},i<a->sumF (fun t=>(if t=i then x t else 0)) a=x i
 | a+1,h=>by
  rw [sumF]
  by_cases e:i=a
  ·subst e;rw [if_pos rfl,sumF_zero (fun t ht=>if_neg aO),Int.zero_add]
  ·rw [if_neg (fun h=>e h.symm),Int.add_zero];exact sumF_one x aO
theorem rank_fact {L0:List (List Int)} {wd:Nat} (hw:Wide L0 wd):Fact (rowF L0) L0.length wd (leadsB ⟨L0,1,0⟩ wd).length/\∀ r,Fact (rowF L0) L0.length wd r->(leadsB ⟨L0,1,0⟩ wd).length<=r:=by
 obtain ⟨π,cs,hI⟩:=InvB.run hw wd (Zr _);have hla:(leadsB ⟨L0,1,0⟩ wd).length=(runB ⟨L0,1,0⟩ wd).a:=by simpa using leadsB_len ⟨L0,1,0⟩ wd
 rw [hla];obtain ⟨a,ha⟩:=Zx ((runB ⟨L0,1,0⟩ wd).a);have hale:=hI.a_le;have hnz:=hI.nz;have hcol:=hI.col;have hlow:=hI.low;rw [ha] at hale hnz hcol hlow;rw [ha];refine ⟨?_,fun r hr=>hr.least (π:=π) (cs:=cs) (fun i hi=>hI.perm i aO) hcol hnz⟩;have key:∀ y,∃ cf:Nat->Int,y<L0.length->∀ j,j<wd->minD a (fun i=>rowF L0 (π i)) cs*rowF L0 y j=sumF (fun t=>cf t*rowF L0 (π t) j) a:=fun y=>by
  by_cases hy:y<L0.length
  ·obtain ⟨i,hi,rfl⟩:=hI.sur y hy
   by_cases h1:i<a
   ·refine ⟨fun t=>if t=i then minD a (fun i=>rowF L0 (π i)) cs else 0,fun _ j _=>?_⟩;have e:sumF (fun t=>(if t=i then minD a (fun i=>rowF L0 (π i)) cs else 0)*rowF L0 (π t) j) a=sumF (fun t=>if t=i then minD a (fun i=>rowF L0 (π i)) cs*rowF L0 (π t) j else 0) a:=sumF_eq fun t _=>by
     by_cases e2:t=i
     ·rw [if_pos e2,if_pos e2]
     ·rw [if_neg e2,if_neg e2,Int.zero_mul]
    rw [e,sumF_one (fun t=>minD a (fun i=>rowF L0 (π i)) cs*rowF L0 (π t) j) h1]
   ·obtain ⟨γ,hγ⟩:=minV_comb a (fun i=>rowF L0 (π i)) cs (rowF L0 (π i));refine ⟨fun t=>-γ t,fun _ j hj=>?_⟩;have h2:=hlow i aO hi j hj;have h3:=hI.zero i (by rw [ha]; omega) hi j hj;rw [h3,hγ j] at h2;have h4:sumF (fun t=>-γ t*rowF L0 (π t) j) a=-sumF (fun t=>γ t*rowF L0 (π t) j) a:=by
     rw [<- sumF_neg];exact sumF_eq fun t _=>by grind
    rw [h4];omega
  ·exact ⟨fun _=>0,fun h=>absurd h hy⟩
 exact ⟨minD a (fun i=>rowF L0 (π i)) cs,fun y=>Classical.choose (key y),fun t=>rowF L0 (π t),hnz a (Zr _),fun y hy j hj=>Classical.choose_spec (key y) hy j hj⟩
theorem rankZ_fact {M:List (List Int)} (h:matCheck M=0):Fact (fun i j=>iAt (rAt M i) j) M.length (cols M) (rankZ M)/\∀ r,Fact (fun i j=>iAt (rAt M i) j) M.length (cols M) r->rankZ M<=r:=by
 obtain ⟨_,_,h3,_⟩:=matCheck_ok h;have hr:rankZ M=(leadsB ⟨sysL M [] M.length,1,0⟩ (cols M)).length:=by unfold rankZ; rw [if_pos h]
 have q:=rank_fact (wide_sys h3);rw [sysL_len,<- hr] at q;have e:∀ i,i<M.length->∀ j,rowF (sysL M [] M.length) i j=iAt (rAt M i) j:=fun i hi j=>by
  unfold rowF;rw [rAt_sysL M [] hi,sysR_nil];rfl
 refine ⟨?_,fun r hr2=>q.2 r ?_⟩
 ·obtain ⟨d,C,E,hd,hF⟩:=q.1;exact ⟨d,C,E,hd,fun i hi j hj=>by show d*iAt (rAt M i) j=_; rw [<- e i hi j]; exact hF i hi j hj⟩
 ·obtain ⟨d,C,E,hd,hF⟩:=hr2;exact ⟨d,C,E,hd,fun i hi j hj=>by rw [e i hi j]; exact hF i hi j hj⟩
theorem Fact.map {M:Nat->Nat->Int} {m n r m':Nat} (h:Fact M m n r) (σ:Nat->Nat) (hσ:∀ i,i<m'->σ i<m):Fact (fun i=>M (σ i)) m' n r:=by
 obtain ⟨d,C,E,hd,h⟩:=h;exact ⟨d,fun i=>C (σ i),E,hd,fun i hi j hj=>h (σ i) (hσ i hi) j hj⟩
theorem Fact.congr {M M':Nat->Nat->Int} {m n r:Nat} (h:Fact M m n r) (e:∀ i,i<m->∀ j,j<n->M' i j=M i j):Fact M' m n r:=by
 obtain ⟨d,C,E,hd,h⟩:=h;exact ⟨d,C,E,hd,fun i hi j hj=>by rw [e i hi j hj]; exact h i hi j hj⟩
theorem Fact.more {M:Nat->Nat->Int} {m n r:Nat} (h:Fact M m n r) (w:Nat->Int):Fact (fun i j=>if i<m then M i j else w j) (m+1) n (r+1):=by
 obtain ⟨d,C,E,hd,h⟩:=h;refine ⟨d,fun i t=>if i<m then (if t<r then C i t else 0) else (if t<r then 0 else d),fun t j=>if t<r then E t j else w j,hd,fun i hi j hj=>?_⟩;rw [sumF];simp only [if_neg (Nat.lt_irrefl r)]
 by_cases e:i<m
 ·have e1:sumF (fun t=>(if i<m then (if t<r then C i t else 0) else (if t<r then 0 else d))*(if t<r then E t j else w j)) r=sumF (fun t=>C i t*E t j) r:=sumF_eq fun t ht=>by rw [if_pos e,if_pos ht,if_pos ht]
  rw [e1,if_pos e,if_pos e,Int.zero_mul,Int.add_zero];exact h i e j hj
 ·have e1:sumF (fun t=>(if i<m then (if t<r then C i t else 0) else (if t<r then 0 else d))*(if t<r then E t j else w j)) r=0:=sumF_zero fun t ht=>by rw [if_neg e,if_pos ht,Int.zero_mul]
  rw [e1,if_neg e,if_neg e,Int.zero_add]
end Go.Proofs.YtflolbnnkbdmfaaGreat
