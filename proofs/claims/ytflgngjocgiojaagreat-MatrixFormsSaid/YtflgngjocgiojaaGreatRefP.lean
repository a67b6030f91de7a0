import Derived.Test.YtflgngjocgiojaaGreatGJB
set_option linter.all false
namespace Go.Proofs.YtflgngjocgiojaaGreat
def S3 (q:QI):Prop:=∃ n d:Int,d≠0/\n.natAbs<2^300/\d.natAbs<2^300/\q=toQ n d
theorem S3.sm {q:QI} (h:S3 q):SmQ q:=by
 obtain ⟨n,d,h1,h2,h3,rfl⟩:=h;exact toQ_sm h1 (sm_300 h2) (sm_300 h3)
theorem S3.mul {q r:QI} (h:S3 q) (h':S3 r):SmQ (mulQ q r):=by
 obtain ⟨n,d,h1,h2,h3,rfl⟩:=h;obtain ⟨m,e,g1,g2,g3,rfl⟩:=h';rw [mul_toQ h1 g1];have k1:=mul_300 h2 g2;have k2:=mul_300 h3 g3;have h5:=top_600;refine toQ_sm (Int.mul_ne_zero h1 g1) ?_ ?_
 ·unfold Sm;generalize 2^300*2^300=X at *;omega
 ·unfold Sm;generalize 2^300*2^300=X at *;omega
theorem RInv.s3 {L0:List (List Int)} {wd:Nat} {s:BS} {t:RS} {c:Nat} {π cs:Nat->Nat} (hI:InvB L0 wd s c π cs) (h:RInv L0 wd s t π cs) (he:Ent L0 wd) (hc:c<=wd) (ha:s.a<=8):∀ i,i<L0.length->∀ j,j<wd->S3 (t.Q i j):=fun i hi j hj=>by
 have hO:∀ x,x<s.a->∀ y,y<wd->(rowF L0 (π x) y).natAbs<=2147483648:=fun x hx y hy=>he _ (hI.perm x (by have:=hI.a_le; omega)) y hy
 by_cases e:i<s.a
 ·refine ⟨_,_,crD_ne hI.nz _ (Zr _),?_,?_,h.top i e j hj⟩
  ·exact pow_small (show s.a<=9 by omega) (crN_abs (fun x hx b hb=>hO x hx _ (by have:=hI.col b hb; omega)) (fun x hx=>hO x hx j hj))
  ·exact pow_small (show s.a<=9 by omega) (crD_abs (fun x hx b hb=>hO x hx _ (by have:=hI.col b hb; omega)))
 ·refine ⟨_,_,by rw [hI.b_eq]; exact hI.nz _ (Zr _),hI.small he hc ha i hi j hj,?_,h.low i aO hi j hj⟩;rw [hI.b_eq];exact pow_small (show s.a<=9 by omega) (minD_abs fun x hx b hb=>hO x hx _ (by have:=hI.col b hb; omega))
theorem scl_old (Q:MQ) {a p c i:Nat} (j:Nat) (h:i≠a):sclQ (swpQ Q a p) a c i j=Q (swpN a p i) j:=by
 show (if i=a then _ else swpQ Q a p i j)=_;rw [if_neg h,swpQ_eq]
theorem swpN_lt {a p i n:Nat} (h1:a<n) (h2:p<n) (h3:i<n):swpN a p i<n:=by
 unfold swpN;split
 ·exact h2
 ·split
  ·exact h1
  ·exact h3
theorem fine_R {L0:List (List Int)} {wd k:Nat} {Q:MQ} (hw:Wide L0 wd) (h:∀ i,i<L0.length->∀ j,j<wd->Q i j=(zAt (rAt L0 i) j,1)) (he:Ent L0 wd) (hk:k<=wd) (hk8:k<=8):FineR L0.length wd k Q:=by
 have key:∀ c,c<=k->∀ i,i<L0.length->∀ j,j<wd->S3 ((runR L0.length Q c).Q i j):=fun c hc=>by
  obtain ⟨π,cs,hI,hR⟩:=RInv.run hw h c aO;have ha:=runB_a ⟨L0,1,0⟩ c;simp only at ha;exact hR.s3 hI he aO aO
 refine ⟨fun i hi j hj=>(key 0 (Nat.zero_le _) i hi j hj).sm,fun c hc=>?_⟩;have hnew:=key (c+1) aO;have hold:=key c aO;obtain ⟨π,cs,hI,hR⟩:=RInv.run hw h c aO;obtain ⟨hq,hl⟩:=hR.find hI aO;have hscl:∀ p,findQ (runR L0.length Q c).Q c (L0.length - (runR L0.length Q c).l.length) (runR L0.length Q c).l.length=some p->∀ i,i<L0.length->∀ j,j<wd->S3 (sclQ (swpQ (runR L0.length Q c).Q (runR L0.length Q c).l.length p) (runR L0.length Q c).l.length c i j):=fun p hp i hi j hj=>by
  by_cases e:i=(runR L0.length Q c).l.length
  ·have h1:=hnew i hi j hj;rw [runR,stepR_some hp] at h1;have h2:elmQ (sclQ (swpQ (runR L0.length Q c).Q (runR L0.length Q c).l.length p) (runR L0.length Q c).l.length c) (runR L0.length Q c).l.length c L0.length i j=sclQ (swpQ (runR L0.length Q c).Q (runR L0.length Q c).l.length p) (runR L0.length Q c).l.length c i j:=by
    unfold elmQ;rw [if_neg aO]
   rw [<- h2];exact h1
  ·rw [scl_old _ _ e];have h3:=hq ▸ hp;have h4:=findP_spec _ _ _ h3;have h5:=hI.len;refine hold _ (swpN_lt ?_ ?_ hi) j hj
   ·omega
   ·omega
 refine ⟨fun i hi j hj=>(hold i hi j hj).sm,fun p hp i hi j hj=>(hscl p hp i hi j hj).sm,fun p hp i hi hne j hj=>?_,fun i hi j hj=>(hnew i hi j hj).sm⟩;have h3:=hq ▸ hp;have h4:=findP_spec _ _ _ h3;have h5:=hI.len;exact (hscl p hp _ aO j hj).mul (hscl p hp i hi c aO)
theorem runR_l {L0:List (List Int)} {wd:Nat} {Q:MQ} (hw:Wide L0 wd) (h:∀ i,i<L0.length->∀ j,j<wd->Q i j=(zAt (rAt L0 i) j,1)):∀ c,c<=wd->(runR L0.length Q c).l=(leadsB ⟨L0,1,0⟩ c).map Prod.fst
 | 0,_=>rfl
 | c+1,hc=>by
  obtain ⟨π,cs,hI,hR⟩:=RInv.run hw h c aO;have ih:=runR_l hw h c aO;obtain ⟨hq,hl⟩:=hR.find hI aO;rw [runR,leadsB];cases hf:findP (runB ⟨L0,1,0⟩ c).L c ((runB ⟨L0,1,0⟩ c).L.length - (runB ⟨L0,1,0⟩ c).a) (runB ⟨L0,1,0⟩ c).a with
  | none =>
   rw [stepR_none (hq.trans hf),ih];simp
  | some p =>
   rw [stepR_some (hq.trans hf),ih];simp
theorem runR_more (n:Nat) (Q:MQ) (c:Nat):∀ d,∃ rest,(runR n Q (c+d)).l=(runR n Q c).l++rest
 | 0=>⟨[],(List.append_nil _).symm⟩
 | d+1=>by
  obtain ⟨rest,h⟩:=runR_more n Q c d;rw [<- Nat.add_assoc,runR];cases hf:findQ (runR n Q (c+d)).Q (c+d) (n - (runR n Q (c+d)).l.length) (runR n Q (c+d)).l.length with
  | none=>rw [stepR_none hf]; exact ⟨rest,h⟩
  | some p=>rw [stepR_some hf]; exact ⟨rest++[c+d],by rw [h,List.append_assoc]⟩
theorem sumQ_congr {R R':List Int} {x x':Nat->QI} {k last:Nat} (hR:R=R'):∀ j,(∀ i,i<j->x (k+1+i)=x' (k+1+i))->sumQ R x k last j=sumQ R' x' k last j
 | 0,_=>by rw [hR]; rfl
 | j+1,h=>by rw [sumQ,sumQ,sumQ_congr hR j (fun i hi=>h i aO),h j aO,hR]
theorem BackQ.congr {L L':List (List Int)} {x x':Nat->QI} {n last:Nat} (h:BackQ L x n last) (hL:∀ k,k<n->rAt L' k=rAt L k) (hx:∀ k,k<n->x' k=x k):BackQ L' x' n last:=by
 have hs:∀ k,k<n->∀ j,j<=n - 1 - k->sumQ (rAt L' k) x' k last j=sumQ (rAt L k) x k last j:=fun k hk j hj=>sumQ_congr (hL k hk) j (fun i hi=>hx _ aO)
 refine ⟨fun k hk=>?_,fun k hk=>?_,fun k hk=>?_,fun k hk j hj=>?_,fun k hk j hj=>?_,fun k hk=>?_⟩
 ·rw [hx k hk,hs k hk _ (Zr _),hL k hk];exact h.eq k hk
 ·rw [hL k hk]; exact h.lead k hk
 ·rw [hL k hk]; exact h.elem k hk
 ·rw [hs k hk j hj]; exact h.sum k hk j hj
 ·rw [hL k hk,hx _ aO]; exact h.part k hk j hj
 ·rw [hx k hk]; exact h.val k hk
theorem BackQ.uniq {L:List (List Int)} {x x':Nat->QI} {n last:Nat} (h:BackQ L x n last) (h':BackQ L x' n last):∀ d k,n - k<=d->k<n->x k=x' k
 | 0,k,h1,h2=>aO
 | d+1,k,h1,h2=>by
  rw [h.eq k h2,h'.eq k h2,sumQ_congr rfl (n - 1 - k) (fun i hi=>BackQ.uniq h h' d (k+1+i) aO aO)]
theorem RInv.keep {L0:List (List Int)} {wd:Nat} {s:BS} {t:RS} {c:Nat} {π cs:Nat->Nat} (hI:InvB L0 wd s c π cs) (h:RInv L0 wd s t π cs) (hc:c<wd) {f i:Nat} (hf:f<c) (hi:i<s.a):(stepR L0.length t c).Q i f=t.Q i f:=by
 obtain ⟨hq,hl⟩:=h.find hI hc;have hb:s.b≠0:=by rw [hI.b_eq]; exact hI.nz _ (Zr _)
 have hsn:=hI.len;have hale:=hI.a_le;cases hff:findP s.L c (s.L.length - s.a) s.a with
 | none=>rw [stepR_none (hq.trans hff)]
 | some p =>
  rw [stepR_some (hq.trans hff),hl];obtain ⟨hp1,hp2,hp3⟩:=findP_spec _ _ _ hff;show elmQ _ _ _ _ i f=_;unfold elmQ;have hn:swpN s.a p i=i:=by unfold swpN; rw [if_neg aO,if_neg aO]
  have hz:=hI.zero p hp1 aO f hf;have hne:i≠s.a:=aO
  rw [if_pos ⟨aO,hne⟩,scl_old _ f hne,scl_old _ c hne,hn];have h1:sclQ (swpQ t.Q s.a p) s.a c s.a f=toQ 0 1:=by
   show (if s.a=s.a then divQ (swpQ t.Q s.a p s.a f) (swpQ t.Q s.a p s.a c) else _)=_;rw [if_pos rfl,swpQ_eq,show swpN s.a p s.a=p from if_pos rfl,h.low p hp1 aO f aO,h.low p hp1 aO c hc,div_toQ2 hb hp3 hb,hz];exact toQ_eq (Int.mul_ne_zero hb hp3) aO aS
  have hD:=crD_ne hI.nz _ (Zr _);rw [h1,h.top i hi f aO,h.top i hi c hc,mul_toQ aO hD,sub_toQ hD (Int.mul_ne_zero aO hD)];refine toQ_eq (Int.mul_ne_zero hD (Int.mul_ne_zero aO hD)) hD ?_;grind
theorem runR_keep {L0:List (List Int)} {wd:Nat} {Q:MQ} (hw:Wide L0 wd) (h:∀ i,i<L0.length->∀ j,j<wd->Q i j=(zAt (rAt L0 i) j,1)) {c f i:Nat} (hf:f<c) (hi:i<(runB ⟨L0,1,0⟩ c).a):∀ d,c+d<=wd->(runR L0.length Q (c+d)).Q i f=(runR L0.length Q c).Q i f
 | 0,_=>rfl
 | d+1,hd=>by
  obtain ⟨π,cs,hI,hR⟩:=RInv.run hw h (c+d) aO;have h1:i<(runB ⟨L0,1,0⟩ (c+d)).a:=by
   have key:∀ d,(runB ⟨L0,1,0⟩ c).a<=(runB ⟨L0,1,0⟩ (c+d)).a:=fun d=>by
    induction d with
    | zero=>exact Zr _
    | succ d ih=>exact Zm ih (stepB_a (runB ⟨L0,1,0⟩ (c+d)) (c+d)).2.1
   have:=key d;omega
  rw [<- Nat.add_assoc,runR,hR.keep hI aO aO h1];exact runR_keep hw h hf hi d aO
def intQ (M:List (List Int)):MQ:=fun i j=>(iAt (rAt M i) j,1)
theorem intQ_sys (M:List (List Int)) (wd:Nat):∀ i,i<(sysL M [] M.length).length->∀ j,j<wd->intQ M i j=(zAt (rAt (sysL M [] M.length) i) j,1):=fun i hi j _=>by
 rw [sysL_len] at hi;rw [rAt_sysL M [] hi,sysR_nil];rfl
theorem ref_fine {M:List (List Int)} (h:matCheck M=0):FineR M.length (cols M) (cols M) (intQ M):=by
 obtain ⟨_,h2,h3,_⟩:=matCheck_ok h;have:=fine_R (wide_sys h3) (intQ_sys M (cols M)) (ent_sys h) (Zr _) h2;rw [sysL_len] at this;exact this
theorem ref_rank {M:List (List Int)} (h:matCheck M=0):(runR M.length (intQ M) (cols M)).l.length=rankZ M:=by
 obtain ⟨_,h2,h3,_⟩:=matCheck_ok h;have:=runR_l (wide_sys h3) (intQ_sys M (cols M)) (cols M) (Zr _);rw [sysL_len] at this;rw [this,List.length_map];unfold rankZ;rw [if_pos h]
theorem ref_first {M:List (List Int)} (h:matCheck M=0) {f:Nat} (h1:f<=(runR M.length (intQ M) (cols M)).l.length) (h2:∀ t,t<f->(runR M.length (intQ M) (cols M)).l[t]?=some t) (h3:(runR M.length (intQ M) (cols M)).l[f]?≠some f):f=kernF M:=by
 obtain ⟨_,h8,h9,_⟩:=matCheck_ok h;have hl:=runR_l (wide_sys h9) (intQ_sys M (cols M)) (cols M) (Zr _);rw [sysL_len] at hl;obtain ⟨π,cs,hI,hL⟩:=InvB.run2 (wide_sys h9) (cols M) (Zr _);obtain ⟨g1,g2,g3⟩:=firstF_range cs (runB ⟨sysL M [] M.length,1,0⟩ (cols M)).a;rw [<- hL] at g1 g2 g3;have hk:firstF (leadsB ⟨sysL M [] M.length,1,0⟩ (cols M))=kernF M:=rfl;rw [hk] at g1 g2 g3;rw [hl,hL,List.map_map] at h1 h2 h3;obtain ⟨a,ha⟩:=Zx ((runB ⟨sysL M [] M.length,1,0⟩ (cols M)).a);rw [ha] at h1 h2 h3 g1 g3;have hat:∀ t,t<a->((List.range a).map (Prod.fst ∘ fun t=>(cs t,t)))[t]?=some (cs t):=fun t ht=>by simp [ht]
 rw [List.length_map,List.length_range] at h1;rcases Nat.lt_trichotomy f (kernF M) with e | e | e
 ·exact absurd (by rw [hat f aO,g2 f e]) h3
 ·exact e
 ·have:=h2 (kernF M) e;rw [hat (kernF M) aO] at this;injection this with this
  exact absurd this (g3 aO)
theorem ref_kern {M:List (List Int)} (h:matCheck M=0):FineK M (fun k=>(runR M.length (intQ M) (cols M)).Q k (kernF M)) (kernF M):=by
 obtain ⟨x,hx⟩:=kern_fine (M:=M);obtain ⟨_,h8,h9,_⟩:=matCheck_ok h;obtain ⟨hx1,hx2⟩:=hx h;intro _;refine ⟨hx1,fun hfc=>?_⟩;obtain ⟨hB,hW⟩:=hx2 hfc;obtain ⟨f,hf⟩:=Zx (kernF M);have hw:=wide_sys h9;have hQ:=intQ_sys M (cols M);obtain ⟨π0,cs0,hI0,ha0,_⟩:=kern_stage hw (f:=f) hf aO;obtain ⟨π1,cs1,hI1,hR1⟩:=RInv.run hw hQ (f+1) aO;have hl1:=hR1.len;rw [ha0,sysL_len] at hl1;have hcs1:∀ t,t<f->cs1 t=t:=fun t ht=>by
  have hl:=runR_l hw hQ (cols M) (Zr _);obtain ⟨π,cs,hI,hL⟩:=InvB.run2 hw (cols M) (Zr _);obtain ⟨g1,g2,_⟩:=firstF_range cs (runB ⟨sysL M [] M.length,1,0⟩ (cols M)).a;rw [<- hL] at g1 g2;have hk:firstF (leadsB ⟨sysL M [] M.length,1,0⟩ (cols M))=f:=hf;rw [hk] at g1 g2;rw [hL,List.map_map,sysL_len] at hl;obtain ⟨rest,hr⟩:=runR_more M.length (intQ M) (f+1) (cols M - (f+1));rw [show f+1+(cols M - (f+1))=cols M by omega,hl,hl1] at hr;have h1:(List.map (Prod.fst ∘ fun t=>(cs t,t)) (List.range (runB ⟨sysL M [] M.length,1,0⟩ (cols M)).a))[t]?=(List.map cs1 (List.range f)++rest)[t]?:=congrArg (fun l=>l[t]?) hr;rw [List.getElem?_append_left (by simp; exact ht)] at h1;simp [ht,show t<(runB ⟨sysL M [] M.length,1,0⟩ (cols M)).a by omega] at h1;rw [<- h1];exact g2 t ht
 have hval:∀ k,k<f->(runR M.length (intQ M) (cols M)).Q k f=toQ (cramN f (fun i=>rowF (sysL M [] M.length) (π1 i)) f k) (cramD f (fun i=>rowF (sysL M [] M.length) (π1 i))):=fun k hk=>by
  have h1:=runR_keep hw hQ (c:=f+1) (f:=f) (i:=k) aO aO (cols M - (f+1)) aO;rw [show f+1+(cols M - (f+1))=cols M by omega,sysL_len] at h1;have h2:=hR1.top k aO f aO;rw [sysL_len,ha0] at h2;rw [h1,h2,crN_eq (O':=fun i=>rowF (sysL M [] M.length) (π1 i)) (cs':=id) (fun _ _=>rfl) hcs1,crD_eq (O':=fun i=>rowF (sysL M [] M.length) (π1 i)) (cs':=id) (fun _ _=>rfl) hcs1];rfl
 have he:=ent_sys h;have hale:=hI1.a_le;obtain ⟨hB1,_⟩:=back_ok (L:=(runB ⟨sysL M [] M.length,1,0⟩ (f+1)).L) (O:=fun i=>rowF (sysL M [] M.length) (π1 i)) (cs:=cs1) (f:=f) (last:=f) (wd:=cols M) aO aO aO hcs1 (fun t ht=>hI1.nz t aO) (fun k hk j hj=>hI1.high k aO j hj) (fun i hi c hc=>he _ (hI1.perm i aO) c hc);have hB2:BackQ (runB ⟨sysL M [] M.length,1,0⟩ (cols M)).L (fun k=>(runR M.length (intQ M) (cols M)).Q k f) f f:=by
  refine hB1.congr (fun k hk=>?_) hval;have h1:=runB_keep (s:=⟨sysL M [] M.length,1,0⟩) (Nat.zero_le _) (c:=f+1) (i:=k) aO (cols M - (f+1));rw [show f+1+(cols M - (f+1))=cols M by omega] at h1;exact h1
 rw [hf] at hB hW ⊢;refine ⟨hB2,?_⟩;have e:kernQ (fun k=>(runR M.length (intQ M) (cols M)).Q k f) f=kernQ x f:=funext fun i=>by
  unfold kernQ
  by_cases h1:i<f
  ·rw [if_pos h1,if_pos h1];exact congrArg (subQ (0,1)) (BackQ.uniq hB2 hB f i aO h1)
  ·rw [if_neg h1,if_neg h1]
 rw [e];exact hW
def sysQ (M:List (List Int)) (b:List Int):MQ:=fun i j=>(zAt (rAt (sysL M b M.length) i) j,1)
theorem ref_fineS {M:List (List Int)} {b:List Int} (h1:matCheck M=0) (h2:cols M=M.length) (h3:b.length=M.length) (h4:anyF (fun k=>largeI (iAt b k)) b.length=false):FineR M.length (M.length+1) M.length (sysQ M b):=by
 obtain ⟨_,hk8,hw0,_⟩:=matCheck_ok h1;have:=fine_R (Q:=sysQ M b) (wide_sys1 hw0 h3) (fun i _ j _=>rfl) (ent_sys1 h1 h3 h4) (show M.length<=cols M+1 by omega) aO;rw [sysL_len,h2] at this;exact this
theorem ref_rankS {M:List (List Int)} {b:List Int} (h1:matCheck M=0) (h2:cols M=M.length) (h3:b.length=M.length):(runR M.length (sysQ M b) M.length).l.length=rankS M b:=by
 obtain ⟨_,_,hw0,_⟩:=matCheck_ok h1;have:=runR_l (Q:=sysQ M b) (wide_sys1 hw0 h3) (fun i _ j _=>rfl) (cols M) aO;rw [sysL_len,h2] at this;rw [this,List.length_map];unfold rankS;rw [h2]
theorem ref_solve (M:List (List Int)) (b:List Int):FineS M b (fun k=>(runR M.length (sysQ M b) M.length).Q k M.length):=by
 intro h1 h2 h3 h4;obtain ⟨_,hk8,hw0,_⟩:=matCheck_ok h1;have hw:=wide_sys1 hw0 h3;refine ⟨solve_fine h1 h2 h3 h4,fun hr=>?_⟩;obtain ⟨π,cs,hI,hR⟩:=RInv.run (Q:=sysQ M b) hw (fun i _ j _=>rfl) (cols M) aO;have he:=ent_sys1 h1 h3 h4;have hale:=hI.a_le;rw [sysL_len] at hale;have hra:rankS M b=(runB ⟨sysL M b M.length,1,0⟩ (cols M)).a:=by
  unfold rankS;have:=leadsB_len ⟨sysL M b M.length,1,0⟩ (cols M);simpa using this
 have ha:(runB ⟨sysL M b M.length,1,0⟩ (cols M)).a=M.length:=aO
 have hid:=inc_id (cs:=cs) (n:=M.length) (fun t ht=>by have:=hI.col t aO; omega) (fun t u h5 h6=>hI.inc t u h5 aO);obtain ⟨hB,_⟩:=back_ok (L:=(runB ⟨sysL M b M.length,1,0⟩ (cols M)).L) (O:=fun i=>rowF (sysL M b M.length) (π i)) (cs:=cs) (f:=M.length) (last:=M.length) (wd:=cols M+1) aO aO aO hid (fun t ht=>hI.nz t aO) (fun k hk j hj=>hI.high k aO j hj) (fun i hi c hc=>he _ (hI.perm i (by rw [sysL_len]; omega)) c hc);refine hB.congr (fun _ _=>rfl) fun k hk=>?_
 have h5:=hR.top k aO M.length aO;rw [sysL_len,ha,h2,crN_eq (O':=fun i=>rowF (sysL M b M.length) (π i)) (cs':=id) (fun _ _=>rfl) hid,crD_eq (O':=fun i=>rowF (sysL M b M.length) (π i)) (cs':=id) (fun _ _=>rfl) hid] at h5;exact h5
end Go.Proofs.YtflgngjocgiojaaGreat
namespace Go.Proofs.YtflgngjocgiojaaGreat
open Go.RowKit
def RatsX (X:Nat->Prop) (w:World) (A:Option Addr) (n:Nat) (Q:Nat->QI):Prop:=0<n->∃ b off,A=some ⟨b,off,none⟩/\b<w.heap.size/\X b/\∀ i,i<n->∃ s1 A1 n1 c1 s2 A2 n2 c2,w.cell? ⟨b,off+i*4,none⟩=some (.bool s1)/\w.cell? ⟨b,off+i*4+1,none⟩=some (.slice A1 n1 c1)/\w.cell? ⟨b,off+i*4+2,none⟩=some (.bool s2)/\w.cell? ⟨b,off+i*4+3,none⟩=some (.slice A2 n2 c2)/\RatX X w s1 A1 n1 c1 s2 A2 n2 c2 (Q i).1 (Q i).2
theorem RatsX.move {X Y:Nat->Prop} {w w':World} {A:Option Addr} {n:Nat} {Q:Nat->QI} (h:RatsX X w A n Q) (hs:w.heap.size<=w'.heap.size) (hk:∀ b,b<w.heap.size->X b->w'.heap[b]?=w.heap[b]?/\Y b):RatsX Y w' A n Q:=fun h0=>by
 obtain ⟨b,off,e,hlt,hX,hc⟩:=h h0;refine ⟨b,off,e,Zl hlt hs,(hk b hlt hX).2,fun i hi=>?_⟩;obtain ⟨s1,A1,n1,c1,s2,A2,n2,c2,e1,e2,e3,e4,hr⟩:=hc i hi;have hB:=(hk b hlt hX).1;exact ⟨s1,A1,n1,c1,s2,A2,n2,c2,(Zc (w:=w) (a:=⟨b,off+i*4,none⟩) hB).trans e1,(Zc (w:=w) (a:=⟨b,off+i*4+1,none⟩) hB).trans e2,(Zc (w:=w) (a:=⟨b,off+i*4+2,none⟩) hB).trans e3,(Zc (w:=w) (a:=⟨b,off+i*4+3,none⟩) hB).trans e4,hr.move hs hk⟩
theorem RatsX.below {X:Nat->Prop} {w w':World} {A:Option Addr} {n:Nat} {Q:Nat->QI} (h:RatsX X w A n Q) (hb:Below w.heap.size w w'):RatsX X w' A n Q:=h.move hb.size fun b hlt hX=>⟨hb.block b hlt,hX⟩
theorem RatsX.imp {X Y:Nat->Prop} {w:World} {A:Option Addr} {n:Nat} {Q:Nat->QI} (h:RatsX X w A n Q) (hk:∀ b,b<w.heap.size->X b->Y b):RatsX Y w A n Q:=h.move (Zr _) fun b hlt hX=>⟨rfl,hk b hlt hX⟩
theorem RatsX.toA {X:Nat->Prop} {w:World} {A:Option Addr} {n:Nat} {Q:Nat->QI} (h:RatsX X w A n Q):RatsA w A n Q:=fun h0=>by
 obtain ⟨b,off,e,hlt,_,hc⟩:=h h0;refine ⟨b,off,e,hlt,fun i hi=>?_⟩;obtain ⟨s1,A1,n1,c1,s2,A2,n2,c2,e1,e2,e3,e4,hr⟩:=hc i hi;exact ⟨s1,A1,n1,c1,s2,A2,n2,c2,e1,e2,e3,e4,hr.2.2.1,hr.2.2.2⟩
theorem RatsX.congr {X:Nat->Prop} {w:World} {A:Option Addr} {n:Nat} {Q Q':Nat->QI} (h:RatsX X w A n Q) (e:∀ i,i<n->Q' i=Q i):RatsX X w A n Q':=fun h0=>by
 obtain ⟨b,off,e0,hlt,hX,hc⟩:=h h0;exact ⟨b,off,e0,hlt,hX,fun i hi=>by rw [e i hi]; exact hc i hi⟩
theorem RatC.congr {X:Nat->Prop} {w:World} {xs:List Value} {n:Nat} {Q Q':Nat->QI} (h:RatC X w xs n Q) (e:∀ i,i<n->Q' i=Q i):RatC X w xs n Q':=⟨h.1,fun i hi=>by rw [e i hi]; exact h.2 i hi⟩
def GrowQ (base:Nat) (w:World) (v:Value) (n:Nat) (Q:Nat->QI):Prop:=∃ xs,w.ownsRow base 37 4 v n xs/\RatC (fun b=>base<=b/\some b≠v.ownBlock) w xs n Q
theorem GrowQ.start (base:Nat) (w:World) (Q:Nat->QI):GrowQ base w (.slice none 0 0) 0 Q:=⟨[],⟨rfl,.inl ⟨rfl,rfl⟩⟩,rfl,fun i h=>absurd h (Nat.not_lt_zero i)⟩
theorem GrowQ.below {base:Nat} {w w':World} {v:Value} {n:Nat} {Q:Nat->QI} (h:GrowQ base w v n Q) (hb:Below w.heap.size w w'):GrowQ base w' v n Q:=by
 obtain ⟨xs,h1,h2⟩:=h;exact ⟨xs,ownsRow_stay h1 hb,h2.move hb.size fun b hlt hX=>⟨hb.block b hlt,hX⟩⟩
theorem GrowQ.congr {base:Nat} {w:World} {v:Value} {n:Nat} {Q Q':Nat->QI} (h:GrowQ base w v n Q) (e:∀ i,i<n->Q' i=Q i):GrowQ base w v n Q':=by
 obtain ⟨xs,h1,h2⟩:=h;exact ⟨xs,h1,h2.congr e⟩
theorem GrowQ.lt {base:Nat} {w:World} {v:Value} {n:Nat} {Q:Nat->QI} (h:GrowQ base w v n Q):∀ b,v.ownBlock=some b->b<w.heap.size:=by
 obtain ⟨xs,h1,_⟩:=h;exact fun b hb=>ownBlock_lt h1 hb
theorem RatC.next {base g cg n:Nat} {U w':World} {v:Value} {xs:List Value} {Q:Nat->QI} {s1 s2:Bool} {A1 A2:Option Addr} {n1 c1 n2 c2:Nat} (hc:RatC (fun b=>base<=b/\some b≠v.ownBlock) U xs n Q) (hr:RatX (fun b=>base<=b/\some b≠v.ownBlock) U s1 A1 n1 c1 s2 A2 n2 c2 (Q n).1 (Q n).2)
 (ho:w'.ownsRow base 37 4 (.slice (some ⟨g,0,none⟩) (n+1) cg) (n+1) (xs++[.bool s1,.slice A1 n1 c1,.bool s2,.slice A2 n2 c2])) (hg:U.grownBy w' v.ownBlock) (hat:v.ownBlock=some g\/U.heap.size<=g):GrowQ base w' (.slice (some ⟨g,0,none⟩) (n+1) cg) (n+1) Q:=
 ⟨_,ho,(hc.snoc hr).move hg.size fun b hb hX=>⟨hg.block b hb hX.2,hX.1,fun e=>by
  have e2:some b=some g:=e;cases e2;rcases hat with h | h
  ·exact hX.2 h.symm
  ·omega⟩⟩
theorem GrowQ.row {base:Nat} {w:World} {v:Value} {n:Nat} {Q:Nat->QI} (h:GrowQ base w v n Q):∃ A c,v = .slice A n c/\n<=c/\c<=9223372036854775807/\RatsX (fun b=>base<=b) w A n Q/\(0<n->∃ g,A=some ⟨g,0,none⟩/\base<=g):=by
 obtain ⟨xs,h,hr⟩:=h;rcases h.2 with ⟨rfl,h0⟩ | ⟨g,cap,cur,rfl,h1,h2,h3,h4,h5,h6⟩
 ·subst h0;exact ⟨none,0,rfl,Zr _,aO,fun h=>absurd h (Nat.lt_irrefl 0),fun h=>absurd h (Nat.lt_irrefl 0)⟩
 ·have hg:g<w.heap.size:=by
   rcases Nat.lt_or_ge g w.heap.size with h | h
   ·exact h
   ·rw [Array.getElem?_eq_none h] at h2; cases h2
  have h4':=h4;unfold maxLen at h4';refine ⟨some ⟨g,0,none⟩,cap,rfl,h3,aO,fun h0=>⟨g,0,rfl,hg,h1,fun i hi=>?_⟩,fun _=>⟨g,rfl,h1⟩⟩;obtain ⟨s1,A1,n1,c1,s2,A2,n2,c2,e1,e2,e3,e4,hx⟩:=hr.2 i hi;have q:=(ownsRow_cell (xs:=xs) (size:=4) (e:=37) ⟨h.1,.inr ⟨g,cap,cur,rfl,h1,h2,h3,h4,h5,h6⟩⟩ h0).2.2.2.2;refine ⟨s1,A1,n1,c1,s2,A2,n2,c2,?_,?_,?_,?_,hx.move (Zr _) fun b _ hX=>⟨rfl,hX.1⟩⟩
  ·rw [Nat.zero_add,q _ aO]; exact e1
  ·rw [Nat.zero_add,q _ aO]; exact e2
  ·rw [Nat.zero_add,q _ aO]; exact e3
  ·rw [Nat.zero_add,q _ aO]; exact e4
def RowQ (base:Nat) (w:World) (v:Value) (n:Nat) (Q:Nat->QI):Prop:=∃ A c,v = .slice A n c/\n<=c/\c<=9223372036854775807/\RatsX (fun b=>base<=b) w A n Q/\(0<n->∃ g,A=some ⟨g,0,none⟩)
def rowRB (T:List Nat) (B0 n:Nat) (Q:Nat->QI):EBS T where
 val p:= .slice (some ⟨p.1,0,none⟩) n p.2
 R p u:=n<=p.2/\p.2<=9223372036854775807/\RatsX (fun b=>B0<=b/\b∉T) u (some ⟨p.1,0,none⟩) n Q
 st _ _ _ h k:=⟨h.1,h.2.1,h.2.2.move k.size fun b hb hX=>⟨k.block b hb hX.2,hX⟩⟩
theorem rowRB_val {T:List Nat} {B0 n:Nat} {Q:Nat->QI} {p:Nat×Nat}:(rowRB T B0 n Q).val p = .slice (some ⟨p.1,0,none⟩) n p.2:=rfl
theorem RatsX.keeps {X:Nat->Prop} {w u:World} {A:Option Addr} {n:Nat} {Q:Nat->QI} (h:RatsX X w A n Q) (hk:Keeps [] w u):RatsX X u A n Q:=h.move hk.1 fun b hb hX=>⟨hk.2 b hb aS,hX⟩
def RowsR (X:Nat->Prop) (w:World) (xs:List Value) (n wd:Nat) (Q:MQ):Prop:=xs.length=n/\∀ i,i<n->∃ B c,xs[i]?=some (.slice B wd c)/\wd<=c/\c<=9223372036854775807/\RatsX X w B wd (Q i)
theorem RowsR.move {X Y:Nat->Prop} {w w':World} {xs:List Value} {n wd:Nat} {Q:MQ} (h:RowsR X w xs n wd Q) (hs:w.heap.size<=w'.heap.size) (hk:∀ b,b<w.heap.size->X b->w'.heap[b]?=w.heap[b]?/\Y b):RowsR Y w' xs n wd Q:=
 ⟨h.1,fun i hi=>by
  obtain ⟨B,c,h1,h2,h3,h4⟩:=h.2 i hi;exact ⟨B,c,h1,h2,h3,h4.move hs hk⟩⟩
theorem RowsR.snoc {X:Nat->Prop} {w:World} {xs:List Value} {n wd:Nat} {Q:MQ} {B:Option Addr} {c:Nat} (h:RowsR X w xs n wd Q) (h1:wd<=c) (h2:c<=9223372036854775807) (h3:RatsX X w B wd (Q n)):RowsR X w (xs++[.slice B wd c]) (n+1) wd Q:=
 ⟨by simp [h.1],fun i hi=>by
  by_cases e:i=n
  ·subst e;rw [<- h.1,List.getElem?_append_right (Zr _),Nat.sub_self];refine ⟨B,c,rfl,h1,h2,?_⟩;rw [h.1]; exact h3
  ·rw [List.getElem?_append_left (by rw [h.1]; omega)];exact h.2 i aO⟩
def GrowM (base:Nat) (w:World) (v:Value) (n wd:Nat) (Q:MQ):Prop:=∃ xs,w.ownsRow base 38 1 v n xs/\RowsR (fun b=>base<=b/\some b≠v.ownBlock) w xs n wd Q
theorem GrowM.start (base:Nat) (w:World) (wd:Nat) (Q:MQ):GrowM base w (.slice none 0 0) 0 wd Q:=⟨[],⟨rfl,.inl ⟨rfl,rfl⟩⟩,rfl,fun i h=>absurd h (Nat.not_lt_zero i)⟩
theorem GrowM.below {base:Nat} {w w':World} {v:Value} {n wd:Nat} {Q:MQ} (h:GrowM base w v n wd Q) (hb:Below w.heap.size w w'):GrowM base w' v n wd Q:=by
 obtain ⟨xs,h1,h2⟩:=h;exact ⟨xs,ownsRow_stay h1 hb,h2.move hb.size fun b hlt hX=>⟨hb.block b hlt,hX⟩⟩
theorem GrowM.lt {base:Nat} {w:World} {v:Value} {n wd:Nat} {Q:MQ} (h:GrowM base w v n wd Q):∀ b,v.ownBlock=some b->b<w.heap.size:=by
 obtain ⟨xs,h1,_⟩:=h;exact fun b hb=>ownBlock_lt h1 hb
theorem RowsR.next {base g cg n wd:Nat} {U w':World} {v:Value} {xs:List Value} {Q:MQ} {B:Option Addr} {c:Nat} (hc:RowsR (fun b=>base<=b/\some b≠v.ownBlock) U xs n wd Q) (h1:wd<=c) (h2:c<=9223372036854775807) (hr:RatsX (fun b=>base<=b/\some b≠v.ownBlock) U B wd (Q n))
 (ho:w'.ownsRow base 38 1 (.slice (some ⟨g,0,none⟩) (n+1) cg) (n+1) (xs++[.slice B wd c])) (hg:U.grownBy w' v.ownBlock) (hat:v.ownBlock=some g\/U.heap.size<=g):GrowM base w' (.slice (some ⟨g,0,none⟩) (n+1) cg) (n+1) wd Q:=
 ⟨_,ho,(hc.snoc h1 h2 hr).move hg.size fun b hb hX=>⟨hg.block b hb hX.2,hX.1,fun e=>by
  have e2:some b=some g:=e;cases e2;rcases hat with h | h
  ·exact hX.2 h.symm
  ·omega⟩⟩
def MatR (X:Nat->Prop) (w:World) (g n wd:Nat) (Q:MQ):Prop:=∃ cs,Own w g cs/\∀ i,i<n->∃ B c,cs[i]?=some (.slice B wd c)/\wd<=c/\c<=9223372036854775807/\RatsX X w B wd (Q i)
theorem MatR.below {X:Nat->Prop} {w w':World} {g n wd:Nat} {Q:MQ} (h:MatR X w g n wd Q) (hb:Below w.heap.size w w'):MatR X w' g n wd Q:=by
 obtain ⟨cs,ho,hc⟩:=h;refine ⟨cs,ho.below hb,fun i hi=>?_⟩;obtain ⟨B,c,h1,h2,h3,h4⟩:=hc i hi;exact ⟨B,c,h1,h2,h3,h4.below hb⟩
theorem MatR.congr {X:Nat->Prop} {w:World} {g n wd:Nat} {Q Q':MQ} (h:MatR X w g n wd Q) (e:∀ i,i<n->∀ j,j<wd->Q' i j=Q i j):MatR X w g n wd Q':=by
 obtain ⟨cs,ho,hc⟩:=h;refine ⟨cs,ho,fun i hi=>?_⟩;obtain ⟨B,c,h1,h2,h3,h4⟩:=hc i hi;exact ⟨B,c,h1,h2,h3,h4.congr (e i hi)⟩
theorem MatR.lt {X:Nat->Prop} {w:World} {g n wd:Nat} {Q:MQ} (h:MatR X w g n wd Q):g<w.heap.size:=by
 obtain ⟨cs,ho,_⟩:=h;exact ho.lt
theorem MatR.thaw {X:Nat->Prop} {w:World} {g n wd:Nat} {Q:MQ} (h:MatR X w g n wd Q):∀ i,w.frozen? ⟨g,i,none⟩=false:=by
 obtain ⟨cs,ho,_⟩:=h;exact ho.thaw
theorem MatR.row {X:Nat->Prop} {w:World} {g n wd:Nat} {Q:MQ} (h:MatR X w g n wd Q) {i:Nat} (hi:i<n):∃ B c,w.cell? ⟨g,i,none⟩=some (.slice B wd c)/\wd<=c/\c<=9223372036854775807/\RatsX X w B wd (Q i):=by
 obtain ⟨cs,ho,hc⟩:=h;obtain ⟨B,c,h1,h2,h3,h4⟩:=hc i hi;exact ⟨B,c,(ho.cell i).trans h1,h2,h3,h4⟩
theorem MatR.setRow {X:Nat->Prop} {w:World} {g n wd:Nat} {Q Q':MQ} (h:MatR X w g n wd Q) {i:Nat} (hi:i<n) {B:Option Addr} {c:Nat} (hr:RatsX X w B wd (Q' i)) (h1:wd<=c) (h2:c<=9223372036854775807) (hX:∀ b,X b->b≠g) (he:∀ k,k<n->k≠i->Q' k=Q k):MatR X (w.setCell ⟨g,i,none⟩ (.slice B wd c)) g n wd Q':=by
 obtain ⟨cs,ho,hc⟩:=h;have hsz:(w.setCell ⟨g,i,none⟩ (.slice B wd c)).heap.size=w.heap.size:=by simp [World.setCell]
 have hmv:∀ {B2 q},RatsX X w B2 wd q->RatsX X (w.setCell ⟨g,i,none⟩ (.slice B wd c)) B2 wd q:=fun h=>h.move (by rw [hsz]; exact Zr _) fun b _ hb=>⟨Below.heap_setCell _ _ _ b (hX b hb),hb⟩
 refine ⟨_,ho.set i _,fun j hj=>?_⟩
 by_cases e:j=i
 ·subst e;obtain ⟨B2,c2,g1,_⟩:=hc j hi;have hjs:j<cs.size:=(Zt.1 g1).1;exact ⟨B,c,by rw [Array.getElem?_setIfInBounds,if_pos rfl,if_pos hjs],h1,h2,hmv hr⟩
 ·rw [he j hj e];obtain ⟨B2,c2,g1,g2,g3,g4⟩:=hc j hj;exact ⟨B2,c2,by rw [Array.getElem?_setIfInBounds,if_neg (fun h=>e h.symm)]; exact g1,g2,g3,hmv g4⟩
theorem MatR.move {X Y:Nat->Prop} {w w':World} {g n wd:Nat} {Q:MQ} (h:MatR X w g n wd Q) (hg:w'.heap[g]?=w.heap[g]?) (hs:w.heap.size<=w'.heap.size) (hk:∀ b,b<w.heap.size->X b->w'.heap[b]?=w.heap[b]?/\Y b):MatR Y w' g n wd Q:=by
 obtain ⟨cs,ho,hc⟩:=h;refine ⟨cs,ho.of_block hg,fun i hi=>?_⟩;obtain ⟨B,c,h1,h2,h3,h4⟩:=hc i hi;exact ⟨B,c,h1,h2,h3,h4.move hs hk⟩
theorem MatR.swap {X:Nat->Prop} {w:World} {g n wd a p:Nat} {Q:MQ} (h:MatR X w g n wd Q) (ha:a<n) (hp:p<n) (hX:∀ b,X b->b≠g) {Ba Bp:Option Addr} {ca cp:Nat} (ra:w.cell? ⟨g,a,none⟩=some (.slice Ba wd ca)) (rp:w.cell? ⟨g,p,none⟩=some (.slice Bp wd cp)) :
 MatR X ((w.setCell ⟨g,a,none⟩ (.slice Bp wd cp)).setCell ⟨g,p,none⟩ (.slice Ba wd ca)) g n wd (swpQ Q a p):=by
 obtain ⟨B1,c1,e1,z1,z2,x1⟩:=h.row ha;obtain ⟨B2,c2,e2,z3,z4,x2⟩:=h.row hp;rw [ra] at e1;rw [rp] at e2;cases e1;cases e2;have h1:=h.setRow (Q':=fun i=>if i=a then Q p else Q i) ha (by rw [if_pos rfl]; exact x2) z3 z4 hX (fun k _ hne=>if_neg hne);have x1':RatsX X (w.setCell ⟨g,a,none⟩ (.slice Bp wd cp)) Ba wd (Q a):=x1.move (by simp [World.setCell]) fun b _ hb=>⟨Below.heap_setCell _ _ _ b (hX b hb),hb⟩
 exact h1.setRow (Q':=swpQ Q a p) hp (by unfold swpQ; rw [if_pos rfl]; exact x1') z1 z2 hX (fun k _ hne=>by unfold swpQ; rw [if_neg hne])
theorem GrowM.mat {base:Nat} {w:World} {v:Value} {n wd:Nat} {Q:MQ} (h:GrowM base w v n wd Q) (h0:0<n):∃ g c,v = .slice (some ⟨g,0,none⟩) n c/\n<=c/\c<=9223372036854775807/\base<=g/\MatR (fun b=>base<=b/\b≠g) w g n wd Q:=by
 obtain ⟨xs,h,hr⟩:=h;rcases h.2 with ⟨_,h1⟩ | ⟨g,cap,cur,rfl,h1,h2,h3,h4,h5,h6⟩
 ·omega
 ·unfold maxLen at h4;refine ⟨g,cap,rfl,h3,h4,h1,cur,⟨_,h2⟩,fun i hi=>?_⟩;obtain ⟨B,c,e1,e2,e3,e4⟩:=hr.2 i hi;refine ⟨B,c,?_,e2,e3,e4.move (Zr _) fun b _ hX=>⟨rfl,hX.1,fun e=>hX.2 (by rw [e]; rfl)⟩⟩;rw [<- h6,List.getElem?_take] at e1;split at e1
  ·rw [<- Array.getElem?_toList]; exact e1
  ·cases e1
theorem GrowM.form {base:Nat} {w:World} {v:Value} {n wd:Nat} {Q:MQ} (h:GrowM base w v n wd Q):∃ A c,v = .slice A n c:=by
 obtain ⟨xs,h,_⟩:=h;rcases h.2 with ⟨rfl,h0⟩ | ⟨g,cap,cur,rfl,_⟩
 ·subst h0; exact ⟨_,_,rfl⟩
 ·exact ⟨_,_,rfl⟩
theorem IntsAt.keeps {w u:World} {A:Option Addr} {n:Nat} {l:List Int} (h:IntsAt w A n l) (hk:Keeps [] w u):IntsAt u A n l:=
 ⟨h.len,h.ok,fun h0=>by
  obtain ⟨b,off,e,hlt,hc⟩:=h.row h0;exact ⟨b,off,e,Zl hlt hk.1,fun i hi=>(Zc (w:=w) (a:=⟨b,off+i,none⟩) (hk.2 b hlt aS)).trans (hc i hi)⟩⟩
theorem RowsAt.keeps {w u:World} {A:Option Addr} {n:Nat} {M:List (List Int)} (h:RowsAt w A n M) (hk:Keeps [] w u):RowsAt u A n M:=
 ⟨h.len,fun h0=>by
  obtain ⟨b,off,e,hlt,hc⟩:=h.row h0;refine ⟨b,off,e,Zl hlt hk.1,fun i hi=>?_⟩;obtain ⟨B,m,c,h1,h2,h3,h4⟩:=hc i hi;exact ⟨B,m,c,(Zc (w:=w) (a:=⟨b,off+i,none⟩) (hk.2 b hlt aS)).trans h1,h2,h3,h4.keeps hk⟩⟩
def natI (l:List Nat):List Int:=l.map fun (t:Nat)=>(t:Int)
theorem natI_len (l:List Nat):(natI l).length=l.length:=by unfold natI; rw [List.length_map]
theorem natI_snoc (l:List Nat) (x:Nat):natI (l++[x])=natI l++[(x:Int)]:=by unfold natI; rw [List.map_append]; rfl
theorem natI_at {l:List Nat} {i t:Nat} (h:l[i]?=some t):iAt (natI l) i=(t:Int):=by
 unfold iAt natI;rw [Ze,List.getElem?_map,h]; rfl
theorem infoRs:(Tryz.prog.info? 38).map (fun i=>(i.zero,i.size,i.bytes))=some (some (.slice none 0 0),1,24):=aK
end Go.Proofs.YtflgngjocgiojaaGreat
