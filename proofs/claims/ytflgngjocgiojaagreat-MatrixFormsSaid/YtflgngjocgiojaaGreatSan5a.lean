import Derived.Test.YtflgngjocgiojaaGreatMean
set_option linter.all false
namespace Go.Proofs.YtflgngjocgiojaaGreat
open Go.RowKit
set_option maxHeartbeats 8000000
set_option maxRecDepth 100000
theorem ratX_zero {X:Nat->Prop} {W:World}:RatX X W false none 0 0 false none 0 0 0 0:=⟨fun b off e=>(by cases e),fun b off e=>(by cases e),num_zero _,num_zero _⟩
theorem rats_zero {w:World} (n:Nat):RatsO (w.alloc (.cells (ratCells n) 37)) w.heap.size (fun _=>(0,0)) 0 n:=by
 refine ⟨_,OwnT.new,ratCells_size n,fun i _ hi=>⟨false,none,0,0,false,none,0,0,?_,?_,?_,?_,ratX_zero⟩⟩
 ·rw [Array.getElem?_eq_getElem (by rw [ratCells_size]; omega)];unfold ratCells madeCells;simp [Value.cells]
 ·rw [Array.getElem?_eq_getElem (by rw [ratCells_size]; omega)];unfold ratCells madeCells;simp [Value.cells,show (i*4+1)%4=1 by omega]
 ·rw [Array.getElem?_eq_getElem (by rw [ratCells_size]; omega)];unfold ratCells madeCells;simp [Value.cells,show (i*4+2)%4=2 by omega]
 ·rw [Array.getElem?_eq_getElem (by rw [ratCells_size]; omega)];unfold ratCells madeCells;simp [Value.cells,show (i*4+3)%4=3 by omega]
theorem anyF_no {p:Nat->Bool} {n:Nat} (h:∀ k,k<n->p k=false):anyF p n=false:=by
 induction n with
 | zero=>rfl
 | succ n ih=>rw [anyF,ih (fun k hk=>h k aO),h n aO]; rfl
theorem matrix_Times_ok {w:World} {A Ax:Option Addr} {n m:Nat} {M:List (List Int)} {x:Nat->QI} (c cx:Nat) (h:RowsAt w A n M) (hx:RatsA w Ax m x) (hm:cols M=m) (hok:matCheck M=0) (hT:TimesQ M x m) :
 Calls Tryz.prog 16 #[.slice A n c,.slice Ax m cx] w fun e w'=>(∃ b,e = .returned (.tuple #[.slice (some ⟨b,0,none⟩) n n,.bool true])/\w.heap.size<=b/\RatsO w' b (fun k=>sumT (rAt M k) x m) 0 n)/\Below w.heap.size w w':=by
 have hl:=h.len;have q:=matrix_check c h;rw [hok] at q;have hO:=matCheck_ok hok;rw [hl,hm] at hO;have hn48:=hO.1;have hm8:=hO.2.1;have H:=Zh h;have HX:=Zh hx;have HT:=Zh hT;have HO:=Zh hO;have HL:=Zh (Zi hl hm);have Q:=Zh q;have hmk:=fun w=>make_rats n aO w
 obtain ⟨E,hc,hr⟩:=h.pick;have HE:=Zh (Zi hc hr);have hni:(n:Int)<=48:=aO
 have hmi:(m:Int)<=8:=aO
 clear h hx hT hO hl hm q hok hc hr;go_enter Tryz.func16,Tryz.ntmps16;go_wp2_with fail;refine Zd Q.out ?_;rintro e w1 ⟨rfl,hb1⟩;have HB1:=Zh hb1;have hz1:=hb1.size;have qc:=matrix_columns c (H.out.below hb1);rw [HL.out.2] at qc;have QC:=Zh qc;clear hb1 qc;go_wp2_with fail;refine Zd QC.out ?_;rintro e w2 ⟨rfl,hb2⟩;have HB2:=Zh (HB1.out.trans (hb2.mono hz1));have hz2:=HB2.out.size;have qb:=contains_bad (p:=fun i=>!goodQ (x i).1 (x i).2) cx (HX.out.below HB2.out) (fun _ _=>rfl) aO;rw [anyF_no (fun i hi=>by rw [(HT.out.val i hi).1]; rfl)] at qb;have QB:=Zh qb;clear hb2 qb;go_wp2_with fail;refine Zd QB.out ?_;rintro e w3 ⟨rfl,hb3⟩;have hB3:=HB2.out.trans (hb3.mono hz2);have hz3:=hB3.size;have hW:=hB3.alloc hz3 (.cells (ratCells n) 37);have hx0:RatsO (w3.alloc (.cells (ratCells n) 37)) w3.heap.size (fun _=>(0,0)) 0 n:=rats_zero n;have hsz:(w3.alloc (.cells (ratCells n) 37)).heap.size=w3.heap.size+1:=aS
 clear hb3;go_wp2;obtain ⟨bx,hbx⟩:=Zx (w3.heap.size);rw [hbx] at hx0 hsz hz3 ⊢;generalize (w3.alloc (.cells (ratCells n) 37))=W0 at *;have HX0:=Zh hx0;clear hmk hx0 hbx;go_loopw [36] (fun i wr=>∃ k:Nat,k<=n/\i = .int .i64 k/\Below w.heap.size w wr/\bx<wr.heap.size/\RatsO wr bx (fun i=>if i<k then sumT (rAt M i) x m else (0,0)) 0 n) (fun i _=>n - (intOf i).toNat)
 case atStart=>exact ⟨0,aO,rfl,hW,aO,by simpa using HX0.out⟩
 case round =>
  clear HX0 hW hsz;obtain ⟨k,hk,rfl,hbel,hbl,hxs⟩:=hrel;have hkb:=hbel.size;have HXS:=Zh hxs;clear hxs
  by_cases hlt:k<n
  ·have hlt2:(k:Int)<(n:Int):=aO
   obtain ⟨b,off,rfl,hbb,hcell⟩:=HE.out.1 aO;replace hcell:=(Zc (w:=w) (a:=⟨b,off+k,none⟩) (hbel.block b hbb)).trans (hcell k hlt);obtain ⟨-,-,hI⟩:=HE.out.2 k hlt;obtain ⟨e,he⟩:=Zx (E k);rw [he] at hcell hI;obtain ⟨Ar,nr,cr⟩:=e;simp only at hcell hI;have hnr:nr=m:=by rw [<- hI.len]; exact HO.out.2.2.1 k hlt
   subst hnr;have HI:=Zh hI;have hpt:=HT.out.part k (by rw [HL.out.1]; exact hlt);have hst:=HT.out.sum k (by rw [HL.out.1]; exact hlt);obtain ⟨R,hR⟩:=Zx (rAt M k);rw [hR] at HI hpt hst;have HP:=Zh (Zi hpt (Zi hst hR));clear hI he hpt hst hR;go_wp2_with fail;refine Zd (ratio_Int (w:=wr) 0 aO aO) ?_;rintro e u1 ⟨⟨b1,b2,rfl,oA,oB,l1,l2,l3,l4⟩,hba⟩;obtain ⟨A7,n7,c7,hs7⟩:=slN_form 0 b1;obtain ⟨A8,n8,c8,hs8⟩:=slN_form 1 b2;simp only [ratV];rw [hs7,hs8];have hrx:RatX (fun y=>y≠bx) u1 (sgnN 0) A7 n7 c7 (sgnN 1) A8 n8 c8 0 1:=ratX_of oA oB (fits_small aO) (fits_small aO) l2 l4 aO aO hs7 hs8;have hput:=RatsO.put2 (y:=fun i=>if i=k then sumT R x 0 else if i<k then sumT (rAt M i) x nr else (0,0)) (HXS.out.below hba) hlt (by simp only [if_pos]; exact hrx) (fun i hi hne=>by simp only [if_neg hne]);obtain ⟨csx,hoxT,hxz,-⟩:=HXS.out.below hba;have hox:=hoxT.own;have g0:∀ m,m<4->∃ v,u1.cell? ⟨bx,k*4+m,none⟩=some v:=fun m hm=>⟨_,(hox.cell _).trans (Array.getElem?_eq_getElem aO)⟩
   obtain ⟨v0,p0⟩:=g0 0 aO;obtain ⟨v1,p1⟩:=g0 1 aO;obtain ⟨v2,p2⟩:=g0 2 aO;obtain ⟨v3,p3⟩:=g0 3 aO;rw [Nat.add_zero] at p0;have pf:=hox.thaw;have HPUT:=Zh hput;have hbu:=hbel.trans (hba.mono hkb);have HB:=Zh ((((hbu.setCell (p:=⟨bx,k*4,none⟩) hz3 (.bool (sgnN 0))).setCell (p:=⟨bx,k*4+1,none⟩) hz3 (.slice A7 n7 c7)).setCell (p:=⟨bx,k*4+2,none⟩) hz3 (.bool (sgnN 1))).setCell (p:=⟨bx,k*4+3,none⟩) hz3 (.slice A8 n8 c8));have hblu:bx<((((u1.setCell ⟨bx,k*4,none⟩ (.bool (sgnN 0))).setCell ⟨bx,k*4+1,none⟩ (.slice A7 n7 c7)).setCell ⟨bx,k*4+2,none⟩ (.bool (sgnN 1))).setCell ⟨bx,k*4+3,none⟩ (.slice A8 n8 c8)).heap.size:=by simp [World.setCell]; omega
   clear hput hrx hs7 hs8 oA oB l1 l2 l3 l4 hba hox hoxT hxz g0 hbu;go_wp2;generalize ((((u1.setCell ⟨bx,k*4,none⟩ (.bool (sgnN 0))).setCell ⟨bx,k*4+1,none⟩ (.slice A7 n7 c7)).setCell ⟨bx,k*4+2,none⟩ (.bool (sgnN 1))).setCell ⟨bx,k*4+3,none⟩ (.slice A8 n8 c8))=wq at *;clear hcell p0 p1 p2 p3 pf;go_loopw [47] (fun i wi=>∃ j:Nat,j<=nr/\i = .int .i64 j/\Below w.heap.size w wi/\bx<wi.heap.size/\RatsO wi bx (fun i=>if i=k then sumT R x j else if i<k then sumT (rAt M i) x nr else (0,0)) 0 n) (fun i _=>nr - (intOf i).toNat)
   case atStart=>exact ⟨0,aO,rfl,HB.out,hblu,HPUT.out⟩
   case round =>
    clear HPUT HB hblu;obtain ⟨j,hj,rfl,hbw,hbl3,hxj⟩:=hrel;have hwz:=hbw.size;have HXJ:=Zh hxj;clear hxj
    by_cases hjt:j<nr
    ·skip;have hjti:(j:Int)<(nr:Int):=aO
     obtain ⟨br,offr,rfl,hbr,hcr⟩:=(HI.out.below hbw).row aO;replace hcr:=hcr j hjt;have hio:=HI.out.ok j (by rw [HI.out.len]; exact hjt);obtain ⟨bX,offX,rfl,hbX,hcX⟩:=(HX.out.below hbw) aO;obtain ⟨t1,E1,m1,d1,t2,E2,m2,d2,x1,x2,x3,x4,NA,ND⟩:=hcX j hjt;have HNX:=Zh (Zi NA ND);have hsum:=HP.out.2.1 j hj;have hsum2:=HP.out.2.1 (j+1) aO;have hpart:=HP.out.1 j hjt;have hval:=HT.out.val j hjt;have hnx:sumT R x (j+1)=addQ (sumT R x j) (mulQ (iAt R j,1) (x j)):=rfl;rw [hnx] at hsum2;obtain ⟨zi,hzi⟩:=Zx (iAt R j);rw [hzi] at hcr hio hpart hsum2 hnx;obtain ⟨⟨ps,qs⟩,hps⟩:=Zx (sumT R x j);obtain ⟨⟨px,qx⟩,hpx⟩:=Zx (x j);rw [hps] at hsum hsum2 hnx;rw [hpx] at hpart hval hsum2 hnx HNX;obtain ⟨⟨zm,ym⟩,hmm⟩:=Zx (mulQ (zi,1) (px,qx));rw [hmm] at hpart hsum2 hnx;obtain ⟨⟨zn,yn⟩,hnn⟩:=Zx (addQ (ps,qs) (zm,ym));rw [hnn] at hsum2 hnx;have HPL:=Zh (Zi hsum (Zi hsum2 (Zi hpart (Zi hval (Zi (sm_i64 hio.1 hio.2) (Zi hnx (Zi hmm (Zi hnn (Zi hps hio)))))))));have HFm:=Zh (Zi (hpart.2.1.fits) (Zi (hpart.2.2.fits) (good_ne hpart.1)));have HFs:=Zh (Zi (hsum2.2.1.fits) (Zi (hsum2.2.2.fits) (good_ne hsum2.1)));clear hcX NA ND hsum hsum2 hpart hval hnx hzi hps hpx hmm hnn hio;go_wp2;refine region_gen (T:=[]) [.make 1 [] (ratVB [] wr.heap.size zi 1),.make 6 [1] (ratB [] wr.heap.size zm ym),.need 7 [6],.need 9 [],.make 10 [] (ownB [] nz2 (fun p=>.pointer (some ⟨p,0,none⟩)))] 11 0 40 (fun _ _=>True) (fun _ _ _ _ _=>trivial) trivial aK aK (by rfl) ?_;unfold genWalk;refine ⟨_,pz1,?_⟩;refine one_of (by rfl) ⟨fun f=>⟨rfl,fun u hu _=>?_⟩,?_⟩
     ·refine make_call (f:=49) (args:=#[.int .i64 zi]) gA4 ?_;have q:=ratio_Int (w:=u) zi HPL.out.2.2.2.2.2.2.2.2.2.1 HPL.out.2.2.2.2.2.2.2.2.2.2;refine q.mono ?_;rintro e wx ⟨⟨b1,b2,rfl,q1,q2,q3,q4,q5,q6⟩,hbx⟩;exact ⟨(b1,b2),rfl,q3,q4,hbx,aS,aS,q1,q2,Zm hu.1 q5,q6⟩
     have q_d1:=fun v=>later_cell (T:=[]) (w:=wr) (v:=v) hbX aS x1
     have q_d2:=fun v=>later_cell (T:=[]) (w:=wr) (v:=v) hbX aS x2
     have q_d3:=fun v=>later_cell (T:=[]) (w:=wr) (v:=v) hbX aS x3
     have q_d4:=fun v=>later_cell (T:=[]) (w:=wr) (v:=v) hbX aS x4
     unfold genWalk;refine ⟨_,pz2,?_⟩;refine one_of (by rfl) ⟨fun f=>⟨rfl,fun u hu hm=>?_⟩,?_⟩
     ·refine make_call (f:=50) (args:=#[.agg #[.bool (sgnN zi),slN zi (f 1).1,.bool (sgnN 1),slN 1 (f 1).2],.agg #[.bool t1,.slice E1 m1 d1,.bool t2,.slice E2 m2 d2]]) gA4 ?_;have e1:NumO u (f 1).1 zi/\NumO u (f 1).2 1:=(show (ratVB [] wr.heap.size zi 1).R (f 1) u from hm 1 aS).2.2.imp id fun h=>h.1
      have q:=ratio_Mul (w:=u) (a:=zi) (b:=1) (c:=px) (d:=qx) (ratAt_of e1.1 e1.2 HPL.out.2.2.2.2.1.fits (fits_small aO)) ⟨_,_,_,_,_,_,_,_,rfl,NumAt.keeps HNX.out.1 hu,NumAt.keeps HNX.out.2 hu⟩ (good_one zi) HPL.out.2.2.2.1.1 (HPL.out.2.2.2.2.1.mul HPL.out.2.2.2.1.2.1) (Sm.one.mul HPL.out.2.2.2.1.2.2);have e9:ofN (zi*px) (1*qx)=zm/\ofD (zi*px) (1*qx)=ym:=⟨congrArg Prod.fst HPL.out.2.2.2.2.2.2.1,congrArg Prod.snd HPL.out.2.2.2.2.2.2.1⟩;rw [e9.1,e9.2] at q;refine q.mono ?_;rintro e wx ⟨⟨b1,b2,rfl,q1,q2,q3,q4,q5,q6⟩,hbx⟩;exact ⟨(b1,b2),rfl,q3,q4,hbx,aS,aS,q1,q2,Zm hu.1 q5,q6⟩
     unfold genWalk;refine ⟨_,pz2,?_⟩;unfold genWalk;refine ⟨_,pz2,?_⟩;unfold genWalk;refine ⟨_,pz2,?_⟩;refine one_of (by rfl) ⟨fun f=>⟨rfl,fun u hu _=>?_⟩,?_⟩
     ·refine make_own (e:=37) gA4 aS
     unfold genWalk;refine ⟨_,pz2,?_⟩;intro f u' hup hph hmade hdist;obtain ⟨⟨-,-,oN,oM,loM,hiM⟩,loN,hiN⟩:=hmade 6 aO rfl;obtain ⟨⟨-,qO⟩,loO,hiO⟩:=hmade 10 aO rfl;have e5:=hdist 6 10 aO aO rfl rfl aO;replace oN:NumO u' (f 6).1 zm:=oN;replace oM:NumO u' (f 6).2 ym:=oM;replace hiM:(f 6).2<u'.heap.size:=hiM;replace qO:Own u' (f 10).1 nz2:=qO;clear hmade hdist hph;simp only [TK,Nat.reduceSub,Nat.reduceAdd]
     (try simp only [LN])
     (try simp only [VB4,numV,ratV])
     generalize (f 6).1=b1 at *;generalize (f 6).2=b2 at *;generalize (f 10).1=bm at *;generalize (f 1).1=bp1 at *;generalize (f 1).2=bq1 at *;clear f;have e6:b2≠bm:=digs_ne (oM HFm.out.2.1 HFm.out.2.2) qO HFm.out.2.2;have f1:=HFm.out.1;have f2:=HFm.out.2.1;obtain ⟨Am1,nm1,cm1,hs1⟩:=slN_form zm b1;obtain ⟨Am2,nm2,cm2,hs2⟩:=slN_form ym b2;rw [hs1,hs2];have HSL:=Zh (Zi hs1 hs2);clear hs1 hs2;have hwu:Below wr.heap.size wr u':=Upd.below (Zb _ _) hup aS;have hkT:=Upd.keeps (Keeps.refl _ _) hup;have qOc:=qO.cell;have qOf:=qO.thaw;clear hup;refine effc_mem (by rfl) (fun K hK=>?_);go_simp;refine hK _ _ (((((hkT.new loO _).new loO _).new loO _).new loO _)) (fun u3 hu3=>?_);clear hK K;have hs3:=hu3.size;simp [World.setCell] at hs3;have hwu1:=(((((hwu.setCell loO _).setCell loO _).setCell loO _).setCell loO _)).trans (hu3.mono (by simp [World.setCell]; exact hwu.size));have r12:=((((qO.set 0 (.bool (sgnN zm))).set 1 (.slice Am1 nm1 cm1)).set 2 (.bool (sgnN ym))).set 3 (.slice Am2 nm2 cm2)).below hu3;have oN1:=NumO.below (((((oN.far e5 _).far e5 _).far e5 _).far e5 _)) hu3;have oM1:=NumO.below (((((oM.far e6 _).far e6 _).far e6 _).far e6 _)) hu3;have hk1:=(((((hkT.new loO _).new loO _).new loO _).new loO _)).later hu3;clear qO qOc qOf oN oM hkT hu3 hwu;refine effc_mem (by rfl) (fun K hK=>?_);go_simp;refine hK _ _ hk1 (fun um hu4=>?_);clear hK K;have r13:=r12.below hu4;have oN2:=oN1.below hu4;have oM2:=oM1.below hu4;have HBm:=hwu1.trans (hu4.mono hwu1.size);have hs4:=hu4.size;have BXm:Hid (Own um bm #[.bool (sgnN zm),.slice Am1 nm1 cm1,.bool (sgnN ym),.slice Am2 nm2 cm2]/\RatX (fun x=>x≠bm) um (sgnN zm) Am1 nm1 cm1 (sgnN ym) Am2 nm2 cm2 zm ym):=Zh ⟨r13,ratX_of oN2 oM2 f1 f2 aO aO e5 e6 HSL.out.1 HSL.out.2⟩;clear hwu1 hk1 hu4 r12 r13 oN1 oM1 oN2 oM2 e5 e6 hs3 hs4 HSL loN hiN loO hiO hiM f1 f2;refine effc_nil ?_
     (try simp only [LN])
     clear x1 x2 x3 x4 hcr;have hbwm:=hbw.trans (HBm.mono hwz);have HXM:=Zh (HXJ.out.below HBm);obtain ⟨csx,hoxT,hxz,hxc⟩:=HXM.out;obtain ⟨t3,E3,m3,d3,t4,E4,m4,d4,x1,x2,x3,x4,hrx⟩:=hxc k aO hlt;have hox:=hoxT.own;have x1:=(hox.cell _).trans x1;have x2:=(hox.cell _).trans x2;have x3:=(hox.cell _).trans x3;have x4:=(hox.cell _).trans x4;simp only [if_true] at hrx;rw [HPL.out.2.2.2.2.2.2.2.2.1] at hrx;have HRX:=Zh hrx;have hxl:=hox.lt;have obm:=BXm.out.1;clear hoxT hxz hxc hrx hox;go_wp2;refine region_gen (T:=[]) [.make 5 [] (ratB [] um.heap.size zn yn),.need 6 [5],.need 8 [],.make 9 [] (ownB [] nz2 (fun p=>.pointer (some ⟨p,0,none⟩)))] 10 0 40 (fun _ _=>True) (fun _ _ _ _ _=>trivial) trivial aK aK (by rfl) ?_;have q_dp:=fun v y=>(obm.later (v:=v) (T:=[]) aS y).cell
     have q_d1:=fun v=>later_cell (T:=[]) (w:=um) (v:=v) hxl aS x1
     have q_d2:=fun v=>later_cell (T:=[]) (w:=um) (v:=v) hxl aS x2
     have q_d3:=fun v=>later_cell (T:=[]) (w:=um) (v:=v) hxl aS x3
     have q_d4:=fun v=>later_cell (T:=[]) (w:=um) (v:=v) hxl aS x4
     unfold genWalk;refine ⟨_,pz1,?_⟩;refine one_of (by rfl) ⟨fun f=>⟨rfl,fun u hu _=>?_⟩,?_⟩
     ·refine make_call (f:=28) (args:=#[.agg #[.bool t3,.slice E3 m3 d3,.bool t4,.slice E4 m4 d4],.agg #[.bool (sgnN zm),.slice Am1 nm1 cm1,.bool (sgnN ym),.slice Am2 nm2 cm2]]) gA4 ?_;have q:=ratio_Add (w:=u) (a:=ps) (b:=qs) (c:=zm) (d:=ym) (RatX.keeps HRX.out hu).at_ (RatX.keeps BXm.out.2 hu).at_ HPL.out.1.1 HPL.out.2.2.1.1 (HPL.out.1.2.1.mul HPL.out.2.2.1.2.2) (HPL.out.2.2.1.2.1.mul HPL.out.1.2.2) (sm_sum HPL.out.1.2.1 HPL.out.2.2.1.2.2 HPL.out.2.2.1.2.1 HPL.out.1.2.2) (HPL.out.1.2.2.mul HPL.out.2.2.1.2.2);have e9:ofN (ps*ym+zm*qs) (qs*ym)=zn/\ofD (ps*ym+zm*qs) (qs*ym)=yn:=⟨congrArg Prod.fst HPL.out.2.2.2.2.2.2.2.1,congrArg Prod.snd HPL.out.2.2.2.2.2.2.2.1⟩;rw [e9.1,e9.2] at q;refine q.mono ?_;rintro e wx ⟨⟨b1,b2,rfl,q1,q2,q3,q4,q5,q6⟩,hbx⟩;exact ⟨(b1,b2),rfl,q3,q4,hbx,aS,aS,q1,q2,Zm hu.1 q5,q6⟩
     unfold genWalk;refine ⟨_,pz2,?_⟩;unfold genWalk;refine ⟨_,pz2,?_⟩;unfold genWalk;refine ⟨_,pz2,?_⟩;refine one_of (by rfl) ⟨fun f=>⟨rfl,fun u hu _=>?_⟩,?_⟩
     ·refine make_own (e:=37) gA4 aS
     unfold genWalk;refine ⟨_,pz2,?_⟩;intro f u' hup hph hmade hdist;obtain ⟨⟨-,-,oN,oM,loM,hiM⟩,loN,hiN⟩:=hmade 5 aO rfl;obtain ⟨⟨-,qO⟩,loO,hiO⟩:=hmade 9 aO rfl;have e5:=hdist 5 9 aO aO rfl rfl aO;replace oN:NumO u' (f 5).1 zn:=oN;replace oM:NumO u' (f 5).2 yn:=oM;replace hiM:(f 5).2<u'.heap.size:=hiM;replace loM:um.heap.size<=(f 5).2:=loM;replace qO:Own u' (f 9).1 nz2:=qO;clear hmade hdist hph;simp only [TK,Nat.reduceSub,Nat.reduceAdd]
     (try simp only [LN])
     (try simp only [VB4,numV,ratV])
     generalize (f 5).1=b1 at *;generalize (f 5).2=b2 at *;generalize (f 9).1=bs at *;clear f;have e6:b2≠bs:=digs_ne (oM HFs.out.2.1 HFs.out.2.2) qO HFs.out.2.2;have f1:=HFs.out.1;have f2:=HFs.out.2.1;obtain ⟨As1,ns1,cs1,hs1⟩:=slN_form zn b1;obtain ⟨As2,ns2,cs2,hs2⟩:=slN_form yn b2;rw [hs1,hs2];have HSL:=Zh (Zi hs1 hs2);clear hs1 hs2;have hwu:Below um.heap.size um u':=Upd.below (Zb _ _) hup aS;have hkT:=Upd.keeps (Keeps.refl _ _) hup;have qOc:=qO.cell;have qOf:=qO.thaw;clear hup;refine effc_mem (by rfl) (fun K hK=>?_);go_simp;refine hK _ _ (((((hkT.new loO _).new loO _).new loO _).new loO _)) (fun u3 hu3=>?_);clear hK K;have hs3:=hu3.size;simp [World.setCell] at hs3;have hwu1:=(((((hwu.setCell loO _).setCell loO _).setCell loO _).setCell loO _)).trans (hu3.mono (by simp [World.setCell]; exact hwu.size));have r12:=((((qO.set 0 (.bool (sgnN zn))).set 1 (.slice As1 ns1 cs1)).set 2 (.bool (sgnN yn))).set 3 (.slice As2 ns2 cs2)).below hu3;have oN1:=NumO.below (((((oN.far e5 _).far e5 _).far e5 _).far e5 _)) hu3;have oM1:=NumO.below (((((oM.far e6 _).far e6 _).far e6 _).far e6 _)) hu3;have hk1:=(((((hkT.new loO _).new loO _).new loO _).new loO _)).later hu3;clear qO qOc qOf oN oM hkT hu3 hwu;refine effc_mem (by rfl) (fun K hK=>?_);go_simp;refine hK _ _ hk1 (fun us hu4=>?_);clear hK K;have r13:=r12.below hu4;have oN2:=oN1.below hu4;have oM2:=oM1.below hu4;have HBs:=hwu1.trans (hu4.mono hwu1.size);have hs4:=hu4.size;have BXs:Hid (Own us bs #[.bool (sgnN zn),.slice As1 ns1 cs1,.bool (sgnN yn),.slice As2 ns2 cs2]/\RatX (fun x=>x≠bs) us (sgnN zn) As1 ns1 cs1 (sgnN yn) As2 ns2 cs2 zn yn):=Zh ⟨r13,ratX_of oN2 oM2 f1 f2 aO aO e5 e6 HSL.out.1 HSL.out.2⟩;have HRS:Hid (RatX (fun x=>x≠bx) us (sgnN zn) As1 ns1 cs1 (sgnN yn) As2 ns2 cs2 zn yn):=Zh (ratX_of oN2 oM2 f1 f2 aO aO aO aO HSL.out.1 HSL.out.2);clear hwu1 hk1 hu4 loM r12 r13 oN1 oM1 oN2 oM2 e5 e6 hs3 hs4 HSL loN hiN loO hiO hiM f1 f2;refine effc_nil ?_
     (try simp only [LN])
     clear x1 x2 x3 x4 obm;have hbws:=hbwm.trans (HBs.mono hbwm.size);have obs:=BXs.out.1;have obsc:=obs.cell;have hrxs:RatX (fun y=>y≠bx) us (sgnN zn) As1 ns1 cs1 (sgnN yn) As2 ns2 cs2 zn yn:=HRS.out;have hput:=RatsO.put2 (y:=fun i=>if i=k then sumT R x (j+1) else if i<k then sumT (rAt M i) x nr else (0,0)) (HXM.out.below HBs) hlt (by simp only [if_pos]; rw [HPL.out.2.2.2.2.2.1]; exact hrxs) (fun i hi hne=>by simp only [if_neg hne]);obtain ⟨csx,hoxT,hxz,-⟩:=HXM.out.below HBs;have hox:=hoxT.own;have g0:∀ m,m<4->∃ v,us.cell? ⟨bx,k*4+m,none⟩=some v:=fun m hm=>⟨_,(hox.cell _).trans (Array.getElem?_eq_getElem aO)⟩
     obtain ⟨v0,p0⟩:=g0 0 aO;obtain ⟨v1,p1⟩:=g0 1 aO;obtain ⟨v2,p2⟩:=g0 2 aO;obtain ⟨v3,p3⟩:=g0 3 aO;rw [Nat.add_zero] at p0;have pf:=hox.thaw;have HPUT:=Zh hput;have hblx:bx<us.heap.size:=hox.lt;have HB:=Zh ((((hbws.setCell (p:=⟨bx,k*4,none⟩) hz3 (.bool (sgnN zn))).setCell (p:=⟨bx,k*4+1,none⟩) hz3 (.slice As1 ns1 cs1)).setCell (p:=⟨bx,k*4+2,none⟩) hz3 (.bool (sgnN yn))).setCell (p:=⟨bx,k*4+3,none⟩) hz3 (.slice As2 ns2 cs2));clear hput hrxs hoxT hxz hox g0;go_wp2;go_roundw
     case rel=>exact ⟨j+1,aO,by go_num,HB.out,by simp [World.setCell]; omega,HPUT.out⟩
     case measure=>simp [intOf]; omega
    ·have hj2:j=nr:=aO
     subst hj2;go_wp2;go_roundw
     case rel =>
      refine ⟨k+1,aO,by go_num,hbw,hbl3,?_⟩;obtain ⟨cs,g1,g2,g3⟩:=HXJ.out;refine ⟨cs,g1,g2,fun i h1 h2=>?_⟩;have:=g3 i h1 h2
      by_cases e:i=k
      ·subst e;simp only [if_true,if_pos (Nat.lt_succ_self i)] at this ⊢;rw [HP.out.2.2]; exact this
      ·simp only [if_neg e] at this
       by_cases e2:i<k
       ·simp only [if_pos e2,if_pos (show i<k+1 by omega)] at this ⊢; exact this
       ·simp only [if_neg e2,if_neg (show ¬ i<k+1 by omega)] at this ⊢; exact this
     case measure=>simp [intOf]; omega
  ·have hk2:k=n:=aO
   subst hk2;have hfin:RatsO wr bx (fun i=>sumT (rAt M i) x m) 0 k:=by
    obtain ⟨cs,g1,g2,g3⟩:=HXS.out;refine ⟨cs,g1,g2,fun i h1 h2=>?_⟩;have:=g3 i h1 h2;simp only [if_pos h2] at this;exact this
   have HFI:=Zh hfin;clear hfin;go_wp2;go_ret2;exact ⟨⟨_,rfl,aO,HFI.out⟩,hbel⟩
end Go.Proofs.YtflgngjocgiojaaGreat
namespace Go.Proofs.YtflgngjocgiojaaGreat
theorem inc_id {cs:Nat->Nat} {n:Nat} (hc:∀ t,t<n->cs t<n) (hi:∀ t u,t<u->u<n->cs t<cs u):∀ t,t<n->cs t=t:=by
 have lo:∀ t,t<n->t<=cs t:=by
  intro t
  induction t with
  | zero=>intro _; exact Nat.zero_le _
  | succ t ih =>
   intro ht;have:=ih aO;have:=hi t (t+1) aO ht;omega
 have hi2:∀ d t,t+d<n->cs t+d<=cs (t+d):=by
  intro d
  induction d with
  | zero=>intro t _; exact Zr _
  | succ d ih =>
   intro t ht;have:=ih t aO;have:=hi (t+d) (t+(d+1)) aO ht;omega
 intro t ht;have h1:=lo t ht;have h2:=hi2 (n - 1 - t) t aO;rw [show t+(n - 1 - t)=n - 1 by omega] at h2;have h3:=hc (n - 1) aO;omega
theorem solve_all (M:List (List Int)) (b:List Int):∃ x,FineS M b x:=by
 by_cases h:matCheck M=0/\cols M=M.length/\b.length=M.length/\anyF (fun k=>largeI (iAt b k)) b.length=false
 ·obtain ⟨h1,h2,h3,h4⟩:=h;obtain ⟨hn,hk8,hw0,_⟩:=matCheck_ok h1;have hw:=wide_sys1 hw0 h3;obtain ⟨π,cs,hI,hl⟩:=InvB.run2 hw (cols M) aO;have he:=ent_sys1 h1 h3 h4;refine ⟨fun k=>toQ (cramN M.length (fun i=>rowF (sysL M b M.length) (π i)) M.length k) (cramD M.length (fun i=>rowF (sysL M b M.length) (π i))),fun _ _ _ _=>⟨solve_fine h1 h2 h3 h4,fun hr=>?_⟩⟩;have hale:=hI.a_le;rw [sysL_len] at hale;have hra:rankS M b=(runB ⟨sysL M b M.length,1,0⟩ (cols M)).a:=by
   unfold rankS;have:=leadsB_len ⟨sysL M b M.length,1,0⟩ (cols M);simpa using this
  have hid:=inc_id (cs:=cs) (n:=M.length) (fun t ht=>by have:=hI.col t aO; omega) (fun t u h5 h6=>hI.inc t u h5 aO);exact (back_ok (L:=(runB ⟨sysL M b M.length,1,0⟩ (cols M)).L) (O:=fun i=>rowF (sysL M b M.length) (π i)) (cs:=cs) (f:=M.length) (last:=M.length) (wd:=cols M+1) aO aO aO hid (fun t ht=>hI.nz t aO) (fun k hk j hj=>hI.high k aO j hj) (fun i hi c hc=>he _ (hI.perm i (by rw [sysL_len]; omega)) c hc)).1
 ·exact ⟨fun _=>(0,1),fun h1 h2 h3 h4=>absurd ⟨h1,h2,h3,h4⟩ h⟩
theorem sumT_toQ {R:List Int} {x:Nat->QI} {N:Nat->Int} {D:Int} (hD:D≠0):∀ j,(∀ c,c<j->x c=toQ (N c) D)->sumT R x j=toQ (sumF (fun c=>iAt R c*N c) j) D
 | 0,_=>by
  show ((0:Int),(1:Int))=_;rw [<- toQ_one];refine toQ_eq aO hD ?_;rw [sumF]; grind
 | j+1,h=>by
  rw [sumT,sumT_toQ hD j (fun c hc=>h c aO),h j aO,<- toQ_one (iAt R j),mul_toQ aO hD,add_toQ hD aO];refine toQ_eq (Int.mul_ne_zero hD aO) hD ?_;rw [sumF];grind
theorem mul_700 {a b:Int} (ha:a.natAbs<=2^31) (hb:b.natAbs<2^700):(a*b).natAbs<=2^31*2^700:=by
 rw [Int.natAbs_mul];revert ha hb;generalize 2^700=X;intro ha hb;exact Nat.mul_le_mul ha (Nat.le_of_lt hb)
theorem p_700:2^700<2^1000:=by decide +kernel
theorem sm_700 {z:Int} (h:z.natAbs<2^700):Sm z:=Nat.lt_trans h p_700
theorem largeI_abs {z:Int} (h:largeI z=false):z.natAbs<=2^31:=by
 unfold largeI at h;simp at h;omega
theorem times_ok {M:List (List Int)} {x:Nat->QI} {N:Nat->Int} {D:Int} (h:matCheck M=0) (hD:D≠0) (hDs:D.natAbs<2^700) (hN:∀ c,c<cols M->(N c).natAbs<2^700) (hx:∀ c,c<cols M->x c=toQ (N c) D):TimesQ M x (cols M):=by
 obtain ⟨_,hk8,hw0,hent⟩:=matCheck_ok h;refine ⟨fun j hj=>?_,fun k hk j hj=>?_,fun k hk j hj=>?_⟩
 ·rw [hx j hj];exact toQ_sm hD (sm_700 (hN j hj)) (sm_700 hDs)
 ·rw [hx j hj,<- toQ_one (iAt (rAt M k) j),mul_toQ aO hD];refine toQ_sm (Int.mul_ne_zero aO hD) ?_ (by rw [Int.one_mul]; exact sm_700 hDs);have h1:=mul_700 (largeI_abs (hent k hk j hj)) (hN j hj);unfold Sm;omega
 ·rw [sumT_toQ hD j (fun c hc=>hx c aO)];refine toQ_sm hD ?_ (sm_700 hDs);have h1:=sumF_abs (f:=fun c=>iAt (rAt M k) c*N c) (B:=2^31*2^700) (n:=j) (fun c hc=>mul_700 (largeI_abs (hent k hk c aO)) (hN c aO));have h3:=Nat.mul_le_mul_right (2^31*2^700) (show j<=8 by omega);unfold Sm;omega
structure SolZ (M:List (List Int)) (b:List Int) (x:Nat->QI) (N:Nat->Int) (D:Int):Prop where
 ne:D≠0
 dsm:D.natAbs<2^300
 nsm:∀ c,(N c).natAbs<2^300
 eq:∀ c,x c=toQ (N c) D
 row:∀ y,y<M.length->sumF (fun c=>iAt (rAt M y) c*N c) (cols M)=D*iAt b y
end Go.Proofs.YtflgngjocgiojaaGreat
namespace Go.Proofs.YtflgngjocgiojaaGreat
open Go.RowKit
theorem ints_lit {W:World} {b:Nat} {cs:Array Value} {L:List Int} {n:Nat} (ho:Own W b cs) (hc:cs=(L.map (Value.int .i64)).toArray) (hn:L.length=n) (hI:I64L L):IntsAt W (some ⟨b,0,none⟩) n L:=by
 subst hc;refine ⟨hn,hI,fun _=>⟨b,0,rfl,ho.lt,fun i hi=>?_⟩⟩;rw [Nat.zero_add,ho.cell i];have hi:i<L.length:=aO
 simp [iAt,Ze,hi]
theorem rows_lit {W:World} {b n:Nat} {cs:Array Value} {M:List (List Int)} (ho:Own W b cs) (hn:M.length=n) (h:∀ i,i<n->∃ B m c,cs[i]?=some (.slice B m c)/\m<=c/\c<=9223372036854775807/\IntsAt W B m (rAt M i)):RowsAt W (some ⟨b,0,none⟩) n M:=
 ⟨hn,fun _=>⟨b,0,rfl,ho.lt,fun i hi=>by
  obtain ⟨B,m,c,h1,h2,h3,h4⟩:=h i hi;exact ⟨B,m,c,by rw [Nat.zero_add,ho.cell i]; exact h1,h2,h3,h4⟩⟩⟩
theorem rows_one {W:World} {b:Nat} {B:Option Addr} {m c:Nat} {l:List Int} (ho:Own W b #[.slice B m c]) (h1:m<=c) (h2:c<=9223372036854775807) (h:IntsAt W B m l):RowsAt W (some ⟨b,0,none⟩) 1 [l]:=
 rows_lit ho rfl fun i hi=>by
  obtain rfl:i=0:=aO
  exact ⟨B,m,c,rfl,h1,h2,h⟩
theorem rows_two {W:World} {b:Nat} {B B':Option Addr} {m c m' c':Nat} {l l':List Int} (ho:Own W b #[.slice B m c,.slice B' m' c']) (h1:m<=c) (h2:c<=9223372036854775807) (h:IntsAt W B m l) (h1':m'<=c') (h2':c'<=9223372036854775807) (h':IntsAt W B' m' l'):RowsAt W (some ⟨b,0,none⟩) 2 [l,l']:=
 rows_lit ho rfl fun i hi=>by
  rcases (show i=0\/i=1 by omega) with rfl | rfl
  ·exact ⟨B,m,c,rfl,h1,h2,h⟩
  ·exact ⟨B',m',c',rfl,h1',h2',h'⟩
theorem RatsO.rats {W:World} {b n:Nat} {x:Nat->QI} (h:RatsO W b x 0 n):RatsA W (some ⟨b,0,none⟩) n x:=fun _=>by
 obtain ⟨cs,ho,hz,hc⟩:=h;have ho':Own W b cs:=⟨_,ho⟩;refine ⟨b,0,rfl,ho'.lt,fun i hi=>?_⟩;obtain ⟨s1,A1,n1,c1,s2,A2,n2,c2,e1,e2,e3,e4,hr⟩:=hc i (Nat.zero_le _) hi;refine ⟨s1,A1,n1,c1,s2,A2,n2,c2,?_,?_,?_,?_,hr.2.2.1,hr.2.2.2⟩
 ·rw [Nat.zero_add,ho'.cell]; exact e1
 ·rw [Nat.zero_add,ho'.cell]; exact e2
 ·rw [Nat.zero_add,ho'.cell]; exact e3
 ·rw [Nat.zero_add,ho'.cell]; exact e4
theorem RatsA.congr {W:World} {A:Option Addr} {n:Nat} {x y:Nat->QI} (h:RatsA W A n x) (e:∀ i,i<n->y i=x i):RatsA W A n y:=fun h0=>by
 obtain ⟨b,off,e1,hlt,hc⟩:=h h0;refine ⟨b,off,e1,hlt,fun i hi=>?_⟩;obtain ⟨s1,A1,n1,c1,s2,A2,n2,c2,a1,a2,a3,a4,h1,h2⟩:=hc i hi;rw [e i hi];exact ⟨s1,A1,n1,c1,s2,A2,n2,c2,a1,a2,a3,a4,h1,h2⟩
theorem rats_two {W:World} {b:Nat} {s1 s2 s3 s4:Bool} {A1 A2 A3 A4:Option Addr} {n1 c1 n2 c2 n3 c3 n4 c4:Nat} {x:Nat->QI} (ho:Own W b #[.bool s1,.slice A1 n1 c1,.bool s2,.slice A2 n2 c2,.bool s3,.slice A3 n3 c3,.bool s4,.slice A4 n4 c4])
 (h1:NumAt W (.agg #[.bool s1,.slice A1 n1 c1]) (x 0).1) (h2:NumAt W (.agg #[.bool s2,.slice A2 n2 c2]) (x 0).2) (h3:NumAt W (.agg #[.bool s3,.slice A3 n3 c3]) (x 1).1) (h4:NumAt W (.agg #[.bool s4,.slice A4 n4 c4]) (x 1).2):RatsA W (some ⟨b,0,none⟩) 2 x:=fun _ =>
 ⟨b,0,rfl,ho.lt,fun i hi=>by
  rcases (show i=0\/i=1 by omega) with rfl | rfl
  ·exact ⟨s1,A1,n1,c1,s2,A2,n2,c2,(ho.cell _).trans rfl,(ho.cell _).trans rfl,(ho.cell _).trans rfl,(ho.cell _).trans rfl,h1,h2⟩
  ·exact ⟨s3,A3,n3,c3,s4,A4,n4,c4,(ho.cell _).trans rfl,(ho.cell _).trans rfl,(ho.cell _).trans rfl,(ho.cell _).trans rfl,h3,h4⟩⟩
def flatM:List (List Int):=[[1,2],[2,4]]
def squareM:List (List Int):=[[1,2],[3,4]]
theorem v_flat:rankZ flatM=1/\matCheck flatM=0:=by decide +kernel
theorem v_square:rankZ squareM=2/\matCheck squareM=0:=by decide +kernel
theorem v_nil:rankZ []=0/\matCheck []=0:=by decide +kernel
theorem v_empty:rankZ [[],[]]=0/\matCheck [[],[]]=0:=by decide +kernel
theorem v_odd:rankZ [[1,2],[3]]=0/\matCheck [[1,2],[3]]=4:=by decide +kernel
theorem kern_one {M:List (List Int)} {x:Nat->QI} {q:QI} (h:matCheck M=0) (hk:kernF M=1) (hc:1<cols M) (hf:FineK M x (kernF M))
 (hq:divQ (zAt (rAt (runB ⟨sysL M [] M.length,1,0⟩ (cols M)).L 0) 1,1) (zAt (rAt (runB ⟨sysL M [] M.length,1,0⟩ (cols M)).L 0) 0,1)=q):kernQ x 1=kernQ (fun _=>q) 1:=by
 rw [hk] at hf;have h1:=((hf h).2 hc).1.eq 0 aO;have h2:x 0=q:=by rw [h1,<- hq]; rfl
 funext i;unfold kernQ
 by_cases e:i<1
 ·obtain rfl:i=0:=aO
  rw [if_pos e,if_pos e,h2]
 ·rw [if_neg e,if_neg e]
theorem kern_none {x y:Nat->QI}:kernQ x 0=kernQ y 0:=funext fun i=>by
 unfold kernQ;rw [if_neg (Nat.not_lt_zero i),if_neg (Nat.not_lt_zero i)]
def kernM1:List (List Int):=[[1,2,0],[2,4,1]]
theorem v_k1:matCheck kernM1=0/\kernF kernM1=1/\cols kernM1=3/\divQ (zAt (rAt (runB ⟨sysL kernM1 [] kernM1.length,1,0⟩ (cols kernM1)).L 0) 1,1) (zAt (rAt (runB ⟨sysL kernM1 [] kernM1.length,1,0⟩ (cols kernM1)).L 0) 0,1)=(2,1):=by decide +kernel
theorem z_k1:wholeZ (kernQ (fun _=>((2,1):QI)) 1) 3 3=[-2,1,0]:=by decide +kernel
def kernM2:List (List Int):=[[2,3]]
theorem v_k2:matCheck kernM2=0/\kernF kernM2=1/\cols kernM2=2/\divQ (zAt (rAt (runB ⟨sysL kernM2 [] kernM2.length,1,0⟩ (cols kernM2)).L 0) 1,1) (zAt (rAt (runB ⟨sysL kernM2 [] kernM2.length,1,0⟩ (cols kernM2)).L 0) 0,1)=(3,2):=by decide +kernel
theorem z_k2:wholeZ (kernQ (fun _=>((3,2):QI)) 1) 2 2=[-3,2]:=by decide +kernel
def kernM3:List (List Int):=[[0,5]]
theorem v_k3:matCheck kernM3=0/\kernF kernM3=0/\cols kernM3=2:=by decide +kernel
theorem z_k3:wholeZ (kernQ (fun _=>((0,1):QI)) 0) 2 2=[1,0]:=by decide +kernel
theorem v_k4:matCheck squareM=0/\kernF squareM=2/\cols squareM=2:=by decide +kernel
theorem v_s1:solveE squareM [5,6]=0/\rankS squareM [5,6]=2/\cols squareM=2/\anyF (fun k=>largeI (iAt [5,6] k)) 2=false:=by decide +kernel
theorem v_s2:solveE flatM [1,2]=8:=by decide +kernel
theorem v_s3:solveE [[1,2]] [1]=4:=by decide +kernel
def wantQ (i:Nat):QI:=if i=0 then (-4,1) else (9,2)
theorem solve_want {x:Nat->QI} (hf:FineS squareM [5,6] x):∀ i,i<2->wantQ i=x i:=by
 obtain ⟨_,h2,h3,h4⟩:=v_s1;have hb:=((hf v_square.2 h3 rfl h4).2 (by rw [h2]; decide)).eq;have e1:x 1=(9,2):=(hb 1 (by decide)).trans (by
  show divQ (zAt (rAt (runB ⟨sysL squareM [5,6] 2,1,0⟩ (cols squareM)).L 1) 2,1) (zAt (rAt (runB ⟨sysL squareM [5,6] 2,1,0⟩ (cols squareM)).L 1) 1,1)=(9,2);decide +kernel)
 have e0:x 0=(-4,1):=(hb 0 (by decide)).trans (by
  show divQ (subQ (zAt (rAt (runB ⟨sysL squareM [5,6] 2,1,0⟩ (cols squareM)).L 0) 2,1) (mulQ (zAt (rAt (runB ⟨sysL squareM [5,6] 2,1,0⟩ (cols squareM)).L 0) 1,1) (x 1))) (zAt (rAt (runB ⟨sysL squareM [5,6] 2,1,0⟩ (cols squareM)).L 0) 0,1)=(-4,1);rw [e1];decide +kernel)
 intro i hi;rcases (show i=0\/i=1 by omega) with rfl | rfl
 ·rw [e0]; rfl
 ·rw [e1]; rfl
theorem p_27:(2:Int).natAbs<2^700:=by decide +kernel
theorem p_47:2^4<=2^700:=by decide +kernel
theorem times_want:TimesQ squareM wantQ 2:=by
 refine times_ok (M:=squareM) (N:=fun c=>if c=0 then -8 else 9) (D:=2) v_square.2 (by decide) (p_27) (fun c _=>?_) (fun c hc=>?_)
 ·have h16:(2:Nat)^4<=2^700:=p_47;show (if c=0 then (-8:Int) else 9).natAbs<_;refine Zl ?_ h16
  by_cases e:c=0
  ·rw [if_pos e]; decide
  ·rw [if_neg e]; decide
 ·rcases (show c=0\/c=1 by have:cols squareM=2:=v_k4.2.2; omega) with rfl | rfl
  ·decide +kernel
  ·decide +kernel
def backQ (i:Nat):QI:=if i=0 then (5,1) else (6,1)
theorem times_back:∀ i,i<2->backQ i=sumT (rAt squareM i) wantQ 2:=fun i hi=>by
 rcases (show i=0\/i=1 by omega) with rfl | rfl
 ·decide +kernel
 ·decide +kernel
end Go.Proofs.YtflgngjocgiojaaGreat
