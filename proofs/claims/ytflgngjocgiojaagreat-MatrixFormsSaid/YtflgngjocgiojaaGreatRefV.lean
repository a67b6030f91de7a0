import Derived.Test.YtflgngjocgiojaaGreatRefV0
import Derived.Deep.CutBlock
set_option linter.all false
namespace Go.Proofs.YtflgngjocgiojaaGreat
open Go.RowKit
def refX (M:List (List Int)):Nat->QI:=fun k=>(runR M.length (intQ M) (cols M)).Q k (kernF M)
theorem kernF_lead {M:List (List Int)} (h:matCheck M=0):kernF M<=(runR M.length (intQ M) (cols M)).l.length:=by
 obtain ⟨_,h8,h9,_⟩:=matCheck_ok h;have hl:=runR_l (wide_sys h9) (intQ_sys M (cols M)) (cols M) (Zr _);rw [sysL_len] at hl;rw [hl,List.length_map];exact firstF_le _
set_option maxRecDepth 100000 in
set_option maxHeartbeats 16000000 in
theorem ref5_Kernel {w:World} {A:Option Addr} {n:Nat} {M:List (List Int)} (c:Nat) (h:RowsAt w A n M) :
 Calls Tryz.prog 36 #[.slice A n c] w fun e w'=>(∃ v,e = .returned (.tuple #[v,.int .i64 (matCheck M)])/\((¬ (matCheck M=0/\kernF M<cols M)/\v = .slice none 0 0)\/(matCheck M=0/\kernF M<cols M/\RowV (fun _=>True) v (wholeZ (kernQ (refX M) (kernF M)) (cols M) (cols M)) w')))/\Below w.heap.size w w':=by
 obtain ⟨i0,hi0,hz0,hz1,hz2⟩:=info_parts infoN;have hl:=h.len;have H:=Zh h;have qc:=ref5_Check c h;obtain ⟨o,ho⟩:=Zx (matCheck M);rw [ho] at qc ⊢;obtain ⟨x,hx⟩:=Zx (refX M);obtain ⟨m,hm⟩:=Zx (cols M);obtain ⟨F,hF⟩:=Zx (kernF M);rw [hm,hF,hx];have HX:=Zh (Zi hx (Zi hm hF));have QC:=Zh qc;have HO:=Zh ho;have HL:=Zh hl;clear qc ho h hl hx hm hF;go_enter Tryz.func36,Tryz.ntmps36;go_wp2_with fail;refine Zd QC.out ?_;rintro e w1 ⟨rfl,hb1⟩
 by_cases ho:o=0
 ·subst ho;have qe:=ref5_echelon c (H.out.below hb1) HO.out;have H1:=Zh (H.out.below hb1);have hfl:=kernF_lead HO.out;have hrl:=runR_len M.length (intQ M) (cols M);have hck:=matCheck_ok HO.out;have hkf:=ref_kern HO.out HO.out;have hff:=fun f=>ref_first (f:=f) HO.out
  have hWQ:kernF M<cols M->WholeQ (kernQ (refX M) (kernF M)) (cols M):=fun h=>(hkf.2 h).2
  have hxx:∀ k,refX M k=(runR M.length (intQ M) (cols M)).Q k (kernF M):=fun _=>rfl
  have hGM:GoodM M.length (cols M) (runR M.length (intQ M) (cols M)).Q:=by
   have h1:=ref_fine HO.out;rcases Nat.eq_zero_or_pos (cols M) with h0 | h0
   ·rw [h0] at h1 ⊢;exact h1.1
   ·have h2:=(h1.2 (cols M - 1) aO).new;have h3:stepR M.length (runR M.length (intQ M) (cols M - 1)) (cols M - 1)=runR M.length (intQ M) (cols M):=by
     have h4:runR M.length (intQ M) (cols M - 1+1)=stepR M.length (runR M.length (intQ M) (cols M - 1)) (cols M - 1):=rfl;rw [<- h4,show cols M - 1+1=cols M by omega]
    rw [h3] at h2;exact h2
  obtain ⟨hx,hm,hF⟩:=HX.out;rw [hx] at hWQ hxx;rw [hm] at qe hfl hrl hff hck hWQ hxx hGM;rw [hF] at hfl hff hWQ hxx;rw [HL.out] at hfl hrl hff hck hxx hGM;obtain ⟨S,hS⟩:=Zx (runR n (intQ M) m);rw [hS] at qe hfl hrl hff hxx hGM;have QE:=Zh qe;have HK:=Zh (Zi hff (Zi hxx (Zi hWQ (Zi hGM hm))));have HB1:=Zh hb1;have hm8:m<=8:=hck.2.1;have hmi:(m:Int)<=8:=aO
  have hmk:=fun w=>make_rats m aO w
  clear qe hff hxx hWQ hGM hkf hm hF hx hS hck hb1 QC;go_wp2_with fail;refine Zd QE.out ?_;rintro e w2 ⟨⟨v1,AL,a,cL,rfl,ra,r2,r3,r4,⟨A0,cA0,rfl⟩,r5⟩,hb2⟩;have HEC:=Zh (Zi r4 r5);have hal:F<=a:=aO
  have ham:a<=n:=aO
  have ham2:a<=m:=aO
  have HRA:=Zh ra;have HB2:=Zh (HB1.out.trans (hb2.mono HB1.out.size));have H2:=Zh (H1.out.below hb2);have hai:(a:Int)<=8:=aO
  clear r4 r5 hb2 QE hfl hrl r2 r3 ra H1 HB1;go_upto_block 0 with fail
  go_cut [7] from 28 to 41 (fun s7 wx=>s7 = .int .i64 (F:Nat)/\wx=w2)
  case first =>
   go_wp2_with fail;go_loopw [7] (fun i wr=>∃ f:Nat,f<=a/\i = .int .i64 f/\wr=w2/\∀ t,t<f->S.l[t]?=some t) (fun i _=>a - (intOf i).toNat)
   case atStart=>exact ⟨0,aO,rfl,rfl,fun t ht=>aO⟩
   case round =>
    obtain ⟨f,hf,rfl,rfl,hz⟩:=hrel;have HZ:=Zh hz;clear hz
    by_cases hfa:f<a
    ·have hfi:(f:Int)<(a:Int):=aO
     obtain ⟨t,htt⟩:∃ t,S.l[f]?=some t:=⟨S.l[f]'(by have:=HRA.out; omega),List.getElem?_eq_getElem _⟩;obtain ⟨b,off,rfl,hb,hcell⟩:=HEC.out.1.row aO;have q:=hcell f hfa;rw [natI_at htt] at q;have HTT:=Zh htt;clear hcell htt
     by_cases htf:t=f
     ·subst htf;go_wp2;go_roundw
      case rel=>exact ⟨t+1,aO,by go_num,by first | rfl | trivial,fun j hj=>by
       by_cases e:j=t
       ·subst e; exact HTT.out
       ·exact HZ.out j aO⟩
      case measure=>simp [intOf]; omega
     ·have hte:((t:Int)==(f:Int))=false:=beq_eq_false_iff_ne.2 aO;have hfF:f=F:=HK.out.1 f (by have:=HRA.out; omega) HZ.out (by rw [HTT.out]; intro e; injection e with e; exact htf e);subst hfF;go_wp2;go_meet
      case rel=>exact ⟨rfl,rfl⟩
    ·have hfi:¬ (f:Int)<(a:Int):=aO
     have hfF:f=F:=HK.out.1 f (by have:=HRA.out; omega) HZ.out (by rw [List.getElem?_eq_none (by have:=HRA.out; omega)]; intro e; cases e);subst hfF;go_wp2;go_meet
     case rel=>exact ⟨rfl,rfl⟩
  case rest =>
   obtain ⟨rfl,rfl⟩:=hcut;have qcol:=fun (u:World) (hu:Below wc.heap.size wc u)=>ref5_Columns (w:=u) c (H2.out.below hu)
   rw [HX.out.2.1] at qcol;have QCOL:=Zh qcol;clear qcol;go_wp2_with fail;refine Zd (QCOL.out wc (Zb _ _)) ?_;rintro e w3 ⟨rfl,hb3⟩
   by_cases hFm:F=m
   ·have hfe:((F:Int)==(m:Int))=true:=beq_iff_eq.2 aO;have HB:=Zh (HB2.out.trans (hb3.mono HB2.out.size));clear hb3;go_wp2;go_ret2;exact ⟨by first | exact ⟨_,rfl,.inl ⟨fun h=>by have:=h.2; omega,rfl⟩⟩ | rfl | exact ⟨_,rfl,rfl⟩,HB.out⟩
   ·have hfe:((F:Int)==(m:Int))=false:=beq_eq_false_iff_ne.2 aO;have hlt:F<m:=aO
    have hn0:0<n:=by
     rcases Nat.eq_zero_or_pos n with h0 | h0
     ·exfalso;have h1:=HX.out.2.1;have h2:M=[]:=List.eq_nil_of_length_eq_zero (by rw [HL.out]; exact h0);rw [h2] at h1;have:cols []=0:=rfl;omega
     ·exact h0
    obtain ⟨g,c0,e0,hc1,hc2,hMR⟩:=HEC.out.2 hn0;cases e0;have HMR:=Zh hMR;have hgl:=hMR.lt;have hB3:=Zh hb3;have hn48:n<=48:=by have:=matCheck_ok HO.out; have:=HL.out; omega
    clear hMR hb3 HEC H H2;go_wp2_with fail;refine Zd (QCOL.out w3 hB3.out) ?_;rintro e w4 ⟨rfl,hb4⟩;have hb34:=hB3.out.trans (hb4.mono hB3.out.size);have HB4:=Zh (HB2.out.trans (hb34.mono HB2.out.size));have hz4:=hb34.size;have hw4:=HB4.out.size;have HM4:=Zh (HMR.out.below hb34);clear hb34 hb4 hB3 QCOL HMR HB2;go_wp2;have hX0:RatsP (w4.alloc (.cells (ratCells m) 37)) w4.heap.size (kernQ x F) 0 m:=⟨_,OwnT.new,ratCells_size m,fun i h=>aO⟩;have hbe:Below w4.heap.size w4 (w4.alloc (.cells (ratCells m) 37)):=(Zb _ _).alloc (Zr _) _;have HM5:Hid (MatR (fun b=>b≠g/\b≠w4.heap.size) (w4.alloc (.cells (ratCells m) 37)) g n m S.Q):=Zh (HM4.out.move (hbe.block g aO) hbe.size fun b hb hX=>⟨hbe.block b hb,hX.2,Nat.ne_of_lt hb⟩);have hgX:g≠w4.heap.size:=aO
    have HX0:=Zh hX0;have HW5:Hid (Below w.heap.size w (w4.alloc (.cells (ratCells m) 37))):=Zh (HB4.out.alloc hw4 _);clear hX0 hbe HM4 hmk;generalize (w4.alloc (.cells (ratCells m) 37))=W5 at *;obtain ⟨bX,hbX⟩:=Zx (w4.heap.size);rw [hbX] at HX0 HM5 hgX hz4 hw4 ⊢;clear hbX;go_loopw [9] (fun i wr=>∃ k:Nat,k<=m/\i = .int .i64 k/\Below w.heap.size w wr/\RatsP wr bX (kernQ x F) k m/\MatR (fun b=>b≠g/\b≠bX) wr g n m S.Q) (fun i _=>m - (intOf i).toNat)
    case atStart=>exact ⟨0,aO,rfl,HW5.out,HX0.out,HM5.out⟩
    case round =>
     clear HW5 HX0 HM5;obtain ⟨k,hk,rfl,hbw,hxp,hmr⟩:=hrel;have HW:=Zh hbw;have HXP:=Zh hxp;have HMR:=Zh hmr;clear hbw hxp hmr
     by_cases hkm:k<m
     ·have hki:(k:Int)<(m:Int):=aO
      go_wp2_with fail;refine Zd (ref3_IntC (w:=wr) 0 aO aO) ?_;rintro e ua ⟨⟨b1,C1,b2,C2,rfl,q1,q2,q3,q4,q5,q6⟩,hb2⟩;obtain ⟨Aa1,na1,ca1,hs7⟩:=slC_form 0 b1 C1;obtain ⟨Aa2,na2,ca2,hs8⟩:=slC_form 1 b2 C2;simp only [ratC];rw [hs7,hs8];have hXl:=HXP.out.lt;have RXa:=ratX_ref (X:=fun y=>y≠bX) q1 q2 (fits_small aO) (fits_small aO) q4 q6 (show b1≠bX by omega) (show b2≠bX by omega) hs7 hs8;have hxa:=HXP.out.below hb2;obtain ⟨v0,v1,v2,v3,p0,p1,p2,p3⟩:=hxa.cells hkm;have pf:=hxa.thaw;have hxl:=hxa.lt;have HX2:=Zh (hxa.set (y:=fun i=>if i=k then (0,1) else kernQ x F i) (k':=k+1) hkm (s1:=sgnN 0) (A1:=Aa1) (n1:=na1) (c1:=ca1) (s2:=sgnN 1) (A2:=Aa2) (n2:=na2) (c2:=ca2) (by rw [if_pos rfl]; exact RXa) (fun i hi hne=>⟨aO,if_neg hne⟩));have HM2:=Zh ((HMR.out.below hb2).put4 (b:=bX) (o:=k*4) hgX (fun y hy=>hy.2) (.bool (sgnN 0)) (.slice Aa1 na1 ca1) (.bool (sgnN 1)) (.slice Aa2 na2 ca2));have HB2:=Zh (Below.setCell (Below.setCell (Below.setCell (Below.setCell (HW.out.trans (hb2.mono HW.out.size)) (p:=⟨bX,k*4,none⟩) hw4 (.bool (sgnN 0))) (p:=⟨bX,k*4+1,none⟩) hw4 (.slice Aa1 na1 ca1)) (p:=⟨bX,k*4+2,none⟩) hw4 (.bool (sgnN 1))) (p:=⟨bX,k*4+3,none⟩) hw4 (.slice Aa2 na2 ca2));clear q1 q2 q3 q4 q5 q6 hs7 hs8 RXa hxa hb2 HXP HMR HW hXl;rcases Nat.lt_trichotomy k F with hkF | hkF | hkF
      ·have hkFi:(k:Int)<(F:Int):=aO
       have hkFe:((k:Int)==(F:Int))=false:=beq_eq_false_iff_ne.2 aO;go_wp2;generalize ((((ua.setCell ⟨bX,k*4,none⟩ (.bool (sgnN 0))).setCell ⟨bX,k*4+1,none⟩ (.slice Aa1 na1 ca1)).setCell ⟨bX,k*4+2,none⟩ (.bool (sgnN 1))).setCell ⟨bX,k*4+3,none⟩ (.slice Aa2 na2 ca2))=w7 at *;have hX7:=HX2.out;have hXl7:=hX7.lt;obtain ⟨Bk,ck,rk,zk1,zk2,xk⟩:=HM2.out.row (i:=k) aO;obtain ⟨bk,offk,rfl,hbkl,hXk,hcell⟩:=xk aO;obtain ⟨t1,E1,m1,d1,t2,E2,m2,d2,x1,x2,x3,x4,hr⟩:=hcell F hlt;have HRK:=Zh hr;have hgl7:=HM2.out.lt;have hFi:(F:Int)<(m:Int):=aO
       have hsq:=HK.out.2.2.2.1 k aO F hlt;have hsy:=(HK.out.2.2.1 hlt).sm k hkm;have hxk:=HK.out.2.1 k;obtain ⟨⟨z,y⟩,hzy⟩:=Zx (kernQ x F k);have hzy2:subQ (0,1) (S.Q k F)=(z,y):=by
        rw [<- hzy,<- hxk];unfold kernQ;rw [if_pos hkF]
       rw [hzy] at hsy;have hzy1:ofN (0*(S.Q k F).2 + -(S.Q k F).1*1) (1*(S.Q k F).2)=z/\ofD (0*(S.Q k F).2 + -(S.Q k F).1*1) (1*(S.Q k F).2)=y:=⟨congrArg Prod.fst hzy2,congrArg Prod.snd hzy2⟩;have HZY:=Zh (Zi hzy (Zi hzy1.1 (Zi hzy1.2 (Zi hsq hsy))));have HFa:=Zh (Zi hsy.2.1.fits (Zi hsy.2.2.fits (show y≠0 from good_ne hsy.1)));have hgT:g∉[bX]:=by simpa using hgX
       have hbT:bk∉[bX]:=by simpa using hXk.2
       have hkn:(k:Int)<(n:Int):=aO
       clear xk hcell hr hsq hsy hxk hzy hzy2 hzy1 hX7 p0 p1 p2 p3 pf;refine region_gen (T:=[bX]) [.make 2 [] (ratCV [bX] w7.heap.size 0 1),.make 10 [2] (ratCB [bX] w7.heap.size z y),.need 11 [10],.need 13 []] 14 0 40 (fun _ u=>SameAt w7 bX u) (fun _ u u' h k=>⟨(k.block bX h.2).trans h.1,Zl h.2 k.size⟩) ⟨rfl,hXl7⟩ aK aK (by rfl) ?_;unfold genWalk;apply Zs;apply Zi
       ·apply Piece.mk
        ·intro f v hv hr hne;simp only [List.take_succ_cons,List.take_zero,List.drop_succ_cons,List.drop_zero,Nat.reduceSub,Nat.reduceAdd];have d0:=later_cell (T:=[bX]) (w:=w7) (v:=v) hgl7 hgT rk;have d1:=later_cell (T:=[bX]) (w:=w7) (v:=v) hbkl hbT x1;have d2:=later_cell (T:=[bX]) (w:=w7) (v:=v) hbkl hbT x2;have d3:=later_cell (T:=[bX]) (w:=w7) (v:=v) hbkl hbT x3;have d4:=later_cell (T:=[bX]) (w:=w7) (v:=v) hbkl hbT x4
         repeat (go_big_quiet_step (fail))
         refine wpQuiet_nil ?_;exact rfl
        ·intro f; kernel_rfl
        ·intro f f' hf; kernel_rfl
       simp only [List.take_succ_cons,List.take_zero,List.drop_succ_cons,List.drop_zero,Nat.reduceSub,Nat.reduceAdd,oneOp];refine ⟨fun f=>⟨rfl,fun u hu _=>?_⟩,?_⟩
       ·refine make_call (f:=30) (args:=#[.int .i64 0]) (by (try simp only [LN]); (try simp only [newB_val,numB_val,ownB_val,numCB_val,ratCB_val,ratCV_val]); go_simp) ?_;have q:=ref3_IntC (w:=u) 0 aO aO;refine q.mono ?_;rintro e wx ⟨⟨b1,C1,b2,C2,rfl,q1,q2,q3,q4,q5,q6⟩,hbx⟩;obtain ⟨D1,k1,k2,k3⟩:=q1.cap;obtain ⟨D2,k4,k5,k6⟩:=q2.cap;obtain ⟨e1,e2,e3⟩:=un_pk (b2:=b2) k1 k4;refine ⟨(b1,pk3 D1 b2 D2),?_,q3,q4,hbx,(by have:=hu.1; simp; omega),(by simp only [e3]; have:=hu.1; simp; omega),?_,?_,?_,?_⟩
        ·rw [ratCV_val,ratC,ratC];simp only [e1,e2,e3];rw [k2,k5]
        ·simp only [e1]; exact k3
        ·simp only [e2,e3]; exact k6
        ·simp only [e3]; have:=hu.1; omega
        ·simp only [e3]; exact q6
       unfold genWalk;apply Zs;apply Zi
       ·apply Piece.mk
        ·intro f v hv hr hne;simp only [List.take_succ_cons,List.take_zero,List.drop_succ_cons,List.drop_zero,Nat.reduceSub,Nat.reduceAdd]
         (try simp only [LN])
         (try simp only [newB_val,numB_val,ownB_val,numCB_val,ratCB_val,ratCV_val])
         have d0:=later_cell (T:=[bX]) (w:=w7) (v:=v) hgl7 hgT rk;have d1:=later_cell (T:=[bX]) (w:=w7) (v:=v) hbkl hbT x1;have d2:=later_cell (T:=[bX]) (w:=w7) (v:=v) hbkl hbT x2;have d3:=later_cell (T:=[bX]) (w:=w7) (v:=v) hbkl hbT x3;have d4:=later_cell (T:=[bX]) (w:=w7) (v:=v) hbkl hbT x4
         repeat (go_big_quiet_step (fail))
         refine wpQuiet_nil ?_;exact rfl
        ·intro f; kernel_rfl
        ·intro f f' hf; simp
       simp only [List.take_succ_cons,List.take_zero,List.drop_succ_cons,List.drop_zero,Nat.reduceSub,Nat.reduceAdd,oneOp];refine ⟨fun f=>⟨rfl,fun u hu hm=>?_⟩,?_⟩
       ·refine make_call (f:=80) (args:=#[ratC 0 1 (f 2).1 (un1 (f 2).2) (un3 (f 2).2) (un2 (f 2).2),.agg #[.bool t1,.slice E1 m1 d1,.bool t2,.slice E2 m2 d2]]) (by (try simp only [LN]); (try simp only [newB_val,numB_val,ownB_val,numCB_val,ratCB_val,ratCV_val]); go_simp) ?_;have h8:=(show (ratCV [bX] w7.heap.size 0 1).R (f 2) u from hm 2 aS).2.2;have hkr:RatAt u (.agg #[.bool t1,.slice E1 m1 d1,.bool t2,.slice E2 m2 d2]) (S.Q k F).1 (S.Q k F).2:=(HRK.out.move hu.1 (fun b hb hX=>⟨hu.2 b hb (by simpa using hX.2),hX⟩)).at_;have q:=ref3_Sub (w:=u) (ratC_at h8.1 h8.2.1 (fits_small aO) (fits_small aO)) hkr (good_one 0) HZY.out.2.2.2.1.1 (sm_zero.mul HZY.out.2.2.2.1.2.2) (HZY.out.2.2.2.1.2.1.neg.mul Sm.one) (Sm.one.mul HZY.out.2.2.2.1.2.2) (sm_sum sm_zero HZY.out.2.2.2.1.2.2 HZY.out.2.2.2.1.2.1.neg Sm.one);rw [HZY.out.2.1,HZY.out.2.2.1] at q;refine q.mono ?_;rintro e wx ⟨⟨b1,C1,b2,C2,rfl,q1,q2,q3,q4,q5,q6⟩,hbx⟩;obtain ⟨D1,k1,k2,k3⟩:=q1.cap;obtain ⟨D2,k4,k5,k6⟩:=q2.cap;obtain ⟨e1,e2,e3⟩:=un_pk (b2:=b2) k1 k4;refine ⟨(b1,pk3 D1 b2 D2),?_,q3,q4,hbx,(by have:=hu.1; simp; omega),(by simp only [e3]; have:=hu.1; simp; omega),?_,?_,?_,?_⟩
        ·rw [ratCB_val,ratC,ratC];simp only [e1,e2,e3];rw [k2,k5]
        ·simp only [e1]; exact k3
        ·simp only [e2,e3]; exact k6
        ·simp only [e3]; have:=hu.1; omega
        ·simp only [e3]; exact q6
       unfold genWalk;apply Zs;apply Zi
       ·apply Piece.mk
        ·intro f v hv hr hne;simp only [List.take_succ_cons,List.take_zero,List.drop_succ_cons,List.drop_zero,Nat.reduceSub,Nat.reduceAdd]
         (try simp only [LN])
         (try simp only [newB_val,numB_val,ownB_val,numCB_val,ratCB_val,ratCV_val])
         repeat (go_big_quiet_step (fail))
         refine wpQuiet_nil ?_;exact rfl
        ·intro f; kernel_rfl
        ·intro f f' hf; simp
       unfold genWalk;apply Zs;apply Zi
       ·apply Piece.mk
        ·intro f v hv hr hne;simp only [List.take_succ_cons,List.take_zero,List.drop_succ_cons,List.drop_zero,Nat.reduceSub,Nat.reduceAdd]
         (try simp only [LN])
         (try simp only [newB_val,numB_val,ownB_val,numCB_val,ratCB_val,ratCV_val])
         repeat (go_big_quiet_step (fail))
         refine wpQuiet_nil ?_;exact rfl
        ·intro f; kernel_rfl
        ·intro f f' hf; first | (simp; done) | (simp [hf 10 aS])
       unfold genWalk;apply Zs;apply Zi
       ·apply Piece.mk
        ·intro f v hv hr hne;simp only [List.take_succ_cons,List.take_zero,List.drop_succ_cons,List.drop_zero,Nat.reduceSub,Nat.reduceAdd]
         (try simp only [LN])
         (try simp only [newB_val,numB_val,ownB_val,numCB_val,ratCB_val,ratCV_val])
         repeat (go_big_quiet_step (fail))
         refine wpQuiet_nil ?_;exact rfl
        ·intro f; kernel_rfl
        ·intro f f' hf; simp
       intro f u' hup hph hmade hdist;obtain ⟨⟨_,_,oN,oM,loM,hiM⟩,loN,hiN⟩:=hmade 10 aO rfl;replace oN:NumC u' (f 10).1 (un1 (f 10).2) z:=oN;replace oM:NumC u' (un3 (f 10).2) (un2 (f 10).2) y:=oM;have hB1:Below w7.heap.size w7 u':=⟨hup.os,hup.tape,hup.output,hup.size,fun b hb=>by
        by_cases e:b=bX
        ·subst e; exact hph.1
        ·exact hup.block b hb (by simpa using e)⟩
       clear hmade hdist hph hup;simp only [List.take_succ_cons,List.take_zero,List.drop_succ_cons,List.drop_zero,Nat.reduceSub,Nat.reduceAdd]
       (try simp only [LN])
       (try simp only [newB_val,numB_val,ownB_val,numCB_val,ratCB_val,ratCV_val,ratC])
       generalize un1 (f 10).2=C1 at *;generalize un3 (f 10).2=b2 at *;generalize un2 (f 10).2=C2 at *;generalize (f 10).1=b1 at *;generalize un1 (f 2).2=C5 at *;generalize un3 (f 2).2=b6 at *;generalize un2 (f 2).2=C6 at *;generalize (f 2).1=b5 at *;clear f;obtain ⟨A7,n7,c7,hs7⟩:=slC_form z b1 C1;obtain ⟨A8,n8,c8,hs8⟩:=slC_form y b2 C2;rw [hs7,hs8];have RXa:=ratX_ref (X:=fun y=>y≠bX) oN oM HFa.out.1 HFa.out.2.1 hiN hiM (show b1≠bX by omega) (show b2≠bX by omega) hs7 hs8;have HRX:=Zh RXa;clear hs7 hs8 oN oM RXa loM hiM loN hiN;refine effc_mem (by rfl) (fun K hK=>?_);go_simp;refine hK _ _ (Keeps.of_below hB1) (fun u2 hu2=>?_);clear hK K;have hB2:=hB1.trans (hu2.mono hB1.size);have hxa:=HX2.out.below hB2;obtain ⟨w0,w1',w2',w3',g0,g1,g2,g3⟩:=hxa.cells hkm;have pf7:=hxa.thaw;have hput:=hxa.set (y:=kernQ x F) (k':=k+1) hkm (by rw [HZY.out.1]; exact HRX.out.below hu2) (fun i hi hne=>⟨aO,(if_neg hne).symm⟩);have HPUT:=Zh hput;have HMP:=Zh ((HM2.out.below hB2).put4 (b:=bX) (o:=k*4) hgX (fun y hy=>hy.2) (.bool (sgnN z)) (.slice A7 n7 c7) (.bool (sgnN y)) (.slice A8 n8 c8));have HBP:=Zh (Below.setCell (Below.setCell (Below.setCell (Below.setCell (HB2.out.trans (hB2.mono HB2.out.size)) (p:=⟨bX,k*4,none⟩) hw4 (.bool (sgnN z))) (p:=⟨bX,k*4+1,none⟩) hw4 (.slice A7 n7 c7)) (p:=⟨bX,k*4+2,none⟩) hw4 (.bool (sgnN y))) (p:=⟨bX,k*4+3,none⟩) hw4 (.slice A8 n8 c8));have hk2:Keeps [bX] w7 u2:=Keeps.of_below hB2;clear hxa hput hu2 hB1 hB2;refine effc_mem (by rfl) (fun K hK=>?_);go_simp;refine hK _ _ ((((hk2.set (p:=⟨bX,k*4,none⟩) aS (.bool (sgnN z))).set (p:=⟨bX,k*4+1,none⟩) aS (.slice A7 n7 c7)).set (p:=⟨bX,k*4+2,none⟩) aS (.bool (sgnN y))).set (p:=⟨bX,k*4+3,none⟩) aS (.slice A8 n8 c8)) (fun u3 hu3=>?_);clear hK K;have HXN:=Zh (HPUT.out.below hu3);have HMN:=Zh (HMP.out.below hu3);have HBN:=Zh (HBP.out.trans (hu3.mono HBP.out.size));clear hu3 HPUT HMP HBP g0 g1 g2 g3 pf7 hk2;refine effc_nil ?_
       (try simp only [LN])
       go_wp2;go_roundw
       case rel=>exact ⟨k+1,aO,by go_num,HBN.out,HXN.out,HMN.out⟩
       case measure=>simp [intOf]; omega
      ·obtain rfl:k=F:=hkF;have hkFe:((k:Int)==(k:Int))=true:=beq_iff_eq.2 rfl;have hkFi:¬ (k:Int)<(k:Int):=aO
       go_wp2_with fail;generalize ((((ua.setCell ⟨bX,k*4,none⟩ (.bool (sgnN 0))).setCell ⟨bX,k*4+1,none⟩ (.slice Aa1 na1 ca1)).setCell ⟨bX,k*4+2,none⟩ (.bool (sgnN 1))).setCell ⟨bX,k*4+3,none⟩ (.slice Aa2 na2 ca2))=w7 at *;refine Zd (ref3_IntC (w:=w7) 1 aO aO) ?_;rintro e ub ⟨⟨b3,C3,b4,C4,rfl,q1,q2,q3,q4,q5,q6⟩,hb2⟩;obtain ⟨Ab1,nb1,cb1,hs7⟩:=slC_form 1 b3 C3;obtain ⟨Ab2,nb2,cb2,hs8⟩:=slC_form 1 b4 C4;simp only [ratC];rw [hs7,hs8];have hXl:=HX2.out.lt;have RXa:=ratX_ref (X:=fun y=>y≠bX) q1 q2 (fits_small aO) (fits_small aO) q4 q6 (show b3≠bX by omega) (show b4≠bX by omega) hs7 hs8;have hxa:=HX2.out.below hb2;obtain ⟨w0,w1',w2',w3',g0,g1,g2,g3⟩:=hxa.cells hkm;have pf7:=hxa.thaw;have hxl7:=hxa.lt;have HX3:=Zh (hxa.set (y:=kernQ x k) (k':=k+1) hkm (s1:=sgnN 1) (A1:=Ab1) (n1:=nb1) (c1:=cb1) (s2:=sgnN 1) (A2:=Ab2) (n2:=nb2) (c2:=cb2) (by unfold kernQ; rw [if_neg aO,if_pos rfl]; exact RXa) (fun i hi hne=>⟨aO,(if_neg hne).symm⟩));have HM3:=Zh ((HM2.out.below hb2).put4 (b:=bX) (o:=k*4) hgX (fun y hy=>hy.2) (.bool (sgnN 1)) (.slice Ab1 nb1 cb1) (.bool (sgnN 1)) (.slice Ab2 nb2 cb2));have HB3:=Zh (Below.setCell (Below.setCell (Below.setCell (Below.setCell (HB2.out.trans (hb2.mono HB2.out.size)) (p:=⟨bX,k*4,none⟩) hw4 (.bool (sgnN 1))) (p:=⟨bX,k*4+1,none⟩) hw4 (.slice Ab1 nb1 cb1)) (p:=⟨bX,k*4+2,none⟩) hw4 (.bool (sgnN 1))) (p:=⟨bX,k*4+3,none⟩) hw4 (.slice Ab2 nb2 cb2));clear q1 q2 q3 q4 q5 q6 hs7 hs8 RXa hxa hb2 HX2 HM2 HB2 p0 p1 p2 p3 pf;go_wp2;go_roundw
       case rel=>exact ⟨k+1,aO,by go_num,HB3.out,HX3.out,HM3.out⟩
       case measure=>simp [intOf]; omega
      ·have hkFe:((k:Int)==(F:Int))=false:=beq_eq_false_iff_ne.2 aO;have hkFi:¬ (k:Int)<(F:Int):=aO
       go_wp2;go_roundw
       case rel=>exact ⟨k+1,aO,by go_num,HB2.out,HX2.out.congr (fun i hi=>by
        by_cases e:i=k
        ·subst e; rw [if_pos rfl]; unfold kernQ; rw [if_neg aO,if_neg aO]
        ·rw [if_neg e]),HM2.out⟩
       case measure=>simp [intOf]; omega
     ·obtain rfl:m=k:=aO
      have hki:¬ (m:Int)<(m:Int):=aO
      have hWq:=HK.out.2.2.1 hlt;have qm:=ref5_multiple (w:=wr) m HXP.out.toA aO hWq;obtain ⟨y,hy⟩:=Zx (kernQ x F);rw [hy] at qm hWq HXP;have QM:=Zh qm;have HWQ:=Zh hWq;have HY:=Zh hy;have HRY:=Zh HXP.out.toA;have hXl:=HXP.out.lt;clear qm hWq hy HXP HMR HO HL;go_wp2_with fail;refine Zd QM.out ?_;rintro e ua ⟨⟨sB,BB,mB,dB,rfl,hN,hBB⟩,hb2⟩;have hbe:Below ua.heap.size ua (ua.alloc (.cells #[.bool sB,.slice BB mB dB] 35)):=(Zb _ _).alloc (Zr _) _;have hwz:=HW.out.size;have HW6:Hid (Below w.heap.size w (ua.alloc (.cells #[.bool sB,.slice BB mB dB] 35))):=Zh ((HW.out.trans (hb2.mono hwz)).alloc (by have:=hb2.size; omega) _);have HR6:=Zh ((HRY.out.below hb2).below hbe);have HN6:=Zh (hN.below hbe);have oM6:Own (ua.alloc (.cells #[.bool sB,.slice BB mB dB] 35)) ua.heap.size #[.bool sB,.slice BB mB dB]:=Own.new rfl;have hz6:=hb2.size;have HOM:=Zh oM6;clear hb2 hbe hN hBB QM HW HRY oM6;go_wp2;generalize (ua.alloc (.cells #[.bool sB,.slice BB mB dB] 35))=W6 at *;generalize ua.heap.size=bM at *;obtain ⟨B,hBB⟩:=Zx (W6.heap.size);have HBE:=Zh hBB;have hwB:w.heap.size<=B:=by have:=HW6.out.size; omega
      clear hBB hz6;go_loopw [11,12] (fun u i wr=>∃ k:Nat,k<=m/\i = .int .i64 k/\Below B W6 wr/\B<=wr.heap.size/\GrowN B wr u (wholeZ y m k)) (fun _ i _=>m - (intOf i).toNat)
      case atStart=>exact ⟨0,aO,rfl,Zb _ _,by have:=HBE.out; omega,GrowN.start _ _⟩
      case round =>
       obtain ⟨k,hk,rfl,hbw,hsz,hG⟩:=hrel;have HG:=Zh hG;have HBW:Hid (Below W6.heap.size W6 wr):=Zh (by rw [HBE.out]; exact hbw);have hW1:Below w.heap.size w wr:=HW6.out.trans (HBW.out.mono HW6.out.size);have HW1:=Zh hW1;clear hG hbw hW1
       by_cases hkm:k<m
       ·have hki:(k:Int)<(m:Int):=aO
        have oM:=HOM.out.below HBW.out;have oMl:=oM.lt;obtain ⟨b,off,e0,hbb,hcell⟩:=(HR6.out.below HBW.out) aO;cases e0;obtain ⟨s1,A1,n1,c1,s2,A2,n2,c2,e1,e2,e3,e4,NA,ND⟩:=hcell k hkm;rw [Nat.zero_add] at e1 e2 e3 e4;have HNA:=Zh NA;have HND:=Zh ND;have HNB:=Zh (HN6.out.below HBW.out);have hsm:=HWQ.out.sm k hkm;have hby:=HWQ.out.by_ m (Zr m);have hdv:=byW_all (fun i hi=>good_pos2 (HWQ.out.sm i hi)) hkm;have hzs:=wholeZ_snoc y m k;obtain ⟨zb,hzb⟩:=Zx (byW y m);obtain ⟨zd,hzd⟩:=Zx ((y k).2);obtain ⟨za,hza⟩:=Zx ((y k).1);have hsa:Sm za:=by rw [<- hza]; exact hsm.2.1
        have hd0:0<zd:=by rw [<- hzd]; exact good_pos2 hsm
        rw [hzb] at HNB hby hdv hzs;rw [hzd] at HND hdv hzs;rw [hza] at HNA hzs;obtain ⟨zq,hzq⟩:=Zx (zb / zd);rw [hzq] at hzs;have hsq:Sm zq:=by rw [<- hzq]; exact sm_div hby aO
        obtain ⟨zn,hzn⟩:=Zx (za*zq);rw [hzn] at hzs;have HFq:=Zh hsq.fits;have HFn:Hid (fits zn=true):=Zh (by rw [<- hzn]; exact hsa.mul hsq);have HP:=Zh (Zi hzq (Zi hzn (Zi hd0 (Zi hdv hzs))));clear hcell NA ND hsm hby hdv hzs hzb hzd hza hsa hd0 hzq hsq hzn;go_wp2;refine region_gen (T:=[]) [.make 6 [] (divTB [] zq),.need 7 [6],.need 9 [],.make 11 [] (ownB [] #[.bool false,.slice none 0 0] (fun p=>.pointer (some ⟨p,0,none⟩))),.make 12 [] (ownB [] #[.bool false,.slice none 0 0] (fun p=>.pointer (some ⟨p,0,none⟩)))] 13 0 40 (fun _ _=>True) (fun _ _ _ _ _=>trivial) trivial aK aK (by rfl) ?_;unfold genWalk;apply Zs;apply Zi
        ·apply Piece.mk
         ·intro f v hv hr hne;simp only [List.take_succ_cons,List.take_zero,List.drop_succ_cons,List.drop_zero,Nat.reduceSub,Nat.reduceAdd];have d0:=fun y=>(oM.later (v:=v) (T:=[]) aS y).cell
          have d3:=later_cell (T:=[]) (w:=wr) (v:=v) hbb aS e3;have d4:=later_cell (T:=[]) (w:=wr) (v:=v) hbb aS e4
          repeat (go_big_quiet_step (fail))
          refine wpQuiet_nil ?_;exact rfl
         ·intro f; kernel_rfl
         ·intro f f' hf; kernel_rfl
        simp only [List.take_succ_cons,List.take_zero,List.drop_succ_cons,List.drop_zero,Nat.reduceSub,Nat.reduceAdd,oneOp];refine ⟨fun f=>⟨rfl,fun u hu _=>?_⟩,?_⟩
        ·refine make_call (f:=82) (args:=#[.agg #[.bool sB,.slice BB mB dB],.agg #[.bool s2,.slice A2 n2 c2]]) (by (try simp only [LN]); (try simp only [newB_val,numB_val,ownB_val,numTB_val,divTB_val]); go_simp) ?_;have q:=ref1_DivG (w:=u) (HNB.out.keeps hu) (HND.out.keeps hu) (HNB.out.easy) (HND.out.easy) HP.out.2.2.1 HP.out.2.2.2.1;rw [HP.out.1] at q;refine q.mono ?_;rintro e wx ⟨⟨b,C,rfl,q1,q2,q3⟩,hbx⟩;exact ⟨(b,C),by rfl,q2,q3,hbx,aS,q1⟩
        unfold genWalk;apply Zs;apply Zi
        ·apply Piece.mk
         ·intro f v hv hr hne;simp only [List.take_succ_cons,List.take_zero,List.drop_succ_cons,List.drop_zero,Nat.reduceSub,Nat.reduceAdd]
          (try simp only [LN])
          (try simp only [newB_val,numB_val,ownB_val,numTB_val,divTB_val])
          repeat (go_big_quiet_step (fail))
          refine wpQuiet_nil ?_;exact rfl
         ·intro f; kernel_rfl
         ·intro f f' hf; simp
        unfold genWalk;apply Zs;apply Zi
        ·apply Piece.mk
         ·intro f v hv hr hne;simp only [List.take_succ_cons,List.take_zero,List.drop_succ_cons,List.drop_zero,Nat.reduceSub,Nat.reduceAdd]
          (try simp only [LN])
          (try simp only [newB_val,numB_val,ownB_val,numTB_val,divTB_val])
          repeat (go_big_quiet_step (fail))
          refine wpQuiet_nil ?_;exact rfl
         ·intro f; kernel_rfl
         ·intro f f' hf; first | (simp; done) | (simp [hf 6 aS])
        unfold genWalk;apply Zs;apply Zi
        ·apply Piece.mk
         ·intro f v hv hr hne;simp only [List.take_succ_cons,List.take_zero,List.drop_succ_cons,List.drop_zero,Nat.reduceSub,Nat.reduceAdd]
          (try simp only [LN])
          (try simp only [newB_val,numB_val,ownB_val,numTB_val,divTB_val])
          repeat (go_big_quiet_step (fail))
          refine wpQuiet_nil ?_;exact rfl
         ·intro f; kernel_rfl
         ·intro f f' hf; simp
        simp only [List.take_succ_cons,List.take_zero,List.drop_succ_cons,List.drop_zero,Nat.reduceSub,Nat.reduceAdd,oneOp];refine ⟨fun f=>⟨rfl,fun u hu _=>?_⟩,?_⟩
        ·refine make_own (e:=35) (by (try simp only [LN]); (try simp only [newB_val,numB_val,ownB_val,numTB_val,divTB_val]); go_simp) aS
        unfold genWalk;apply Zs;apply Zi
        ·apply Piece.mk
         ·intro f v hv hr hne;simp only [List.take_succ_cons,List.take_zero,List.drop_succ_cons,List.drop_zero,Nat.reduceSub,Nat.reduceAdd]
          (try simp only [LN])
          (try simp only [newB_val,numB_val,ownB_val,numTB_val,divTB_val])
          repeat (go_big_quiet_step (fail))
          refine wpQuiet_nil ?_;exact rfl
         ·intro f; kernel_rfl
         ·intro f f' hf; simp
        simp only [List.take_succ_cons,List.take_zero,List.drop_succ_cons,List.drop_zero,Nat.reduceSub,Nat.reduceAdd,oneOp];refine ⟨fun f=>⟨rfl,fun u hu _=>?_⟩,?_⟩
        ·refine make_own (e:=35) (by (try simp only [LN]); (try simp only [newB_val,numB_val,ownB_val,numTB_val,divTB_val]); go_simp) aS
        unfold genWalk;apply Zs;apply Zi
        ·apply Piece.mk
         ·intro f v hv hr hne;simp only [List.take_succ_cons,List.take_zero,List.drop_succ_cons,List.drop_zero,Nat.reduceSub,Nat.reduceAdd]
          (try simp only [LN])
          (try simp only [newB_val,numB_val,ownB_val,numTB_val,divTB_val])
          repeat (go_big_quiet_step (fail))
          refine wpQuiet_nil ?_;exact rfl
         ·intro f; kernel_rfl
         ·intro f f' hf; simp
        intro f u' hup hph hmade hdist;obtain ⟨⟨_,oN⟩,loN,hiN⟩:=hmade 6 aO rfl;obtain ⟨⟨_,o3⟩,lo3,hi3⟩:=hmade 11 aO rfl;have hne1:=hdist 6 11 aO aO rfl rfl aO;replace oN:NumC u' (f 6).1 (f 6).2 zq:=oN;replace o3:Own u' (f 11).1 #[.bool false,.slice none 0 0]:=o3;obtain ⟨⟨_,o4⟩,lo4,hi4⟩:=hmade 12 aO rfl;replace o4:Own u' (f 12).1 #[.bool false,.slice none 0 0]:=o4;have hne2:=hdist 6 12 aO aO rfl rfl aO;have hne3:=hdist 11 12 aO aO rfl rfl aO;clear hmade hdist hph;simp only [List.take_succ_cons,List.take_zero,List.drop_succ_cons,List.drop_zero,Nat.reduceSub,Nat.reduceAdd]
        (try simp only [LN])
        (try simp only [newB_val,numB_val,ownB_val,numTB_val,divTB_val,numC,zeroN])
        generalize (f 6).1=b1 at *;generalize (f 6).2=C1 at *;generalize (f 11).1=bq at *;generalize (f 12).1=bzq at *;clear f;have hwU:Below wr.heap.size wr u':=Upd.below (Zb _ _) hup aS;have hkT:=Upd.keeps (Keeps.refl _ _) hup;obtain ⟨Aq1,nq1,cq1,hs7⟩:=slC_form zq b1 C1;rw [hs7];have HSL:=Zh hs7;have o3c:=o3.cell;have o3f:=o3.thaw;have o4c:=o4.cell;have o4f:=o4.thaw;clear hs7 hup;refine effc_mem (by rfl) (fun K hK=>?_);go_simp;refine hK _ _ ((hkT.new (p:=⟨bq,0,none⟩) lo3 (.bool (sgnN zq))).new (p:=⟨bq,1,none⟩) lo3 (.slice Aq1 nq1 cq1)) (fun u3 hu3=>?_);clear hK K;have hs3:=hu3.size;simp [World.setCell] at hs3;have hw2:=(((hwU.setCell (p:=⟨bq,0,none⟩) lo3 (.bool (sgnN zq))).setCell (p:=⟨bq,1,none⟩) lo3 (.slice Aq1 nq1 cq1))).trans (hu3.mono (by simp [World.setCell]; exact hwU.size));have k3:=(((o3.set 0 (.bool (sgnN zq))).set 1 (.slice Aq1 nq1 cq1))).below hu3;have N1:=((((oN.far (p:=⟨bq,0,none⟩) (by first | assumption | (simp; omega)) (.bool (sgnN zq))).far (p:=⟨bq,1,none⟩) (by first | assumption | (simp; omega)) (.slice Aq1 nq1 cq1))).below hu3);have hk1:=(((hkT.new (p:=⟨bq,0,none⟩) lo3 (.bool (sgnN zq))).new (p:=⟨bq,1,none⟩) lo3 (.slice Aq1 nq1 cq1))).later hu3;have k4:=(((o4.far (p:=⟨bq,0,none⟩) (by first | assumption | (simp; omega)) (.bool (sgnN zq))).far (p:=⟨bq,1,none⟩) (by first | assumption | (simp; omega)) (.slice Aq1 nq1 cq1))).below hu3;clear o3 o3c o3f oN hkT hu3 hwU;have k4c:=k4.cell;have k4f:=k4.thaw;clear o4 o4c o4f;refine effc_mem (by rfl) (fun K hK=>?_);go_simp;refine hK _ _ ((hk1.new (p:=⟨bzq,0,none⟩) lo4 (.bool false)).new (p:=⟨bzq,1,none⟩) lo4 (.slice none 0 0)) (fun u3b hu3=>?_);clear hK K;have hs3b:=hu3.size;simp [World.setCell] at hs3b;replace hw2:=(((hw2.setCell (p:=⟨bzq,0,none⟩) lo4 (.bool false)).setCell (p:=⟨bzq,1,none⟩) lo4 (.slice none 0 0))).trans (hu3.mono (by simp [World.setCell]; exact hw2.size));replace k3:=(((k3.far (p:=⟨bzq,0,none⟩) (by first | assumption | (simp; omega)) (.bool false)).far (p:=⟨bzq,1,none⟩) (by first | assumption | (simp; omega)) (.slice none 0 0))).below hu3;replace N1:=((((N1.far (p:=⟨bzq,0,none⟩) (by first | assumption | (simp; omega)) (.bool false)).far (p:=⟨bzq,1,none⟩) (by first | assumption | (simp; omega)) (.slice none 0 0))).below hu3);replace hk1:=(((hk1.new (p:=⟨bzq,0,none⟩) lo4 (.bool false)).new (p:=⟨bzq,1,none⟩) lo4 (.slice none 0 0))).later hu3;clear k4 k4c k4f hu3;refine effc_mem (by rfl) (fun K hK=>?_);go_simp;refine hK _ _ hk1 (fun uq hu4=>?_);clear hK K;refine effc_nil ?_
        (try simp only [LN])
        have HBq:=hw2.trans (hu4.mono hw2.size);have OBq:=k3.below hu4;have hsz4:=hu4.size;have NXq:Hid (NumAt uq (.agg #[.bool (sgnN zq),.slice Aq1 nq1 cq1]) zq/\∀ b off,Aq1=some ⟨b,off,none⟩->wr.heap.size<=b/\b<uq.heap.size/\b≠bq):=Zh ⟨(N1.below hu4).at2 HFq.out HSL.out,fun b off e=>by
         have h9:=HSL.out;rw [e] at h9;have h8:=slC_addr h9;cases h8;exact ⟨aO,aO,hne1⟩⟩
        have LBq:=lo3;clear k3 N1 hu4 hw2 hk1 HSL hne1 hs3 hsz4 loN hiN lo3 hi3 hne2 hne3 lo4 hi4 hs3b;have hzq:=HBq.size;have e1q:=(Zc (w:=wr) (a:=⟨bX,k*4,none⟩) (HBq.block bX hbb)).trans e1;have e2q:=(Zc (w:=wr) (a:=⟨bX,k*4+1,none⟩) (HBq.block bX hbb)).trans e2;have hbbq:bX<uq.heap.size:=aO
        have HNAq:=Zh (HNA.out.below HBq);have oql:=OBq.lt;have HWq:Hid (Below B W6 uq):=Zh (Below.trans (B:=B) (by have:=HBW.out; rw [HBE.out] at this; exact this) (HBq.mono hsz));have HGq:=Zh (HG.out.below HBq);have HW1q:=Zh (HW1.out.trans (HBq.mono HW1.out.size));clear e1 e2 e3 e4 HNA HND HNB oM HBq HG HW1;go_wp2;refine region_gen (T:=[]) [.make 6 [] (numTB [] zn),.need 7 [6],.need 9 [],.make 10 [] (ownB [] #[.bool false,.slice none 0 0] (fun p=>.pointer (some ⟨p,0,none⟩)))] 11 0 40 (fun _ _=>True) (fun _ _ _ _ _=>trivial) trivial aK aK (by rfl) ?_;unfold genWalk;apply Zs;apply Zi
        ·apply Piece.mk
         ·intro f v hv hr hne;simp only [List.take_succ_cons,List.take_zero,List.drop_succ_cons,List.drop_zero,Nat.reduceSub,Nat.reduceAdd];have d0:=fun y=>(OBq.later (v:=v) (T:=[]) aS y).cell
          have d3:=later_cell (T:=[]) (w:=uq) (v:=v) hbbq aS e1q;have d4:=later_cell (T:=[]) (w:=uq) (v:=v) hbbq aS e2q
          repeat (go_big_quiet_step (fail))
          refine wpQuiet_nil ?_;exact rfl
         ·intro f; kernel_rfl
         ·intro f f' hf; kernel_rfl
        simp only [List.take_succ_cons,List.take_zero,List.drop_succ_cons,List.drop_zero,Nat.reduceSub,Nat.reduceAdd,oneOp];refine ⟨fun f=>⟨rfl,fun u hu _=>?_⟩,?_⟩
        ·refine make_call (f:=83) (args:=#[.agg #[.bool s1,.slice A1 n1 c1],.agg #[.bool (sgnN zq),.slice Aq1 nq1 cq1]]) (by (try simp only [LN]); (try simp only [newB_val,numB_val,ownB_val,numTB_val,divTB_val]); go_simp) ?_;have q:=ref1_Mul (w:=u) (HNAq.out.keeps hu) (NXq.out.1.keeps hu);unfold RetM at q;rw [HP.out.2.1] at q;refine q.mono ?_;rintro e wx ⟨⟨b,C,rfl,q1,q2,q3⟩,hbx⟩;exact ⟨(b,C),by rw [HFn.out]; rfl,q2,q3,hbx,aS,q1⟩
        unfold genWalk;apply Zs;apply Zi
        ·apply Piece.mk
         ·intro f v hv hr hne;simp only [List.take_succ_cons,List.take_zero,List.drop_succ_cons,List.drop_zero,Nat.reduceSub,Nat.reduceAdd]
          (try simp only [LN])
          (try simp only [newB_val,numB_val,ownB_val,numTB_val,divTB_val])
          repeat (go_big_quiet_step (fail))
          refine wpQuiet_nil ?_;exact rfl
         ·intro f; kernel_rfl
         ·intro f f' hf; simp
        unfold genWalk;apply Zs;apply Zi
        ·apply Piece.mk
         ·intro f v hv hr hne;simp only [List.take_succ_cons,List.take_zero,List.drop_succ_cons,List.drop_zero,Nat.reduceSub,Nat.reduceAdd]
          (try simp only [LN])
          (try simp only [newB_val,numB_val,ownB_val,numTB_val,divTB_val])
          repeat (go_big_quiet_step (fail))
          refine wpQuiet_nil ?_;exact rfl
         ·intro f; kernel_rfl
         ·intro f f' hf; first | (simp; done) | (simp [hf 6 aS])
        unfold genWalk;apply Zs;apply Zi
        ·apply Piece.mk
         ·intro f v hv hr hne;simp only [List.take_succ_cons,List.take_zero,List.drop_succ_cons,List.drop_zero,Nat.reduceSub,Nat.reduceAdd]
          (try simp only [LN])
          (try simp only [newB_val,numB_val,ownB_val,numTB_val,divTB_val])
          repeat (go_big_quiet_step (fail))
          refine wpQuiet_nil ?_;exact rfl
         ·intro f; kernel_rfl
         ·intro f f' hf; simp
        simp only [List.take_succ_cons,List.take_zero,List.drop_succ_cons,List.drop_zero,Nat.reduceSub,Nat.reduceAdd,oneOp];refine ⟨fun f=>⟨rfl,fun u hu _=>?_⟩,?_⟩
        ·refine make_own (e:=35) (by (try simp only [LN]); (try simp only [newB_val,numB_val,ownB_val,numTB_val,divTB_val]); go_simp) aS
        unfold genWalk;apply Zs;apply Zi
        ·apply Piece.mk
         ·intro f v hv hr hne;simp only [List.take_succ_cons,List.take_zero,List.drop_succ_cons,List.drop_zero,Nat.reduceSub,Nat.reduceAdd]
          (try simp only [LN])
          (try simp only [newB_val,numB_val,ownB_val,numTB_val,divTB_val])
          repeat (go_big_quiet_step (fail))
          refine wpQuiet_nil ?_;exact rfl
         ·intro f; kernel_rfl
         ·intro f f' hf; simp
        intro f u' hup hph hmade hdist;obtain ⟨⟨_,oN⟩,loN,hiN⟩:=hmade 6 aO rfl;obtain ⟨⟨_,o3⟩,lo3,hi3⟩:=hmade 10 aO rfl;have hne1:=hdist 6 10 aO aO rfl rfl aO;replace oN:NumC u' (f 6).1 (f 6).2 zn:=oN;replace o3:Own u' (f 10).1 #[.bool false,.slice none 0 0]:=o3;clear hmade hdist hph;simp only [List.take_succ_cons,List.take_zero,List.drop_succ_cons,List.drop_zero,Nat.reduceSub,Nat.reduceAdd]
        (try simp only [LN])
        (try simp only [newB_val,numB_val,ownB_val,numTB_val,divTB_val,numC,zeroN])
        generalize (f 6).1=b1 at *;generalize (f 6).2=C1 at *;generalize (f 10).1=bn at *;clear f;have hwU:Below uq.heap.size uq u':=Upd.below (Zb _ _) hup aS;have hkT:=Upd.keeps (Keeps.refl _ _) hup;obtain ⟨An1,nn1,cn1,hs7⟩:=slC_form zn b1 C1;rw [hs7];have HSL:=Zh hs7;have o3c:=o3.cell;have o3f:=o3.thaw;clear hs7 hup;refine effc_mem (by rfl) (fun K hK=>?_);go_simp;refine hK _ _ ((hkT.new (p:=⟨bn,0,none⟩) lo3 (.bool (sgnN zn))).new (p:=⟨bn,1,none⟩) lo3 (.slice An1 nn1 cn1)) (fun u3 hu3=>?_);clear hK K;have hs3:=hu3.size;simp [World.setCell] at hs3;have hw2:=(((hwU.setCell (p:=⟨bn,0,none⟩) lo3 (.bool (sgnN zn))).setCell (p:=⟨bn,1,none⟩) lo3 (.slice An1 nn1 cn1))).trans (hu3.mono (by simp [World.setCell]; exact hwU.size));have k3:=(((o3.set 0 (.bool (sgnN zn))).set 1 (.slice An1 nn1 cn1))).below hu3;have N1:=((((oN.far (p:=⟨bn,0,none⟩) (by first | assumption | (simp; omega)) (.bool (sgnN zn))).far (p:=⟨bn,1,none⟩) (by first | assumption | (simp; omega)) (.slice An1 nn1 cn1))).below hu3);have hk1:=(((hkT.new (p:=⟨bn,0,none⟩) lo3 (.bool (sgnN zn))).new (p:=⟨bn,1,none⟩) lo3 (.slice An1 nn1 cn1))).later hu3;clear o3 o3c o3f oN hkT hu3 hwU;refine effc_mem (by rfl) (fun K hK=>?_);go_simp;refine hK _ _ hk1 (fun un hu4=>?_);clear hK K;refine effc_nil ?_
        (try simp only [LN])
        have HBn:=hw2.trans (hu4.mono hw2.size);have OBn:=k3.below hu4;have hsz4:=hu4.size;have NXn:Hid (NumAt un (.agg #[.bool (sgnN zn),.slice An1 nn1 cn1]) zn/\∀ b off,An1=some ⟨b,off,none⟩->uq.heap.size<=b/\b<un.heap.size/\b≠bn):=Zh ⟨(N1.below hu4).at2 HFn.out HSL.out,fun b off e=>by
         have h9:=HSL.out;rw [e] at h9;have h8:=slC_addr h9;cases h8;exact ⟨aO,aO,hne1⟩⟩
        have LBn:=lo3;clear k3 N1 hu4 hw2 hk1 HSL hne1 hs3 hsz4 loN hiN lo3 hi3;have hzn:=HBn.size;obtain ⟨xs,hxo,hxc⟩:=HGq.out.below HBn;have hln:(wholeZ y m k).length=k:=wholeZ_len _ _ _;rw [hln] at hxo;have hxl:∀ b,u11.ownBlock=some b->b<uq.heap.size:=HGq.out.lt;have HXL:=Zh hxl;have HXC:=Zh hxc;have HLN:=Zh hln;have onc:=OBn.cell;have hszn:B<=un.heap.size:=aO
        have HWn:Hid (Below B W6 un):=Zh (Below.trans (B:=B) HWq.out (HBn.mono aO));clear hxc hxl hln e1q e2q HNAq HBn OBq;go_wp2_with (at_builtin; refine wpList_append_lies _ rfl _ _ _ (by rfl) B 35 i0 zeroN 2 32 Tryz.underlying49 hi0 hz0 hz1 hz2 rfl aO _ k xs (by rfl) (hxo.alloc _) ⟨un.heap.size,0,none⟩ 1 1 [.bool (sgnN zn),.slice An1 nn1 cn1] (by rfl) rfl ?sa ?sb aO ?sc ?sd ?se (un.heap.size+1) aS ?_)
        try case sa=>exact World.news_of_block (heap_alloc_new un _)
        case sb=>first | rfl | (intro u hu; simp at hu; rcases hu with rfl | rfl <;> rfl)
        case sc=>unfold maxLen; omega
        case sd=>omega
        case se=>first | omega | (simp; omega)
        intro g9 cg9 w9 ho9 hg9 hat9 hlt9;have hba:Below un.heap.size un (un.alloc (.cells #[.bool (sgnN zn),.slice An1 nn1 cn1] 35)):=(Zb _ _).alloc (Zr _) _;have hGN:GrowN B w9 (.slice (some ⟨g9,0,none⟩) (k+1) cg9) (wholeZ y m (k+1)):=by
         rw [HP.out.2.2.2.2];refine GrowN.next (U:=un.alloc (.cells #[.bool (sgnN zn),.slice An1 nn1 cn1] 35)) HLN.out (HXC.out.below hba) (fun b off e=>?_) (NXn.out.1.below hba) ho9 hg9 (by rcases hat9 with h | h; exact .inl h; exact .inr aT);have h1:=NXn.out.2 b off e;exact ⟨aT,aO,fun e=>by have:=HXL.out _ e.symm; omega⟩
        have hB9:Below B W6 w9:=Below.grown (Below.alloc HWn.out hszn (.cells #[.bool (sgnN zn),.slice An1 nn1 cn1] 35)) hg9 aT (fun b hb=>ownBlock_ge hxo hb);have HN:=Zh (Zi hGN hB9);have hs9:=hg9.size;simp at hs9;clear hGN hB9 ho9 hg9 hat9 hlt9 hxo hba onc;go_wp2;go_roundw
        case rel=>exact ⟨k+1,aO,by go_num,HN.out.2,aO,HN.out.1⟩
        case measure=>simp [intOf]; omega
       ·obtain rfl:m=k:=aO
        have hki:¬ (m:Int)<(m:Int):=aO
        obtain ⟨A9,c9,e9,r1,r2,r3,r4⟩:=HG.out.row;rw [wholeZ_len] at e9 r2 r4;have HR9:Hid (RowV (fun _=>True) (.slice A9 m c9) (wholeZ y m m) wr):=Zh ⟨A9,c9,by rw [wholeZ_len],r1,by rw [wholeZ_len]; exact r2,r3,by rw [wholeZ_len]; exact r4.imp fun _ _ _=>trivial⟩;subst e9;rw [<- HY.out] at HR9;clear r1 r2 r3 r4;go_wp2;go_ret2;exact ⟨⟨_,rfl,by first | exact .inr ⟨rfl,hlt,HR9.out⟩ | exact .inr ⟨hlt,HR9.out⟩ | exact HR9.out | exact ⟨hlt,HR9.out⟩⟩,HW1.out⟩
 ·have hoe:(o != 0)=true:=bne_iff_ne.2 ho;have HB:=Zh hb1;clear hb1;go_wp2;go_ret2;exact ⟨⟨_,rfl,.inl ⟨fun h=>ho h.1,rfl⟩⟩,HB.out⟩
end Go.Proofs.YtflgngjocgiojaaGreat
