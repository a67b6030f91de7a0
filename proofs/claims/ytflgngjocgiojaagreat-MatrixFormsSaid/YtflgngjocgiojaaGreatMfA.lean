import Derived.Test.YtflgngjocgiojaaGreatApp
set_option linter.all false
namespace Go.Proofs.YtflgngjocgiojaaGreat
open Go.RowKit
theorem keepsG {T:List Nat} {w u v:World} {row:Option Nat} (h:Keeps T w u) (hg:u.grownBy v row) (hr:∀ r,row=some r->r∈T\/w.heap.size<=r):Keeps T w v:=
 ⟨Zm h.1 hg.size,fun b hb hT=>(hg.block b (Zl hb h.1) (fun e=>by
  rcases hr b e.symm with h1 | h1
  ·exact hT h1
  ·omega)).trans (h.2 b hb hT)⟩
theorem rowBase {w:World} {B B':Nat} {e:TypeId} {size:Nat} {v:Value} {n:Nat} {xs:List Value} (h:w.ownsRow B e size v n xs) (hb:B'<=B):w.ownsRow B' e size v n xs:=
 ⟨h.1,h.2.imp_right fun ⟨g,cap,cur,h1,h2,h3⟩=>⟨g,cap,cur,h1,Zm hb h2,h3⟩⟩
theorem GrowQ.upd {T:List Nat} {base n:Nat} {u u':World} {v:Value} {Q:Nat->QI} (h:GrowQ base u v n Q) (k:Upd T u u') (hT:∀ b∈T,b<base):GrowQ base u' v n Q:=by
 obtain ⟨xs,h1,h2⟩:=h;have hn:∀ b,base<=b->b∉T:=fun b hb hm=>by have:=hT b hm; omega
 refine ⟨xs,⟨h1.1,?_⟩,h2.move k.size fun b hb hX=>⟨k.block b hb (hn b hX.1),hX⟩⟩;rcases h1.2 with h3 | ⟨g,cap,cur,e1,e2,e3,e4⟩
 ·exact .inl h3
 ·exact .inr ⟨g,cap,cur,e1,e2,(k.block g (Zt.1 e3).1 (hn g e2)).trans e3,e4⟩
theorem GrowQ.base {B B' n:Nat} {w:World} {v:Value} {Q:Nat->QI} (h:GrowQ B w v n Q) (hb:B'<=B):GrowQ B' w v n Q:=by
 obtain ⟨xs,h1,h2⟩:=h;exact ⟨xs,rowBase h1 hb,h2.move (Zr _) fun b _ hX=>⟨rfl,Zm hb hX.1,hX.2⟩⟩
theorem NumC.ne_grow {u:World} {b C g c n B:Nat} {z:Int} {Q:Nat->QI} (h:NumC u b C z) (hf:fits z=true) (h0:z≠0) (hq:GrowQ B u (.slice (some ⟨g,0,none⟩) n c) n Q) (hn:0<n):b≠g:=fun e=>by
 subst e;obtain ⟨_,_,h3⟩:=h hf h0;have hp:0<(digs z.natAbs).length:=by
  rcases Nat.eq_zero_or_pos (digs z.natAbs).length with h4 | h4
  ·have:=digs_nil.1 (List.eq_nil_of_length_eq_zero h4);omega
  ·exact h4
 obtain ⟨b',off,e',_,hc⟩:=h3.row hp;cases e';have h4:=hc 0 hp;obtain ⟨xs,h5,h6⟩:=hq;obtain ⟨s1,A1,n1,c1,s2,A2,n2,c2,e1,_⟩:=h6.2 0 hn;have h7:=(ownsRow_cell h5 hn).2.2.2.2 0 aO;rw [h7,show (0:Nat)=0*4 from rfl,e1] at h4;cases h4
theorem IntsAt.keepW {T:List Nat} {w wr u:World} {A:Option Addr} {n:Nat} {l:List Int} (h:IntsAt w A n l) (hb:Below w.heap.size w wr) (hk:Keeps T wr u) (hT:∀ t∈T,w.heap.size<=t):IntsAt u A n l:=
 ⟨h.len,h.ok,fun h0=>by
  obtain ⟨b,off,e,hlt,hc⟩:=h.row h0;exact ⟨b,off,e,Zl hlt (Zm hb.size hk.1),fun i hi=>(Zc (w:=w) (a:=⟨b,off+i,none⟩) ((hk.2 b (Zl hlt hb.size) (fun hm=>by have:=hT b hm; omega)).trans (hb.block b hlt))).trans (hc i hi)⟩⟩
def growB (T:List Nat) (B n:Nat) (Q:Nat->QI):EBS T where
 val p:= .slice (some ⟨p.1,0,none⟩) n p.2
 R p u:=GrowQ B u (.slice (some ⟨p.1,0,none⟩) n p.2) n Q/\∀ b∈T,b<B
 st _ _ _ h k:=⟨h.1.upd k h.2,h.2⟩
theorem growB_val {T:List Nat} {B n:Nat} {Q:Nat->QI} {p:Nat×Nat}:(growB T B n Q).val p = .slice (some ⟨p.1,0,none⟩) n p.2:=rfl
theorem sysQ_row {M:List (List Int)} {b:List Int} {k m:Nat} (hk:k<M.length) (hb:b.length=M.length) (hm:(rAt M k).length=m):(∀ j,j<m->sysQ M b k j=(iAt (rAt M k) j,1))/\sysQ M b k m=(iAt b k,1):=by
 unfold sysQ;rw [rAt_sysL M b hk];unfold sysR zAt iAt;rw [if_pos aO];refine ⟨fun j hj=>?_,?_⟩
 ·rw [Ze,List.getElem?_append_left aO,<- Ze]
 ·rw [Ze,List.getElem?_append_right aO,hm,Nat.sub_self];rfl
def refS (M:List (List Int)) (b:List Int):Nat->QI:=fun k=>(runR M.length (sysQ M b) M.length).Q k M.length
set_option maxRecDepth 100000 in
set_option maxHeartbeats 16000000 in
theorem ref5_Solve {w:World} {A Ab:Option Addr} {n nb:Nat} {M:List (List Int)} {b:List Int} (c cb:Nat) (h:RowsAt w A n M) (hbI:IntsAt w Ab nb b) (hnb:nb<=1000000) :
 Calls Tryz.prog 37 #[.slice A n c,.slice Ab nb cb] w fun e w'=>(∃ v,e = .returned (.tuple #[v,.int .i64 (solveE M b)])/\((solveE M b≠0/\v = .slice none 0 0)\/(solveE M b=0/\RowQ w.heap.size w' v n (refS M b))))/\Below w.heap.size w w':=by
 obtain ⟨iR,hiR,hy0,hy1,hy2⟩:=info_parts infoRat;obtain ⟨iS,hiS,hz0,hz1,hz2⟩:=info_parts infoRs;have hl:=h.len;have hbl:=hbI.len;have H:=Zh h;have HBI:=Zh hbI;have qc:=ref5_Check c h;obtain ⟨oe,hoe⟩:=Zx (solveE M b);rw [hoe];unfold solveE at hoe;rw [hl,hbl] at hoe;obtain ⟨o,ho⟩:=Zx (matCheck M);obtain ⟨m,hm⟩:=Zx (cols M);rw [ho] at qc hoe;rw [hm] at hoe;obtain ⟨x,hx⟩:=Zx (refS M b);rw [hx];have HOE:=Zh hoe;have HX:=Zh (Zi hx (Zi hm ho));have QC:=Zh qc;have HL:=Zh (Zi hl hbl);clear qc ho h hl hx hm hoe hbI hbl;go_enter Tryz.func37,Tryz.ntmps37;go_wp2_with fail;refine Zd QC.out ?_;rintro e w1 ⟨rfl,hb1⟩
 by_cases ho:o=0
 ·subst ho;obtain ⟨hn48,hm8,hwid,-⟩:=matCheck_ok HX.out.2.2;rw [HL.out.1] at hn48 hwid;rw [HX.out.2.1] at hm8 hwid;have HWD:=Zh hwid;have hn1:=hn48;have qcol:=ref5_Columns (w:=w1) c (H.out.below hb1);rw [HX.out.2.1] at qcol;have QCOL:=Zh qcol;have HB1:=Zh hb1;clear qcol hb1 QC hwid;have hni:(n:Int)<=48:=aO
  by_cases hmn:m=n
  ·subst hmn;have hmne:((m:Int) != (m:Int))=false:=aS
   by_cases hnbn:m=nb
   ·subst hnbn;have qr:=ref5_ranged (w:=w1) cb (HBI.out.below HB1.out) hnb;obtain ⟨lg,hlg⟩:=Zx (anyF (fun k=>largeI (iAt b k)) m);rw [hlg] at qr;have HLG:=Zh hlg;clear hlg qr;go_wp2_with fail;refine Zd QCOL.out ?_;rintro e w2 ⟨rfl,hb2⟩;have qr:=ref5_ranged (w:=w2) cb ((HBI.out.below HB1.out).below hb2) hnb;rw [HLG.out] at qr;have QR:=Zh qr;have HB2:=Zh (HB1.out.trans (hb2.mono HB1.out.size));clear qr hb2;cases lg
    ·have HOE2:Hid ((if rankS M b<m then 8 else 0)=oe):=Zh (by
      have h:=HOE.out;rw [if_neg aS,if_neg aO,if_neg (by rw [HLG.out]; simp)] at h;exact h)
     clear HOE;go_wp2_with fail;refine Zd QR.out ?_;rintro e w3 ⟨rfl,hb3⟩;have HB3:=Zh (HB2.out.trans (hb3.mono HB2.out.size));clear hb3 QR HB2 HB1 QCOL;go_wp2;go_loopw [8,9] (fun u i wr=>∃ k:Nat,k<=m/\i = .int .i64 k/\Below w.heap.size w wr/\GrowM w.heap.size wr u k (m+1) (sysQ M b)) (fun _ i _=>m - (intOf i).toNat)
     case atStart=>exact ⟨0,aO,rfl,HB3.out,GrowM.start _ _ _ _⟩
     case round =>
      clear HB3;obtain ⟨k,hk,rfl,hbw,hG⟩:=hrel;have HG:=Zh hG;have HW1:=Zh hbw;have hwz:=hbw.size;clear hG hbw
      by_cases hkm:k<m
      ·have hki:(k:Int)<(m:Int):=aO
       obtain ⟨b0,off0,rfl,hb0,hcell⟩:=H.out.row aO;obtain ⟨Bk,mk,ck,q0,zk1,zk2,hIk⟩:=hcell k hkm;have hmk:m=mk:=by have:=HWD.out k hkm; rw [hIk.len] at this; omega
       subst hmk;have q:=(Zc (w:=w) (a:=⟨b0,off0+k,none⟩) (HW1.out.block b0 hb0)).trans q0;have HIK:=Zh hIk;obtain ⟨b1,off1,rfl,hb1,hcell1⟩:=HBI.out.row aO;have q1:=hcell1 k hkm;have hzb:=HBI.out.ok k (by rw [HBI.out.len]; exact hkm);have hsy:=sysQ_row (M:=M) (b:=b) (k:=k) (m:=m) (by rw [HL.out.1]; exact hkm) (by rw [HL.out.1,HL.out.2]) (HWD.out k hkm);obtain ⟨z,hz⟩:=Zx (iAt b k);rw [hz] at q1 hzb hsy;have q2:=(Zc (w:=w) (a:=⟨b1,off1+k,none⟩) (HW1.out.block b1 hb1)).trans q1;have HZ:=Zh (Zi hz hzb);have HSY:=Zh hsy;have HF:Hid (fits z=true):=Zh (fits_small aO);obtain ⟨T,hT⟩:∃ T:List Nat,∀ b,u8.ownBlock=some b↔b∈T:=⟨u8.ownBlock.toList,fun b=>aS⟩;have hTb:∀ b∈T,w.heap.size<=b/\b<wr.heap.size:=fun b hb=>by
        have h1:=(hT b).2 hb;obtain ⟨xs,h2,_⟩:=HG.out;exact ⟨ownBlock_ge h2 h1,ownBlock_lt h2 h1⟩
       have hb0l:b0<wr.heap.size:=aO
       have hb1l:b1<wr.heap.size:=aO
       have hb0T:b0∉T:=fun hm=>by have:=(hTb b0 hm).1; omega
       have hb1T:b1∉T:=fun hm=>by have:=(hTb b1 hm).1; omega
       clear hcell hcell1 q0 q1 hIk hz hzb hsy;go_wp2;refine region_gen (T:=T) [.make 5 [] (growB T wr.heap.size m (fun j=>(iAt (rAt M k) j,1))),.make 10 [] (ratCV T wr.heap.size z 1)] 11 0 40 (fun _ u=>∀ b∈T,SameAt wr b u) (fun _ u u' h k b hb=>⟨(k.block b (h b hb).2).trans (h b hb).1,Zl (h b hb).2 k.size⟩) (fun b hb=>⟨rfl,(hTb b hb).2⟩) aK aK (by rfl) ?_;unfold genWalk;apply Zs;apply Zi
       ·apply Piece.mk
        ·intro f v hv hr hne;simp only [List.take_succ_cons,List.take_zero,List.drop_succ_cons,List.drop_zero,Nat.reduceSub,Nat.reduceAdd];have d0:=later_cell (T:=T) (w:=wr) (v:=v) hb0l hb0T q
         repeat (go_big_quiet_step (fail))
         refine wpQuiet_nil ?_;exact rfl
        ·intro f; kernel_rfl
        ·intro f f' hf; kernel_rfl
       simp only [List.take_succ_cons,List.take_zero,List.drop_succ_cons,List.drop_zero,Nat.reduceSub,Nat.reduceAdd,oneOp];refine ⟨fun f=>⟨rfl,fun u hu _=>?_⟩,?_⟩
       ·refine make_call (f:=85) (args:=#[.slice Bk m ck]) (by (try simp only [LN]); (try simp only [newB_val,numB_val,ownB_val,numCB_val,ratCB_val,ratCV_val,growB_val]); go_simp) ?_;have q:=ref5_ratios (w:=u) ck (HIK.out.keepW HW1.out hu (fun t ht=>(hTb t ht).1)) aO;refine q.mono ?_;rintro e wx ⟨⟨v,rfl,hq⟩,hbx⟩;obtain ⟨A9,c9,rfl,z8,z9,hx9,hA9⟩:=hq.row;obtain ⟨g9,rfl,hg9⟩:=hA9 aO;exact ⟨(g9,c9),rfl,hg9,hq.lt g9 rfl,hbx,hq.base hu.1,fun b hb=>(hTb b hb).2⟩
       unfold genWalk;apply Zs;apply Zi
       ·apply Piece.mk
        ·intro f v hv hr hne;simp only [List.take_succ_cons,List.take_zero,List.drop_succ_cons,List.drop_zero,Nat.reduceSub,Nat.reduceAdd]
         (try simp only [LN])
         (try simp only [newB_val,numB_val,ownB_val,numCB_val,ratCB_val,ratCV_val,growB_val])
         have d1:=later_cell (T:=T) (w:=wr) (v:=v) hb1l hb1T q2
         repeat (go_big_quiet_step (fail))
         refine wpQuiet_nil ?_;exact rfl
        ·intro f; kernel_rfl
        ·intro f f' hf; simp
       simp only [List.take_succ_cons,List.take_zero,List.drop_succ_cons,List.drop_zero,Nat.reduceSub,Nat.reduceAdd,oneOp];refine ⟨fun f=>⟨rfl,fun u hu _=>?_⟩,?_⟩
       ·refine make_call (f:=30) (args:=#[.int .i64 z]) (by (try simp only [LN]); (try simp only [newB_val,numB_val,ownB_val,numCB_val,ratCB_val,ratCV_val,growB_val]); go_simp) ?_;have q:=ref3_IntC (w:=u) z HZ.out.2.1 HZ.out.2.2;refine q.mono ?_;rintro e wx ⟨⟨b1,C1,b2,C2,rfl,q1,q2,q3,q4,q5,q6⟩,hbx⟩;obtain ⟨D1,k1,k2,k3⟩:=q1.cap;obtain ⟨D2,k4,k5,k6⟩:=q2.cap;obtain ⟨e1,e2,e3⟩:=un_pk (b2:=b2) k1 k4;refine ⟨(b1,pk3 D1 b2 D2),?_,q3,q4,hbx,(fun hm=>by have:=(hTb _ hm).2; have:=hu.1; omega),(fun hm=>by simp only [e3] at hm; have:=(hTb _ hm).2; have:=hu.1; omega),?_,?_,?_,?_⟩
        ·rw [ratCV_val,ratC,ratC];simp only [e1,e2,e3];rw [k2,k5]
        ·simp only [e1]; exact k3
        ·simp only [e2,e3]; exact k6
        ·simp only [e3]; have:=hu.1; omega
        ·simp only [e3]; exact q6
       unfold genWalk;apply Zs;apply Zi
       ·apply Piece.mk
        ·intro f v hv hr hne;simp only [List.take_succ_cons,List.take_zero,List.drop_succ_cons,List.drop_zero,Nat.reduceSub,Nat.reduceAdd]
         (try simp only [LN])
         (try simp only [newB_val,numB_val,ownB_val,numCB_val,ratCB_val,ratCV_val,growB_val])
         repeat (go_big_quiet_step (fail))
         refine wpQuiet_nil ?_;exact rfl
        ·intro f; kernel_rfl
        ·intro f f' hf; simp
       intro f u' hup hph hmade hdist;obtain ⟨⟨hq5,_⟩,lo5,hi5⟩:=hmade 5 aO rfl;obtain ⟨⟨_,_,oN,oM,loM,hiM⟩,loN,hiN⟩:=hmade 10 aO rfl;have hne1:=hdist 5 10 aO aO rfl rfl aO;replace oN:NumC u' (f 10).1 (un1 (f 10).2) z:=oN;replace oM:NumC u' (un3 (f 10).2) (un2 (f 10).2) 1:=oM;have hne2:=oM.ne_grow (fits_small aO) aO hq5 aO;have hB1:Below wr.heap.size wr u':=⟨hup.os,hup.tape,hup.output,hup.size,fun b hb=>by
        by_cases e:b∈T
        ·exact (hph b e).1
        ·exact hup.block b hb e⟩
       clear hmade hdist hph hup;simp only [List.take_succ_cons,List.take_zero,List.drop_succ_cons,List.drop_zero,Nat.reduceSub,Nat.reduceAdd]
       (try simp only [LN])
       (try simp only [newB_val,numB_val,ownB_val,numCB_val,ratCB_val,ratCV_val,growB_val,ratC])
       generalize un1 (f 10).2=C1 at *;generalize un3 (f 10).2=b2 at *;generalize un2 (f 10).2=C2 at *;generalize (f 10).1=b1 at *;generalize (f 5).2=c5 at *;generalize (f 5).1=g5 at *;clear f;obtain ⟨A7,n7,c7,hs7⟩:=slC_form z b1 C1;obtain ⟨A8,n8,c8,hs8⟩:=slC_form 1 b2 C2;rw [hs7,hs8];have RXa:=ratX_ref (X:=fun y=>wr.heap.size<=y/\some y≠some g5) oN oM HF.out (fits_small aO) hiN hiM ⟨loN,fun e=>hne1 (Option.some.inj e).symm⟩ ⟨loM,fun e=>hne2 (Option.some.inj e)⟩ hs7 hs8;have HRX:=Zh RXa;have HQ5:=Zh hq5;clear hs7 hs8 oN oM RXa loM hiM loN hiN hq5 hne1 hne2;refine effc_mem (by rfl) (fun K hK=>?_);go_simp;refine hK _ _ ((Keeps.of_below hB1).alloc _) (fun u3 hu3=>?_);clear hK K;have hal:Below u'.heap.size u' (u'.alloc (.cells #[.bool (sgnN z),.slice A7 n7 c7,.bool (sgnN 1),.slice A8 n8 c8] 37)):=(Zb _ _).alloc (Zr _) _;have oE:Own u3 u'.heap.size #[.bool (sgnN z),.slice A7 n7 c7,.bool (sgnN 1),.slice A8 n8 c8]:=Own.below (Own.new rfl) hu3;have hB3:=hB1.trans ((hal.trans (hu3.mono hal.size)).mono hB1.size);have HQ6:=Zh ((HQ5.out.below hal).below hu3);have HRX3:=Zh ((HRX.out.below hal).below hu3);obtain ⟨xs,hxo,hxc⟩:=HQ6.out;obtain ⟨TE,hTE⟩:=oE;have HXC:=Zh hxc;have hgl5:=HQ6.out.lt g5 rfl;have hs1:=hB1.size;have hs3:=hB3.size;clear hxc hu3 hal HQ5 HRX;refine effc_mem (by rfl) (fun K hK=>?_);refine late_append _ _ 38 rfl wr.heap.size 37 iR (.agg #[.bool false,.slice none 0 0,.bool false,.slice none 0 0]) 4 64 Tryz.underlying38 hiR hy0 hy1 hy2 rfl aO _ m xs (by rfl) hxo ⟨u'.heap.size,0,none⟩ 1 1 [.bool (sgnN z),.slice A7 n7 c7,.bool (sgnN 1),.slice A8 n8 c8] (by rfl) rfl (World.news_of_block hTE) ?_ aO (by unfold maxLen; omega) aO aO u3.heap.size rfl ?_
       ·intro y hy; simp at hy; rcases hy with rfl | rfl | rfl | rfl <;> rfl
       intro g6 c6 u4 ho6 hg6 hat6 hlt6;have hGQ:GrowQ wr.heap.size u4 (.slice (some ⟨g6,0,none⟩) (m+1) c6) (m+1) (sysQ M b k):=by
        refine RatC.next (U:=u3) (HXC.out.congr (fun i hi=>(HSY.out.1 i hi))) ?_ ho6 hg6 (by rcases hat6 with h | h; exact .inl h; exact .inr aO);rw [HSY.out.2];exact HRX3.out
       have hB4:Below wr.heap.size wr u4:=Below.grown hB3 hg6 aO (fun b hb=>by cases hb; exact lo5);have HGQ:=Zh hGQ;clear hGQ ho6 hg6 hat6 hlt6 hTE HXC HRX3 HQ6 hxo hB3 hB1 hgl5 hi5 lo5;refine hK _ _ (Keeps.of_below hB4) (fun u5 hu5=>?_);clear hK K;have hB5:=hB4.trans (hu5.mono hB4.size);have hGQ5:=HGQ.out.below hu5;obtain ⟨A9,c9,e9,z8,z9,hx9,-⟩:=hGQ5.row;cases e9;have HX9:=Zh hx9;clear hu5 hB4 HGQ hGQ5 hx9 hs1 hs3;refine effc_mem (by rfl) (fun K hK=>?_);go_simp;refine hK _ _ ((Keeps.of_below hB5).alloc _) (fun u6 hu6=>?_);clear hK K;have hal:Below u5.heap.size u5 (u5.alloc (.cells #[.slice (some ⟨g6,0,none⟩) (m+1) c6] 38)):=(Zb _ _).alloc (Zr _) _;have oE:Own u6 u5.heap.size #[.slice (some ⟨g6,0,none⟩) (m+1) c6]:=Own.below (Own.new rfl) hu6;have hB6:=hB5.trans ((hal.trans (hu6.mono hal.size)).mono hB5.size);have HX6:=Zh ((HX9.out.below hal).below hu6);obtain ⟨xs,hxo,hxc⟩:=HG.out.below hB6;obtain ⟨TE,hTE⟩:=oE;have HXC:=Zh hxc;have hs6:=hB6.size;clear hxc hu6 hal HX9 hB5;refine effc_mem (by rfl) (fun K hK=>?_);refine late_append _ _ 41 rfl w.heap.size 38 iS (.slice none 0 0) 1 24 Tryz.underlying41 hiS hz0 hz1 hz2 rfl aO _ k xs (by rfl) hxo ⟨u5.heap.size,0,none⟩ 1 1 [.slice (some ⟨g6,0,none⟩) (m+1) c6] (by rfl) rfl (World.news_of_block hTE) ?_ aO (by unfold maxLen; omega) aO aO u6.heap.size rfl ?_
       ·intro y hy; simp at hy; subst hy; rfl
       intro g8 cg8 u7 ho8 hg8 hat8 hlt8;have hGM:GrowM w.heap.size u7 (.slice (some ⟨g8,0,none⟩) (k+1) cg8) (k+1) (m+1) (sysQ M b):=by
        refine RowsR.next (U:=u6) HXC.out z8 z9 (HX6.out.imp fun y _ hX=>⟨by have:wr.heap.size<=y:=hX; omega,fun e=>by have:=(hTb y ((hT y).1 e.symm)).2; have:wr.heap.size<=y:=hX; omega⟩) ho8 hg8 (by rcases hat8 with h | h; exact .inl h; exact .inr aO)
       have hB7:Below w.heap.size w u7:=Below.grown (HW1.out.trans (hB6.mono hwz)) hg8 aO (fun y hy=>((hTb y ((hT y).1 hy)).1));have hk7:Keeps T wr u7:=keepsG (Keeps.of_below hB6) hg8 (fun r e=>.inl ((hT r).1 e));have HN7:=Zh (Zi hGM hB7);clear hGM hB7 ho8 hg8 hat8 hlt8 hTE HXC HX6 hxo hB6;refine hK _ _ hk7 (fun u8' hu8=>?_);clear hK K;have hk8:=hk7.later hu8;have HN8:=Zh (Zi (HN7.out.1.below hu8) (HN7.out.2.trans (hu8.mono HN7.out.2.size)));clear HN7 hu8 hk7;refine effc_mem (by rfl) (fun K hK=>?_);go_simp;refine hK _ _ hk8 (fun u9' hu9=>?_);clear hK K;have HN9:=Zh (Zi (HN8.out.1.below hu9) (HN8.out.2.trans (hu9.mono HN8.out.2.size)));clear HN8 hu9 hk8;refine effc_nil ?_
       (try simp only [LN])
       go_wp2;go_roundw
       case rel=>exact ⟨k+1,aO,by go_num,HN9.out.2,HN9.out.1⟩
       case measure=>simp [intOf]; omega
      ·obtain rfl:m=k:=aO
       have hki:¬ (m:Int)<(m:Int):=aO
       have hff:=ref_fineS HX.out.2.2 (by rw [HX.out.2.1,HL.out.1]) (by rw [HL.out.1,HL.out.2]) (by rw [HL.out.2]; exact HLG.out);have hrk:=ref_rankS (M:=M) (b:=b) HX.out.2.2 (by rw [HX.out.2.1,HL.out.1]) (by rw [HL.out.1,HL.out.2]);have hxe:=HX.out.1;unfold refS at hxe;rw [HL.out.1] at hff hrk hxe;have qd:=ref5_reduced (w:=wr) (base:=w.heap.size) HG.out hwz aO (Nat.le_succ m) aO (fun e=>e) hff;obtain ⟨A0,c0,rfl⟩:=HG.out.form;obtain ⟨S,hS⟩:=Zx (runR m (sysQ M b) m);rw [hS] at hrk hxe qd;have QD:=Zh qd;have HXE:Hid (∀ k,x k=S.Q k m):=Zh (fun k=>by rw [<- hxe]);have HRK:=Zh hrk;clear hff hrk hxe qd hS HWD;go_wp2_with fail;refine Zd QD.out ?_;rintro e ua ⟨⟨AL,a,cL,rfl,ra,r2,r3,r4,r5⟩,hb2⟩;rw [HRK.out] at ra;have HR5:=Zh r5;have HB2:=Zh (HW1.out.trans hb2);have HRA:=Zh ra;clear r2 r3 r4 r5 hb2 ra QD HG
       by_cases ham:a<m
       ·have hami:(a:Int)<(m:Int):=aO
        have HE:Hid (oe=8):=Zh (by rw [<- HOE2.out,if_pos (by have:=HRA.out; omega)]);go_wp2;go_ret2;exact ⟨⟨_,by rw [HE.out]; rfl,.inl ⟨by rw [HE.out]; omega,rfl⟩⟩,HB2.out⟩
       ·have hami:¬ (a:Int)<(m:Int):=aO
        have HE:Hid (oe=0):=Zh (by rw [<- HOE2.out,if_neg (by have:=HRA.out; omega)]);go_wp2;obtain ⟨B,hB⟩:=Zx (ua.heap.size);have HBE:=Zh hB;have hwB:w.heap.size<=B:=by have:=HB2.out.size; omega
        clear hB;go_loopw [11,12] (fun u i wr=>∃ (k:Nat) (xs:List Value),k<=m/\i = .int .i64 k/\Below B ua wr/\B<=wr.heap.size/\wr.ownsRow B 37 4 u k xs/\RatC (fun b=>w.heap.size<=b/\b<B) wr xs k x) (fun _ i _=>m - (intOf i).toNat)
        case atStart=>exact ⟨0,[],aO,rfl,Zb _ _,by have:=HBE.out; omega,⟨rfl,.inl ⟨rfl,rfl⟩⟩,rfl,fun i h=>absurd h (Nat.not_lt_zero i)⟩
        case round =>
         obtain ⟨k,xs,hk,rfl,hbw,hsz,hxo,hxc⟩:=hrel;have HBW:Hid (Below ua.heap.size ua wr):=Zh (by rw [HBE.out]; exact hbw);have hW1:Below w.heap.size w wr:=HB2.out.trans (HBW.out.mono HB2.out.size);have HWW:=Zh hW1;have HXO:=Zh hxo;have HXC:=Zh hxc;clear hbw hW1 hxo hxc
         by_cases hkm:k<m
         ·have hki:(k:Int)<(m:Int):=aO
          obtain ⟨g,c1,e1,hc1,hc2,hM⟩:=HR5.out aO;cases e1;have hMw:=hM.below HBW.out;obtain ⟨Bk,ck,rk,zk1,zk2,-⟩:=hMw.row hkm;obtain ⟨Bk',ck',rk',-,-,xk⟩:=hM.row hkm;have e2:=(Zc (w:=ua) (a:=⟨g,k,none⟩) (HBW.out.block g hM.lt)).trans rk';rw [rk] at e2;cases e2;obtain ⟨bk,offk,rfl,hbkl,hXk,hcell⟩:=xk aO;obtain ⟨t1,E1,m1,d1,t2,E2,m2,d2,y1,y2,y3,y4,hr⟩:=hcell m (Nat.lt_succ_self m);have hbB:=HBW.out.block bk hbkl;have x1:=(Zc (w:=ua) (a:=⟨bk,offk+m*4,none⟩) hbB).trans y1;have x2:=(Zc (w:=ua) (a:=⟨bk,offk+m*4+1,none⟩) hbB).trans y2;have x3:=(Zc (w:=ua) (a:=⟨bk,offk+m*4+2,none⟩) hbB).trans y3;have x4:=(Zc (w:=ua) (a:=⟨bk,offk+m*4+3,none⟩) hbB).trans y4;have hrx:RatX (fun b=>w.heap.size<=b/\b<B) wr t1 E1 m1 d1 t2 E2 m2 d2 (x k).1 (x k).2:=by
           rw [HXE.out k];exact hr.move HBW.out.size fun b hb hX=>⟨HBW.out.block b hb,hX.1,by have:=HBE.out; omega⟩
          have HRX:=Zh hrx;have hm1i:(m:Int)<((m+1:Nat):Int):=aO
          have hm1i2:(m:Int)<(m:Int)+1:=aO
          have hgl:=hMw.lt;have hbkl2:bk<wr.heap.size:=Zl hbkl HBW.out.size;clear hM hMw rk' xk hcell hr hrx y1 y2 y3 y4 hbB hXk;go_wp2_with (at_builtin; refine wpList_append_lies _ rfl _ _ _ (by rfl) B 37 iR (.agg #[.bool false,.slice none 0 0,.bool false,.slice none 0 0]) 4 64 Tryz.underlying38 hiR hy0 hy1 hy2 rfl aO _ k xs (by rfl) (HXO.out.alloc _) ⟨wr.heap.size,0,none⟩ 1 1 [.bool t1,.slice E1 m1 d1,.bool t2,.slice E2 m2 d2] (by rfl) rfl ?sa ?sb aO ?sc ?sd ?se (wr.heap.size+1) aS ?_)
          try case sa=>exact World.news_of_block (heap_alloc_new wr _)
          case sb=>first | rfl | (intro u hu; simp at hu; rcases hu with rfl | rfl | rfl | rfl <;> rfl)
          case sc=>unfold maxLen; omega
          case sd=>omega
          case se=>first | omega | (simp; omega)
          intro g9 cg9 w9 ho9 hg9 hat9 hlt9;have hba:Below wr.heap.size wr (wr.alloc (.cells #[.bool t1,.slice E1 m1 d1,.bool t2,.slice E2 m2 d2] 37)):=(Zb _ _).alloc (Zr _) _;have hob:∀ b,_=some b->B<=b:=fun b hb=>ownBlock_ge HXO.out hb
          have hC9:RatC (fun b=>w.heap.size<=b/\b<B) w9 (xs++[.bool t1,.slice E1 m1 d1,.bool t2,.slice E2 m2 d2]) (k+1) x:=
           RatC.move (RatC.snoc (HXC.out.move hba.size fun b hb hX=>⟨hba.block b hb,hX⟩) (HRX.out.below hba)) hg9.size fun b hb hX=>⟨hg9.block b hb (fun e=>by have:=hob b e.symm; omega),hX⟩
          have hB9:Below B ua w9:=Below.grown (Below.alloc (B:=B) (by have:=HBW.out; rw [HBE.out] at this; exact this) hsz (.cells #[.bool t1,.slice E1 m1 d1,.bool t2,.slice E2 m2 d2] 37)) hg9 aT hob;have HN:=Zh (Zi hB9 (Zi ho9 hC9));have hs9:=hg9.size;simp at hs9;clear hC9 hB9 ho9 hg9 hat9 hlt9 hba hob x1 x2 x3 x4 rk;go_wp2;go_roundw
          case rel=>exact ⟨k+1,_,aO,by go_num,HN.out.1,aO,HN.out.2.1,HN.out.2.2⟩
          case measure=>simp [intOf]; omega
         ·obtain rfl:m=k:=aO
          have hki:¬ (m:Int)<(m:Int):=aO
          have hGQ:GrowQ w.heap.size wr u11 m x:=⟨xs,rowBase HXO.out hwB,HXC.out.move (Zr _) fun b _ hX=>⟨rfl,hX.1,fun e=>by have:=ownBlock_ge HXO.out e.symm; omega⟩⟩;obtain ⟨A9,c9,rfl,r1,r2,r3,r4⟩:=hGQ.row;have HRQ:Hid (RowQ w.heap.size wr (.slice A9 m c9) m x):=Zh ⟨A9,c9,rfl,r1,r2,r3,fun h0=>by obtain ⟨g,e,_⟩:=r4 h0; exact ⟨g,e⟩⟩;clear r1 r2 r3 r4 hGQ;go_wp2;go_ret2;exact ⟨⟨_,by rw [HE.out]; rfl,.inr ⟨HE.out,HRQ.out⟩⟩,HWW.out⟩
    ·have HE:Hid (oe=3):=Zh (by
      have h:=HOE.out;rw [if_neg aS,if_neg aO,if_pos HLG.out] at h;exact h.symm)
     go_wp2_with fail;refine Zd QR.out ?_;rintro e w3 ⟨rfl,hb3⟩;have HB3:=Zh (HB2.out.trans (hb3.mono HB2.out.size));clear hb3;go_wp2;go_ret2;exact ⟨⟨_,by rw [HE.out]; rfl,.inl ⟨by rw [HE.out]; omega,rfl⟩⟩,HB3.out⟩
   ·have hnbe:((nb:Int) != (m:Int))=true:=bne_iff_ne.2 aO;have HE:Hid (oe=4):=Zh (by
     have h:=HOE.out;rw [if_neg aS,if_pos aO] at h;exact h.symm)
    go_wp2_with fail;refine Zd QCOL.out ?_;rintro e w2 ⟨rfl,hb2⟩;have HB2:=Zh (HB1.out.trans (hb2.mono HB1.out.size));clear hb2;go_wp2;go_ret2;exact ⟨⟨_,by rw [HE.out]; rfl,.inl ⟨by rw [HE.out]; omega,rfl⟩⟩,HB2.out⟩
  ·have hmne:((m:Int) != (n:Int))=true:=bne_iff_ne.2 aO;have HE:Hid (oe=4):=Zh (by
    have h:=HOE.out;rw [if_neg aS,if_pos aO] at h;exact h.symm)
   go_wp2_with fail;refine Zd QCOL.out ?_;rintro e w2 ⟨rfl,hb2⟩;have HB2:=Zh (HB1.out.trans (hb2.mono HB1.out.size));clear hb2;go_wp2;go_ret2;exact ⟨⟨_,by rw [HE.out]; rfl,.inl ⟨by rw [HE.out]; omega,rfl⟩⟩,HB2.out⟩
 ·have hone:(o != 0)=true:=bne_iff_ne.2 ho;have HE:Hid (oe=o):=Zh (by
   have h:=HOE.out;rw [if_pos ho] at h;exact h.symm)
  have HB:=Zh hb1;clear hb1;go_wp2;go_ret2;exact ⟨⟨_,by rw [HE.out]; rfl,.inl ⟨by rw [HE.out]; exact ho,rfl⟩⟩,HB.out⟩
def StatR (w:World) (xs:List Value) (M:List (List Int)):Prop:=xs.length=M.length/\∀ i,i<M.length->∃ B m c,xs[i]?=some (.slice B m c)/\m<=c/\c<=9223372036854775807/\IntsAt w B m (rAt M i)
theorem StatR.nil (w:World):StatR w [] []:=⟨rfl,fun i h=>absurd h (Nat.not_lt_zero i)⟩
theorem StatR.below {w w':World} {xs:List Value} {M:List (List Int)} (h:StatR w xs M) (hb:Below w.heap.size w w'):StatR w' xs M:=
 ⟨h.1,fun i hi=>by
  obtain ⟨B,m,c,h1,h2,h3,h4⟩:=h.2 i hi;exact ⟨B,m,c,h1,h2,h3,h4.below hb⟩⟩
theorem StatR.app {w:World} {xs ys:List Value} {M N:List (List Int)} (h:StatR w xs M) (h':StatR w ys N):StatR w (xs++ys) (M++N):=
 ⟨by rw [List.length_append,List.length_append,h.1,h'.1],fun i hi=>by
  rw [List.length_append] at hi;have hr:∀ (M N:List (List Int)) i,rAt (M++N) i=if i<M.length then rAt M i else rAt N (i - M.length):=fun M N i=>by
   unfold rAt;rw [Ze,Ze,Ze];split
   ·rw [List.getElem?_append_left (by assumption)]
   ·rw [List.getElem?_append_right aO]
  rw [hr]
  by_cases e:i<M.length
  ·rw [if_pos e,List.getElem?_append_left (by rw [h.1]; exact e)];exact h.2 i e
  ·rw [if_neg e,List.getElem?_append_right (by rw [h.1]; omega),h.1];exact h'.2 _ aO⟩
theorem StatR.set {w:World} {xs:List Value} {M:List (List Int)} (h:StatR w xs M) {k m c:Nat} {B:Option Addr} {l:List Int} (h1:m<=c) (h2:c<=9223372036854775807) (h3:IntsAt w B m l):StatR w (xs.set k (.slice B m c)) (M.set k l):=
 ⟨by rw [List.length_set,List.length_set,h.1],fun i hi=>by
  rw [List.length_set] at hi
  by_cases e:k=i
  ·subst e;have hr:rAt (M.set k l) k=l:=by unfold rAt; rw [Ze,List.getElem?_set,if_pos rfl,if_pos hi]; rfl
   rw [hr,List.getElem?_set,if_pos rfl,if_pos (by rw [h.1]; exact hi)];exact ⟨B,m,c,rfl,h1,h2,h3⟩
  ·have hr:rAt (M.set k l) i=rAt M i:=by unfold rAt; rw [Ze,List.getElem?_set,if_neg e,<- Ze]
   rw [hr,List.getElem?_set,if_neg e];exact h.2 i hi⟩
theorem StatR.one {w:World} {xs:List Value} {M:List (List Int)} (h:StatR w xs M):∀ u∈xs,u.oneCell'=true:=fun u hu=>by
 obtain ⟨i,hi,rfl⟩:=List.getElem_of_mem hu;obtain ⟨B,m,c,e,_⟩:=h.2 i (by rw [<- h.1]; exact hi);rw [List.getElem?_eq_getElem hi] at e;injection e with e
 rw [e]; rfl
theorem rowsAt_of {W:World} {base n:Nat} {v:Value} {xs:List Value} {M:List (List Int)} (h:W.ownsRow base 22 1 v n xs) (hs:StatR W xs M) (hn:M.length=n):∃ A c,v = .slice A n c/\n<=c/\c<=9223372036854775807/\RowsAt W A n M:=by
 rcases h.2 with ⟨rfl,h0⟩ | ⟨g,cap,cur,rfl,h1,h2,h3,h4,h5,h6⟩
 ·subst h0;exact ⟨none,0,rfl,Zr _,aO,hn,fun h=>absurd h (Nat.lt_irrefl 0)⟩
 ·have hg:g<W.heap.size:=by
   rcases Nat.lt_or_ge g W.heap.size with h | h
   ·exact h
   ·rw [Array.getElem?_eq_none h] at h2; cases h2
  have h4':=h4;unfold maxLen at h4';refine ⟨some ⟨g,0,none⟩,cap,rfl,h3,aO,hn,fun h0=>⟨g,0,rfl,hg,fun i hi=>?_⟩⟩;obtain ⟨B,m,c,e1,e2,e3,e5⟩:=hs.2 i aO;have q:=(ownsRow_cell (xs:=xs) (size:=1) (e:=22) ⟨h.1,.inr ⟨g,cap,cur,rfl,h1,h2,h3,h4,h5,h6⟩⟩ h0).2.2.2.2 i aO;exact ⟨B,m,c,by rw [Nat.zero_add,q]; exact e1,e2,e3,e5⟩
theorem rows_stat {w:World} {A:Option Addr} {n:Nat} {M:List (List Int)} (h:RowsAt w A n M):∃ xs,StatR w xs M/\∀ b off,A=some ⟨b,off,none⟩->0<n->b<w.heap.size/\∀ w':World,w'.heap[b]?=w.heap[b]?->∀ j u,xs[j]?=some u->w'.cell? ((⟨b,off,none⟩:Addr).add j)=some u:=by
 rcases Nat.eq_zero_or_pos n with h0 | h0
 ·have:M=[]:=List.eq_nil_of_length_eq_zero (by rw [h.len]; exact h0);subst this;exact ⟨[],StatR.nil _,fun b off _ h1=>aO⟩
 ·obtain ⟨b,off,rfl,hlt,hc⟩:=h.row h0;refine ⟨(List.range n).map fun i=>(w.cell? ⟨b,off+i,none⟩).getD undef,⟨by simp [h.len],fun i hi=>?_⟩,fun b' off' e _=>?_⟩
  ·rw [h.len] at hi;obtain ⟨B,m,c,h1,h2,h3,h4⟩:=hc i hi;exact ⟨B,m,c,by simp [hi,h1],h2,h3,h4⟩
  ·cases e;refine ⟨hlt,fun w' hw' j u hj=>?_⟩;have hjn:j<n:=by
    have:=(List.getElem?_eq_some_iff.1 hj).1;simpa using this
   have e:(⟨b,off,none⟩:Addr).add j=⟨b,off+j,none⟩:=by unfold Addr.add; split <;> simp_all
   rw [e];obtain ⟨B,m,c,h1,_⟩:=hc j hjn;simp [hjn,h1] at hj;rw [<- hj];exact (Zc (a:=⟨b,off+j,none⟩) hw').trans h1
theorem ownsRow_put {w:World} {base g n cap k:Nat} {e:TypeId} {xs:List Value} (h:w.ownsRow base e 1 (.slice (some ⟨g,0,none⟩) n cap) n xs) (hk:k<n) (x:Value):(w.setCell ⟨g,k,none⟩ x).ownsRow base e 1 (.slice (some ⟨g,0,none⟩) n cap) n (xs.set k x):=by
 rcases h.2 with ⟨e1,_⟩ | ⟨g',cap',cur,e1,e2,e3,e4,e5,e6,e7⟩
 ·cases e1
 ·injection e1 with a1 a2 a3
  injection a1 with a1; injection a1 with a1
  subst a1; subst a3;refine ⟨by rw [List.length_set]; exact h.1,.inr ⟨g,cap,cur.setIfInBounds k x,rfl,e2,?_,e4,e5,by simpa using e6,?_⟩⟩
  ·simp [World.setCell,Array.getElem?_modify,e3]
  ·rw [<- e7];apply List.ext_getElem?;intro i;rw [List.getElem?_set,List.getElem?_take,List.getElem?_take]
   by_cases hi:i<n*1
   ·rw [if_pos hi,Array.getElem?_toList,Array.getElem?_setIfInBounds]
    by_cases e:k=i
    ·subst e;rw [if_pos rfl,if_pos rfl,if_pos aO];rw [if_pos (by rw [List.length_take,Array.length_toList]; omega)]
    ·rw [if_neg e,if_neg e,if_pos hi,Array.getElem?_toList]
   ·rw [if_neg hi,if_neg aO,if_neg hi]
theorem mfTake {w:World} {A:Option Addr} {n m:Nat} {l:List Int} (h:IntsAt w A n l) (hm:m<=n):IntsAt w A m (l.take m):=by
 have ht:∀ i,i<m->iAt (l.take m) i=iAt l i:=fun i hi=>by
  unfold iAt;rw [Ze,Ze,List.getElem?_take,if_pos hi]
 refine ⟨by rw [List.length_take,h.len]; omega,fun i hi=>?_,fun h0=>?_⟩
 ·rw [List.length_take] at hi;rw [ht i aO];exact h.ok i aO
 ·obtain ⟨b,off,e,hlt,hc⟩:=h.row aO;exact ⟨b,off,e,hlt,fun i hi=>by rw [ht i hi]; exact hc i aO⟩
theorem SliceI.ints {w:World} {A:Option Addr} {n:Nat} {l:List Int} (h:SliceI w A n l) (hI:I64L l):IntsAt w A n l:=
 ⟨h.len,hI,fun h0=>by
  obtain ⟨b,off,e,hlt,hc⟩:=h.row (by intro e; rw [e] at h; have:=h.len; simp at this; omega);exact ⟨b,off,e,hlt,fun i hi=>hc i (by rw [h.len]; exact hi)⟩⟩
theorem wpList_append_w {P:Program} (w:World) {ops:Array Oper} {rest:List Oper} {o:Oper} {a:Act} {Q:Exit->Act->World->Prop} (hw:Region.wanted o (yielded ops a.tmps)=true) (s x:Operand) (t:TypeId)
 (ho:o.op = .call { callee:= .builtin .append,args:=#[s,x],argTypes:=#[t,t] })
 (base:Nat) (e:TypeId) (i:TypeInfo) (z:Value) (size bytes:Nat) (ht:P.underlying t=some (.slice e)) (hi:P.info? e=some i) (hz:i.zero=some z)
 (hsize:i.size=size) (hby:i.bytes=bytes) (hzs:z.cells.size=size) (hsz:0<size)
 (v:Value) (n:Nat) (xs:List Value) (hs:a.eval s=v) (hown:w.ownsRow base e size v n xs)
 (ad:Addr) (m c:Nat) (news:List Value) (hx:a.eval x = .slice (some ad) m c) (hl:news.length=m*size) (hnews:∀ j u,news[j]?=some u->w.cell? (ad.add j)=some u) (h1:∀ u∈news,u.oneCell'=true)
 (hm:0<m) (h63:n+m<=maxLen) (hbytes:(n+m)*bytes<=140737488355328) (hbase:base<=w.heap.size) (H:Nat) (hH:w.heap.size=H)
 (h:∀ g cap w',w'.ownsRow base e size (.slice (some ⟨g,0,none⟩) (n+m) cap) (n+m) (xs++news)->w.grownBy w' v.ownBlock->(v.ownBlock=some g\/g=H)->g<w'.heap.size->wpList P ops Q rest (a.put o.dst (.slice (some ⟨g,0,none⟩) (n+m) cap)) w'):wpList P ops Q (o::rest) a w:=
 BigFrame.wpList_want hw fun _ hK=>wp_append_lies w s x t ho base e i z size bytes ht hi hz hsize hby hzs hsz v n xs hs hown ad m c news hx hl hnews h1 hm h63 hbytes hbase H hH fun g cap w' h2 h3 h4 h5=>hK _ _ (h g cap w' h2 h3 h4 h5)
theorem mf_append_none {P:Program} (w:World) (t ty e:TypeId) (i:TypeInfo) (ht:P.underlying t=some (.slice e)) (hi:P.info? e=some i) (b n cap:Nat) (a:Addr) (c:Nat) (hn:n<=cap) :
 (Builtin.append_ #[t,t] ty #[.slice (some ⟨b,0,none⟩) n cap,.slice (some a) 0 c]).run P w = .ok (.slice (some ⟨b,0,none⟩) n cap) w:=by
 have h:=run_append_room_cells (P:=P) w t ty e i ht hi b 0 n cap a 0 c [] aS aS aS aO aS aS;simpa [World.setCells] using h
theorem mf_empty {u:World} {base:Nat} {e:TypeId} (hb:base<=u.heap.size):(u.alloc (.cells #[] e)).ownsRow base e 1 (.slice (some ⟨u.heap.size,0,none⟩) 0 0) 0 []:=
 ⟨rfl,.inr ⟨u.heap.size,0,#[],rfl,hb,heap_alloc_new _ _,Zr _,by unfold maxLen; omega,rfl,rfl⟩⟩
def cutM (M:List (List Int)):List (List Int):=(M.take 50).map (List.take 9)
theorem cutM_len (M:List (List Int)):(cutM M).length=min 50 M.length:=by unfold cutM; rw [List.length_map,List.length_take]
theorem cutM_next {M:List (List Int)} {k:Nat} (h:k<M.length):(M.take (k+1)).map (List.take 9)=(M.take k).map (List.take 9)++[(rAt M k).take 9]:=by
 rw [List.take_succ_eq_append_getElem h,List.map_append];unfold rAt;rw [Ze,List.getElem?_eq_getElem h];rfl
end Go.Proofs.YtflgngjocgiojaaGreat
