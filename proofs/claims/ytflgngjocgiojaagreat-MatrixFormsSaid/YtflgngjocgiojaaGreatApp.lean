import Derived.Test.YtflgngjocgiojaaGreatRefR
import Derived.Test.YtflgngjocgiojaaGreatCut
set_option linter.all false
namespace Go.Proofs.YtflgngjocgiojaaGreat
open Go.RowKit
def XB (base g:Nat) (L:Option Nat):Nat->Prop:=fun b=>base<=b/\b≠g/\some b≠L
theorem XB.ne {base g:Nat} {L:Option Nat}:∀ b,XB base g L b->b≠g:=fun _ h=>h.2.1
theorem natI_ok {l:List Nat} {k:Nat} (h:∀ t∈l,t<k) (hk:k<=1000):I64L (natI l):=fun i hi=>by
 rw [natI_len] at hi;have e:=natI_at (l:=l) (i:=i) (t:=l[i]) (List.getElem?_eq_getElem hi);have:=h _ (List.getElem_mem hi);rw [e];omega
theorem scl_row (Q:MQ) (a c:Nat):sclQ Q a c a=fun j=>divQ (Q a j) (Q a c):=funext fun j=>if_pos rfl
theorem scl_other (Q:MQ) {a c i:Nat} (h:i≠a):sclQ Q a c i=Q i:=funext fun j=>if_neg h
theorem elm_zero (Q:MQ) (a c:Nat):elmQ Q a c 0=Q:=funext fun i=>funext fun j=>if_neg aO
theorem elm_at (Q:MQ) {a c k i:Nat} (h:¬ (i<k/\i≠a)):elmQ Q a c k i=Q i:=funext fun j=>if_neg h
theorem elm_skip (Q:MQ) (a c:Nat):elmQ Q a c (a+1)=elmQ Q a c a:=funext fun i=>funext fun j=>by
 unfold elmQ
 by_cases h:i<a/\i≠a
 ·rw [if_pos h,if_pos ⟨aO,h.2⟩]
 ·rw [if_neg h,if_neg aO]
theorem elm_new (Q:MQ) {a c k:Nat} (h:k≠a):elmQ Q a c (k+1) k=fun j=>subQ (Q k j) (mulQ (Q a j) (Q k c)):=funext fun j=>if_pos ⟨aO,h⟩
theorem elm_old (Q:MQ) {a c k i:Nat} (h:i≠k):elmQ Q a c (k+1) i=elmQ Q a c k i:=funext fun j=>by
 unfold elmQ
 by_cases h1:i<k/\i≠a
 ·rw [if_pos h1,if_pos ⟨aO,h1.2⟩]
 ·rw [if_neg h1,if_neg aO]
set_option maxRecDepth 100000 in
set_option maxHeartbeats 8000000 in
theorem ref5_reduced {w:World} {base:Nat} {v:Value} {n wd k:Nat} {Q:MQ} (hG:GrowM base w v n wd Q) (hbase:base<=w.heap.size) (hn:n<=48) (hkw:k<=wd) (hwd:wd<=9) (h0:n=0->k=0) (hf:FineR n wd k Q) :
 Calls Tryz.prog 86 #[v,.int .i64 (k:Nat)] w fun e w'=>(∃ A a c,e = .returned (.tuple #[v,.slice A a c])/\a=(runR n Q k).l.length/\a<=c/\c<=9223372036854775807/\IntsAt w' A a (natI (runR n Q k).l)/\(0<n->∃ g c0,v = .slice (some ⟨g,0,none⟩) n c0/\n<=c0/\c0<=9223372036854775807/\MatR (fun b=>base<=b/\b≠g) w' g n wd (runR n Q k).Q))/\Below base w w':=by
 obtain ⟨i0,hi0,hz0,hz1,hz2⟩:=info_parts infoI;rcases Nat.eq_zero_or_pos n with hn0 | hn0
 ·obtain ⟨A,c,rfl⟩:=hG.form;subst hn0;obtain rfl:=h0 rfl;have hW:=Zb base w;clear hG hf h0;go_enter Tryz.func86,Tryz.ntmps86;go_wp2;go_loopw [6,7] (fun u i wr=>i = .int .i64 (0:Nat)/\u = .slice none 0 0/\wr=w) (fun _ _ _=>0)
  case atStart=>exact ⟨rfl,rfl,rfl⟩
  case round =>
   obtain ⟨rfl,rfl,rfl⟩:=hrel;go_wp2;go_ret2;exact ⟨⟨none,0,0,rfl,rfl,Zr _,aO,⟨rfl,fun i h=>absurd h (Nat.not_lt_zero i),fun h=>absurd h (Nat.lt_irrefl 0)⟩,fun h=>absurd h (Nat.lt_irrefl 0)⟩,hW⟩
 ·obtain ⟨g,c0,rfl,hc1,hc2,hgb,hM⟩:=hG.mat hn0;have hglw:=hM.lt;have HM0:Hid (MatR (XB base g none) w g n wd Q):=Zh (hM.move rfl (Zr _) fun b _ hX=>⟨rfl,hX.1,hX.2,aS⟩);have HF:=Zh hf;have hW:=Zb base w;have hni:(n:Int)<=48:=aO
  have hki:(k:Int)<=9:=aO
  clear hG hf h0 hM;go_enter Tryz.func86,Tryz.ntmps86;go_wp2;go_loopw [6,7] (fun u i wr=>∃ (c:Nat) (AL:Option Addr) (cL:Nat),c<=k/\i = .int .i64 c/\u = .slice AL (runR n Q c).l.length cL/\wr.ownsRow w.heap.size 3 1 (.slice AL (runR n Q c).l.length cL) (runR n Q c).l.length (encI (natI (runR n Q c).l))/\Below base w wr/\w.heap.size<=wr.heap.size/\MatR (XB base g (Value.slice AL (runR n Q c).l.length cL).ownBlock) wr g n wd (runR n Q c).Q) (fun _ i _=>k - (intOf i).toNat)
  case atStart=>exact ⟨0,none,0,aO,rfl,rfl,⟨rfl,.inl ⟨rfl,rfl⟩⟩,hW,Zr _,HM0.out⟩
  case round =>
   clear hW HM0;obtain ⟨c,AL,cL,hc,rfl,rfl,hO,hbw,hsz,hM⟩:=hrel
   by_cases hlt:c<k
   ·have hlti:(c:Int)<(k:Int):=aO
    have hT:=HF.out.2 c hlt;have hnx:runR n Q (c+1)=stepR n (runR n Q c) c:=rfl;have hal:=runR_len n Q c;obtain ⟨s,hs⟩:=Zx (runR n Q c);rw [hs] at hT hnx hal hO hM ⊢;obtain ⟨a,ha⟩:=Zx (s.l.length);rw [ha] at hal hO hM ⊢;obtain ⟨LB,hLB⟩:=Zx ((Value.slice AL a cL).ownBlock);rw [hLB] at hM;have hLl:Hid (∀ b,LB=some b->b<wr.heap.size):=Zh (fun b hb=>ownBlock_lt hO (hLB.trans hb));have hLg:Hid (∀ b,LB=some b->w.heap.size<=b):=Zh (fun b hb=>ownBlock_ge hO (hLB.trans hb));have HO:=Zh hO;have HM:=Zh hM;have HT:=Zh hT;have HN:=Zh (Zi hnx (Zi ha hLB));have HBW:=Zh hbw;have han:a<=n:=hal.1;have hai:(a:Int)<=48:=aO
    clear hT hnx hal hO hM ha hLB hbw hs;generalize wr=wo at *;go_wp2;go_loopw [9] (fun p wr=>∃ q:Nat,a<=q/\q<=n/\p = .int .i64 q/\(∀ r,a<=r->r<q->(s.Q r c).1=0)/\Below wo.heap.size wo wr) (fun p _=>n - (intOf p).toNat)
    case atStart=>exact ⟨a,Zr _,han,rfl,fun r h1 h2=>aO,Zb _ _⟩
    case round =>
     obtain ⟨q,hq1,hq2,rfl,hz,hbq⟩:=hrel;have HZ:=Zh hz;have HBQ:=Zh hbq;have HMq:=Zh (HM.out.below hbq);clear hz hbq
     by_cases hqn:q<n
     ·have hqi:(q:Int)<(n:Int):=aO
      have hqe:((q:Int)==(n:Int))=false:=beq_eq_false_iff_ne.2 aO;obtain ⟨Bq,cq,rq,zq1,zq2,xq⟩:=HMq.out.row hqn;obtain ⟨bq,offq,rfl,hbql,hXq,hcell⟩:=xq aO;obtain ⟨t1,E1,m1,d1,t2,E2,m2,d2,x1,x2,x3,x4,hr⟩:=hcell c aO;have hcw:(c:Int)<(wd:Int):=aO
      have qs:=ref3_Sign (w:=wr) hr.at_ (HT.out.old q hqn c aO).1;obtain ⟨z,hzz⟩:=Zx ((s.Q q c).1);rw [hzz] at qs;have HZZ:=Zh hzz;clear xq hcell hr hzz hXq
      by_cases hz0:z=0
      ·rw [show ordI z 0=0 by rw [hz0]; rfl] at qs;have QS:=Zh qs;clear qs;go_wp2_with fail;refine Zd QS.out ?_;rintro e w2 ⟨rfl,hb2⟩;have HB2:=Zh (HBQ.out.trans (hb2.mono HBQ.out.size));clear hb2;go_wp2;go_roundw
       case rel=>exact ⟨q+1,aO,aO,by go_num,fun r h1 h2=>by
        by_cases e:r=q
        ·subst e; rw [HZZ.out]; exact hz0
        ·exact HZ.out r h1 aO,HB2.out⟩
       case measure=>simp [intOf]; omega
      ·have HFP:=Zh (findQ_some (Q:=s.Q) (c:=c) (a:=a) (n:=n) (p:=q) HZ.out hq1 hqn (by rw [HZZ.out]; exact hz0));obtain ⟨o,ho⟩:=Zx (ordI z 0);have hoe:(o==0)=false:=beq_eq_false_iff_ne.2 (by
        rw [<- ho];unfold ordI;split
        ·omega
        ·rw [if_pos aO]; omega)
       rw [ho] at qs;have QS:=Zh qs;have HZ0:=Zh hz0;have hanl:a<n:=aO
       have hani:(a:Int)<(n:Int):=aO
       clear qs ho hz0 HZ;go_wp2_with fail;refine Zd QS.out ?_;rintro e w2 ⟨rfl,hb2⟩;have HB2:=Zh (HBQ.out.trans (hb2.mono HBQ.out.size));have HM2:=Zh (HMq.out.below hb2);clear hb2 x1 x2 x3 x4 rq HMq QS HBQ;obtain ⟨Bp,cp,rp,zp1,zp2,xp⟩:=HM2.out.row hqn;obtain ⟨Ba,ca,ra,za1,za2,-⟩:=HM2.out.row hanl;have hfz:=HM2.out.thaw;have hs1:=HM2.out.setRow (Q':=fun i=>if i=a then s.Q q else s.Q i) hanl (B:=Bp) (c:=cp) (by rw [if_pos rfl]; exact xp) zp1 zp2 XB.ne (fun i _ hne=>if_neg hne);obtain ⟨Bz,cz,rz,-,-,-⟩:=hs1.row hqn;have hfz1:=hs1.thaw;have HSW:=Zh (HM2.out.swap hanl hqn XB.ne ra rp);clear hs1 xp;go_wp2;go_region;have hz2:=HB2.out.size;have HB5:Hid (Below base w (((w2.setCell ⟨g,a,none⟩ (.slice Bp wd cp)).setCell ⟨g,q,none⟩ (.slice Ba wd ca)).drew)):=Zh ((((HBW.out.trans (HB2.out.mono aO)).setCell (p:=⟨g,a,none⟩) hgb _).setCell (p:=⟨g,q,none⟩) hgb _).drew);have HO5:Hid ((((w2.setCell ⟨g,a,none⟩ (.slice Bp wd cp)).setCell ⟨g,q,none⟩ (.slice Ba wd ca)).drew).ownsRow w.heap.size 3 1 (.slice AL a cL) a (encI (natI s.l))):=Zh (ownsRow_stay (ownsRow_far (ownsRow_far (ownsRow_stay HO.out HB2.out) (p:=⟨g,a,none⟩) hglw _) (p:=⟨g,q,none⟩) hglw _) ((Zb _ _).drew));have HM5:=Zh (HSW.out.below ((Zb _ _).drew));have hz5:w2.heap.size=(((w2.setCell ⟨g,a,none⟩ (.slice Bp wd cp)).setCell ⟨g,q,none⟩ (.slice Ba wd ca)).drew).heap.size:=by simp [World.setCell,World.drew]
       have hp:findQ s.Q c (n - s.l.length) s.l.length=some q:=by rw [HN.out.2.1]; exact HFP.out
       have e1:=HT.out.scl q hp;have e2:=HT.out.mul q hp;have e3:=HT.out.new;have e4:=HN.out.1;rw [stepR_some hp] at e3 e4;rw [HN.out.2.1] at e1 e2 e3 e4;have e5:∀ j,swpQ s.Q a q a j=s.Q q j:=fun j=>by rw [swpQ_eq]; show s.Q (swpN a q a) j=_; rw [show swpN a q a=q from if_pos rfl]
       have e6:∀ j,j<wd->SmQ (swpQ s.Q a q a j):=fun j hj=>by rw [e5]; exact HT.out.old q hqn j hj
       have e7:(swpQ s.Q a q a c).1≠0:=by rw [e5,HZZ.out]; exact HZ0.out
       obtain ⟨Q1,hQ1⟩:=Zx (swpQ s.Q a q);rw [hQ1] at HM5 e1 e2 e3 e4 e6 e7;have HE:=Zh (Zi e1 (Zi e2 (Zi (show GoodM n wd (elmQ (sclQ Q1 a c) a c n) from e3) (Zi e4 (Zi e6 e7)))));have HN2:=Zh HN.out.2;clear e1 e2 e3 e4 e5 e6 e7 hp hQ1 HSW HM2 HM HBW HO HT HN HFP HZZ HZ0 hfz hfz1 rz rp ra HB2;generalize ((w2.setCell ⟨g,a,none⟩ (.slice Bp wd cp)).setCell ⟨g,q,none⟩ (.slice Ba wd ca)).drew=u5 at *;have hLl5:Hid (∀ b,LB=some b->b<u5.heap.size):=Zh (fun b hb=>by have:=hLl.out b hb; omega);have hsz5:w.heap.size<=u5.heap.size:=aO
       clear hz5 hLl hz2;obtain ⟨Bo,co,ro,zo1,zo2,xo⟩:=HM5.out.row hanl;have HXO:=Zh xo;obtain ⟨bo,offo,rfl,hbol,hXo,hcell⟩:=xo aO;obtain ⟨s1,F1,k1,l1,s2,F2,k2,l2,y1,y2,y3,y4,hr⟩:=hcell c aO;have HRO:=Zh hr.at_;have hgl5:=HM5.out.lt;clear xo hcell hr;go_wp2;refine region_cut 15 (fun l a0 a1 w'=>∃ (bn cn:Nat),(∃ x0 x1 x2 x3 x4 x5 x6 x7 x8 x9 x10 x11 x12,a1=putAll (l.take 15) [x0,x1,x2,x3,x4,x5,x6,x7,x8,x9,x10,x11,x12,.slice (some ⟨bn,0,none⟩) wd cn,.pointer (some ⟨g,a,none⟩)] a0)/\wd<=cn/\cn<=9223372036854775807/\RatsX (fun b=>u5.heap.size<=b) w' (some ⟨bn,0,none⟩) wd (fun j=>divQ (Q1 a j) (Q1 a c))/\Below u5.heap.size u5 w') aK aK (fun listed hl1 hl2 hl3=>?_) (fun listed hl1 hl2 hl3 a1 wx hK=>?_)
       ·refine any_gen (w:=u5) (T:=[]) 0 [.make 13 [] (rowRB [] u5.heap.size wd (fun j=>divQ (Q1 a j) (Q1 a c)))] 15 0 40 (fun _ _=>True) (fun _ _ _ _ _=>trivial) trivial aO aK (by rfl) (by rfl) ?_ ((Zb _ _).drew) hl1 hl2 hl3;unfold genWalk;apply Zs;apply Zi
        ·apply Piece.mk
         ·intro f v hv hr hne;simp only [List.take_succ_cons,List.take_zero,List.drop_succ_cons,List.drop_zero,Nat.reduceSub,Nat.reduceAdd];have d0:=later_cell (T:=[]) (w:=u5) (v:=v) hgl5 aS ro;have d1:=later_cell (T:=[]) (w:=u5) (v:=v) hbol aS y1;have d2:=later_cell (T:=[]) (w:=u5) (v:=v) hbol aS y2;have d3:=later_cell (T:=[]) (w:=u5) (v:=v) hbol aS y3;have d4:=later_cell (T:=[]) (w:=u5) (v:=v) hbol aS y4
          repeat (go_big_quiet_step (fail))
          refine wpQuiet_nil ?_;exact rfl
         ·intro f; kernel_rfl
         ·intro f f' hf; kernel_rfl
        simp only [List.take_succ_cons,List.take_zero,List.drop_succ_cons,List.drop_zero,Nat.reduceSub,Nat.reduceAdd,oneOp];refine ⟨fun f=>⟨rfl,fun u hu _=>?_⟩,?_⟩
        ·refine make_call (f:=122) (args:=#[.slice (some ⟨bo,offo,none⟩) wd co,.agg #[.bool s1,.slice F1 k1 l1,.bool s2,.slice F2 k2 l2]]) (by (try simp only [LN]); (try simp only [newB_val,numB_val,ownB_val,rowRB_val]); go_simp) ?_;have q:=ref5_scaled (w:=u) co (HXO.out.keeps hu).toA aO (HRO.out.keeps hu) HE.out.2.2.2.2.2 (HE.out.2.2.2.2.1 c aO) (fun j hj=>HE.out.2.2.2.2.1 j hj) (fun j hj=>by have:=HE.out.1 a hanl j hj; rw [scl_row] at this; exact this);refine q.mono ?_;rintro e wx ⟨⟨v,rfl,A,cc,rfl,q1,q2,q3,q4⟩,hbx⟩;obtain ⟨bn,rfl⟩:=q4 aO;obtain ⟨bn',off',e9,hlt9,hX9,-⟩:=q3 aO;cases e9;exact ⟨(bn,cc),rfl,hX9,hlt9,hbx,q1,q2,q3.imp fun b hb hX=>⟨Zm hu.1 hX,aS⟩⟩
        unfold genWalk;apply Zs;apply Zi
        ·apply Piece.mk
         ·intro f v hv hr hne;simp only [List.take_succ_cons,List.take_zero,List.drop_succ_cons,List.drop_zero,Nat.reduceSub,Nat.reduceAdd]
          (try simp only [LN])
          (try simp only [newB_val,numB_val,ownB_val,rowRB_val])
          repeat (go_big_quiet_step (fail))
          refine wpQuiet_nil ?_;exact rfl
         ·intro f; kernel_rfl
         ·intro f f' hf; simp
        intro f9 u' hup hph hmade hdist;obtain ⟨⟨z1,z2,z3⟩,loN,hiN⟩:=hmade 13 aO rfl;clear hmade hdist hph;simp only [List.take_succ_cons,List.take_zero,List.drop_succ_cons,List.drop_zero,Nat.reduceSub,Nat.reduceAdd]
        (try simp only [LN])
        (try simp only [newB_val,numB_val,ownB_val,rowRB_val])
        refine effc_nil ?_;refine ⟨(f9 13).1,(f9 13).2,?_,z1,z2,RatsX.imp z3 fun b _ hX=>hX.1,Upd.below (Zb _ _) hup aS⟩;simp only [putAll,List.take_succ_cons,List.take_zero,Act.put,List.setIfInBounds_toArray,List.set_cons_zero,List.set_cons_succ]
        repeat apply Zs
        rfl
       ·obtain ⟨bn,cn,⟨x0,x1,x2,x3,x4,x5,x6,x7,x8,x9,x10,x11,x12,rfl⟩,z1,z2,z3,hbd⟩:=hK;simp only [putAll,List.take_succ_cons,List.take_zero,Act.put,List.setIfInBounds_toArray,List.set_cons_zero,List.set_cons_succ];have hm6:=HM5.out.below hbd;have hfz6:=hm6.thaw;have hgl6:=hm6.lt;obtain ⟨Bz,cz,rz,-,-,-⟩:=hm6.row hanl;have HMx:=Zh hm6;have Z3:=Zh z3;have HBD:=Zh hbd;clear hm6 z3 hbd;refine any_gen (w:=wx) (T:=[g]) 15 [] 15 0 40 (fun _ u=>SameAt wx g u) (fun _ u u' h k=>⟨(k.block g h.2).trans h.1,Zl h.2 k.size⟩) ⟨rfl,hgl6⟩ aO aK (by rfl) (by rfl) ?_ (Zb _ _) hl1 hl2 hl3;unfold genWalk;apply Zs;apply Zi
        ·apply Piece.mk
         ·intro f v hv hr hne;simp only [List.take_succ_cons,List.take_zero,List.drop_succ_cons,List.drop_zero,Nat.reduceSub,Nat.reduceAdd]
          repeat (go_big_quiet_step (fail))
          refine wpQuiet_nil ?_;exact rfl
         ·intro f; kernel_rfl
         ·intro f f' hf; kernel_rfl
        intro f9 u' hup hph hmade hdist;clear hmade hdist hl1 hl2 hl3;have hB1:Below wx.heap.size wx u':=⟨hup.os,hup.tape,hup.output,hup.size,fun b hb=>by
         by_cases e:b=g
         ·subst e; exact hph.1
         ·exact hup.block b hb (by simpa using e)⟩
        have hm7:=HMx.out.below hB1;have z7:=Z3.out.below hB1;have hfz7:=hm7.thaw;obtain ⟨By,cy,ry,-,-,-⟩:=hm7.row hanl;have hk7:=Keeps.of_below (T:=[g]) hB1;have hm8:=hm7.setRow (Q':=sclQ Q1 a c) hanl (B:=some ⟨bn,0,none⟩) (c:=cn) (by rw [scl_row]; exact z7.imp fun b hb hX=>⟨by have:=hgb; omega,aO,fun e=>by have:=hLl5.out _ e.symm; omega⟩) z1 z2 XB.ne (fun i _ hne=>scl_other Q1 hne);have HM7:=Zh hm8;have HBU:=Zh (HBD.out.trans (hB1.mono HBD.out.size));clear hm7 z7 hm8 hph hup hB1;simp only [List.take_succ_cons,List.take_zero,List.drop_succ_cons,List.drop_zero,Nat.reduceSub,Nat.reduceAdd]
        (try simp only [LN])
        refine effc_mem (by rfl) (fun K hK=>?_);go_simp;refine hK _ _ (hk7.set (p:=⟨g,a,none⟩) aS _) (fun u6 huc=>?_);clear hK K;have HM6:=Zh (HM7.out.below huc);have hux:=huc.size;simp [World.setCell] at hux;have hbu:=HBU.out.size;have HB6:Hid (Below base w u6):=Zh (Below.trans (Below.setCell (HB5.out.trans (HBU.out.mono aO)) (p:=⟨g,a,none⟩) hgb _) (huc.mono (by simp [World.setCell]; omega)));have HO6:=Zh (ownsRow_stay (ownsRow_far (ownsRow_stay HO5.out HBU.out) (p:=⟨g,a,none⟩) hglw (.slice (some ⟨bn,0,none⟩) wd cn)) huc);have hz6:u5.heap.size<=u6.heap.size:=aO
        clear huc hux hbu HBU HM7 hk7 hfz7 ry Z3 HBD HMx hfz6 rz hgl6;refine effc_nil ?_
        (try simp only [LN])
        clear HM5 HB5 HO5 HXO HRO ro y1 y2 y3 y4 hXo hbol hgl5;obtain ⟨Q2,hQ2⟩:=Zx (sclQ Q1 a c);have he:=HE.out;rw [hQ2] at HM6 he;have HE2:=Zh (Zi he.1 (Zi he.2.1 (Zi he.2.2.1 he.2.2.2.1)));have HM0':Hid (MatR (XB base g LB) u6 g n wd (elmQ Q2 a c 0)):=Zh (by rw [elm_zero]; exact HM6.out);clear he hQ2 HE HM6;have hsz6:w.heap.size<=u6.heap.size:=aO
        have hLl6:Hid (∀ b,LB=some b->b<u6.heap.size):=Zh (fun b hb=>by have:=hLl5.out b hb; omega);clear hLl5;go_wp2;go_loopw [10] (fun r wr=>∃ j:Nat,j<=n/\r = .int .i64 j/\Below base w wr/\u6.heap.size<=wr.heap.size/\wr.ownsRow w.heap.size 3 1 (.slice AL a cL) a (encI (natI s.l))/\MatR (XB base g LB) wr g n wd (elmQ Q2 a c j)) (fun r _=>n - (intOf r).toNat)
        case atStart=>exact ⟨0,aO,rfl,HB6.out,Zr _,HO6.out,HM0'.out⟩
        case round =>
         clear HB6 HO6 HM0' hz6;obtain ⟨j,hj,rfl,hb7,hz7,ho7,hm7⟩:=hrel;have HB7:=Zh hb7;have HO7:=Zh ho7;have HM7:=Zh hm7;have hLl7:Hid (∀ b,LB=some b->b<wr.heap.size):=Zh (fun b hb=>by have:=hLl6.out b hb; omega);have hsz7:w.heap.size<=wr.heap.size:=aO
         clear hb7 ho7 hm7
         by_cases hjn:j<n
         ·have hji:(j:Int)<(n:Int):=aO
          by_cases hja:a=j
          ·obtain rfl:=hja;go_wp2;go_roundw
           case rel=>exact ⟨a+1,aO,by go_num,HB7.out,hz7,HO7.out,by rw [elm_skip]; exact HM7.out⟩
           case measure=>simp [intOf]; omega
          ·have hjne:j≠a:=fun e=>hja e.symm
           have hje:((j:Int) != (a:Int))=true:=bne_iff_ne.2 aO;obtain ⟨Bo,co,ro,zo1,zo2,xo⟩:=HM7.out.row hanl;rw [elm_at Q2 (show ¬ (a<j/\a≠a) by omega)] at xo;have HXO:=Zh xo;obtain ⟨Bj,cj,rj,zj1,zj2,xj⟩:=HM7.out.row hjn;rw [elm_at Q2 (show ¬ (j<j/\j≠a) by omega)] at xj;have HXJ:=Zh xj;obtain ⟨bj,offj,rfl,hbjl,hXj,hcell⟩:=xj aO;obtain ⟨s1,F1,k1,l1,s2,F2,k2,l2,y1,y2,y3,y4,hr⟩:=hcell c aO;have HRJ:=Zh hr.at_;have hgl7:=HM7.out.lt;clear xo xj hcell hr hja;go_wp2;refine region_cut 19 (fun l a0 a1 w'=>∃ (bn cn:Nat),(∃ x0 x1 x2 x3 x4 x5 x6 x7 x8 x9 x10 x11 x12 x13 x14 x15 x16,a1=putAll (l.take 19) [x0,x1,x2,x3,x4,x5,x6,x7,x8,x9,x10,x11,x12,x13,x14,x15,x16,.slice (some ⟨bn,0,none⟩) wd cn,.pointer (some ⟨g,j,none⟩)] a0)/\wd<=cn/\cn<=9223372036854775807/\RatsX (fun b=>wr.heap.size<=b) w' (some ⟨bn,0,none⟩) wd (fun i=>subQ (Q2 j i) (mulQ (Q2 a i) (Q2 j c)))/\Below wr.heap.size wr w') aK aK (fun listed hl1 hl2 hl3=>?_) (fun listed hl1 hl2 hl3 a1 wx hK=>?_)
           ·refine any_gen (w:=wr) (T:=[]) 0 [.make 17 [] (rowRB [] wr.heap.size wd (fun i=>subQ (Q2 j i) (mulQ (Q2 a i) (Q2 j c))))] 19 0 40 (fun _ _=>True) (fun _ _ _ _ _=>trivial) trivial aO aK (by rfl) (by rfl) ?_ ((Zb _ _).drew) hl1 hl2 hl3;unfold genWalk;apply Zs;apply Zi
            ·apply Piece.mk
             ·intro f v hv hr hne;simp only [List.take_succ_cons,List.take_zero,List.drop_succ_cons,List.drop_zero,Nat.reduceSub,Nat.reduceAdd];have d0:=later_cell (T:=[]) (w:=wr) (v:=v) hgl7 aS ro;have d5:=later_cell (T:=[]) (w:=wr) (v:=v) hgl7 aS rj;have d1:=later_cell (T:=[]) (w:=wr) (v:=v) hbjl aS y1;have d2:=later_cell (T:=[]) (w:=wr) (v:=v) hbjl aS y2;have d3:=later_cell (T:=[]) (w:=wr) (v:=v) hbjl aS y3;have d4:=later_cell (T:=[]) (w:=wr) (v:=v) hbjl aS y4
              repeat (go_big_quiet_step (fail))
              refine wpQuiet_nil ?_;exact rfl
             ·intro f; kernel_rfl
             ·intro f f' hf; kernel_rfl
            simp only [List.take_succ_cons,List.take_zero,List.drop_succ_cons,List.drop_zero,Nat.reduceSub,Nat.reduceAdd,oneOp];refine ⟨fun f=>⟨rfl,fun u hu _=>?_⟩,?_⟩
            ·refine make_call (f:=123) (args:=#[.slice (some ⟨bj,offj,none⟩) wd cj,.slice Bo wd co,.agg #[.bool s1,.slice F1 k1 l1,.bool s2,.slice F2 k2 l2]]) (by (try simp only [LN]); (try simp only [newB_val,numB_val,ownB_val,rowRB_val]); go_simp) ?_;have q:=ref5_less (w:=u) (q:=Q2 j c) cj co (HXJ.out.keeps hu).toA (HXO.out.keeps hu).toA aO (HRJ.out.keeps hu) (HE2.out.1 j hjn c aO) (fun i hi=>HE2.out.1 j hjn i hi) (fun i hi=>HE2.out.1 a hanl i hi) (fun i hi=>HE2.out.2.1 j hjn hjne i hi) (fun i hi=>by have:=HE2.out.2.2.1 j hjn i hi; unfold elmQ at this; rw [if_pos ⟨hjn,hjne⟩] at this; exact this);refine q.mono ?_;rintro e wx ⟨⟨v,rfl,A,cc,rfl,q1,q2,q3,q4⟩,hbx⟩;obtain ⟨bn,rfl⟩:=q4 aO;obtain ⟨bn',off',e9,hlt9,hX9,-⟩:=q3 aO;cases e9;exact ⟨(bn,cc),rfl,hX9,hlt9,hbx,q1,q2,q3.imp fun b hb hX=>⟨Zm hu.1 hX,aS⟩⟩
            unfold genWalk;apply Zs;apply Zi
            ·apply Piece.mk
             ·intro f v hv hr hne;simp only [List.take_succ_cons,List.take_zero,List.drop_succ_cons,List.drop_zero,Nat.reduceSub,Nat.reduceAdd]
              (try simp only [LN])
              (try simp only [newB_val,numB_val,ownB_val,rowRB_val])
              repeat (go_big_quiet_step (fail))
              refine wpQuiet_nil ?_;exact rfl
             ·intro f; kernel_rfl
             ·intro f f' hf; simp
            intro f9 u' hup hph hmade hdist;obtain ⟨⟨z1,z2,z3⟩,loN,hiN⟩:=hmade 17 aO rfl;clear hmade hdist hph;simp only [List.take_succ_cons,List.take_zero,List.drop_succ_cons,List.drop_zero,Nat.reduceSub,Nat.reduceAdd]
            (try simp only [LN])
            (try simp only [newB_val,numB_val,ownB_val,rowRB_val])
            refine effc_nil ?_;refine ⟨(f9 17).1,(f9 17).2,?_,z1,z2,RatsX.imp z3 fun b _ hX=>hX.1,Upd.below (Zb _ _) hup aS⟩;simp only [putAll,List.take_succ_cons,List.take_zero,Act.put,List.setIfInBounds_toArray,List.set_cons_zero,List.set_cons_succ]
            repeat apply Zs
            rfl
           ·obtain ⟨bn,cn,⟨x0,x1,x2,x3,x4,x5,x6,x7,x8,x9,x10,x11,x12,x13,x14,x15,x16,rfl⟩,z1,z2,z3,hbd⟩:=hK;simp only [putAll,List.take_succ_cons,List.take_zero,Act.put,List.setIfInBounds_toArray,List.set_cons_zero,List.set_cons_succ];have hm6:=HM7.out.below hbd;have hfz6:=hm6.thaw;have hgl6:=hm6.lt;obtain ⟨Bz,cz,rz,-,-,-⟩:=hm6.row hjn;have HMx:=Zh hm6;have Z3:=Zh z3;have HBD:=Zh hbd;clear hm6 z3 hbd;refine any_gen (w:=wx) (T:=[g]) 19 [] 19 0 40 (fun _ u=>SameAt wx g u) (fun _ u u' h k=>⟨(k.block g h.2).trans h.1,Zl h.2 k.size⟩) ⟨rfl,hgl6⟩ aO aK (by rfl) (by rfl) ?_ (Zb _ _) hl1 hl2 hl3;unfold genWalk;apply Zs;apply Zi
            ·apply Piece.mk
             ·intro f v hv hr hne;simp only [List.take_succ_cons,List.take_zero,List.drop_succ_cons,List.drop_zero,Nat.reduceSub,Nat.reduceAdd]
              repeat (go_big_quiet_step (fail))
              refine wpQuiet_nil ?_;exact rfl
             ·intro f; kernel_rfl
             ·intro f f' hf; kernel_rfl
            intro f9 u' hup hph hmade hdist;clear hmade hdist hl1 hl2 hl3;have hB1:Below wx.heap.size wx u':=⟨hup.os,hup.tape,hup.output,hup.size,fun b hb=>by
             by_cases e:b=g
             ·subst e; exact hph.1
             ·exact hup.block b hb (by simpa using e)⟩
            have hm7:=HMx.out.below hB1;have z7:=Z3.out.below hB1;have hfz7:=hm7.thaw;obtain ⟨By,cy,ry,-,-,-⟩:=hm7.row hjn;have hk7:=Keeps.of_below (T:=[g]) hB1;have hm8:=hm7.setRow (Q':=elmQ Q2 a c (j+1)) hjn (B:=some ⟨bn,0,none⟩) (c:=cn) (by rw [elm_new Q2 hjne]; exact z7.imp fun b hb hX=>⟨by have:=hgb; omega,aO,fun e=>by have:=hLl7.out _ e.symm; omega⟩) z1 z2 XB.ne (fun i _ hne=>elm_old Q2 hne);have HM7:=Zh hm8;have HBU:=Zh (HBD.out.trans (hB1.mono HBD.out.size));clear hm7 z7 hm8 hph hup hB1;simp only [List.take_succ_cons,List.take_zero,List.drop_succ_cons,List.drop_zero,Nat.reduceSub,Nat.reduceAdd]
            (try simp only [LN])
            refine effc_mem (by rfl) (fun K hK=>?_);go_simp;refine hK _ _ (hk7.set (p:=⟨g,j,none⟩) aS _) (fun u8 huc=>?_);clear hK K;have HM8:=Zh (HM7.out.below huc);have hux:=huc.size;simp [World.setCell] at hux;have hbu:=HBU.out.size;have HB8:Hid (Below base w u8):=Zh (Below.trans (Below.setCell (HB7.out.trans (HBU.out.mono aO)) (p:=⟨g,j,none⟩) hgb _) (huc.mono (by simp [World.setCell]; omega)));have HO8:=Zh (ownsRow_stay (ownsRow_far (ownsRow_stay HO7.out HBU.out) (p:=⟨g,j,none⟩) hglw (.slice (some ⟨bn,0,none⟩) wd cn)) huc);have hz8:wr.heap.size<=u8.heap.size:=aO
            clear huc hux hbu HBU HM7 hk7 hfz7 ry Z3 HBD HMx hfz6 rz hgl6;refine effc_nil ?_
            (try simp only [LN])
            go_wp2;go_roundw
            case rel=>exact ⟨j+1,aO,by go_num,HB8.out,aO,HO8.out,HM8.out⟩
            case measure=>simp [intOf]; omega
         ·obtain rfl:j=n:=aO
          have hji:¬ (j:Int)<(j:Int):=aO
          go_wp2_with (at_builtin; refine wpList_append_lies _ rfl _ _ _ (by rfl) w.heap.size 3 i0 (.int .i64 0) 1 8 Tryz.underlying22 hi0 hz0 hz1 hz2 rfl aO _ a (encI (natI s.l)) (by rfl) (HO7.out.alloc _) ⟨wr.heap.size,0,none⟩ 1 1 [.int .i64 (c:Nat)] (by rfl) rfl ?n1 ?n2 aO ?n3 ?n4 ?n5 (wr.heap.size+1) aS ?_)
          try case n1=>exact World.news_of_block (heap_alloc_new wr _)
          case n2=>first | rfl | (intro u hu; simp at hu; subst hu; rfl)
          case n3=>unfold maxLen; omega
          case n4=>omega
          case n5=>first | omega | (simp; omega)
          intro g9 cg9 w9 ho9 hg9 hat9 hlt9;have hLB:=HN2.out.2;rw [encI_snoc,<- natI_snoc] at ho9;rw [hLB] at hg9 hat9;have hbn:Below wr.heap.size wr (wr.alloc (.cells #[.int .i64 (c:Nat)] 3)):=(Zb _ _).alloc (Zr _) _;have hgw:=HM7.out.lt;have hglb:some g≠LB:=fun e=>by have:=hLg.out g e.symm; omega
          have HM9:Hid (MatR (XB base g (some g9)) w9 g j wd (elmQ Q2 a c j)):=Zh ((HM7.out.below hbn).move (hg9.block g aT hglb) hg9.size fun b hb hX=>⟨hg9.block b hb hX.2.2,hX.1,hX.2.1,fun e=>by
           have e2:b=g9:=Option.some.inj e;subst e2;rcases hat9 with h | h
           ·exact hX.2.2 h.symm
           ·simp at hb; omega⟩)
          have HB9:Hid (Below base w w9):=Zh (Below.grown (Below.alloc HB7.out aO (.cells #[.int .i64 (c:Nat)] 3)) hg9 aT (fun b hb=>by have:=hLg.out b hb; omega));have HO9:=Zh ho9;have hz9:=hg9.size;simp at hz9;have hlen:(runR j Q (c+1)).l.length=a+1:=by rw [HE2.out.2.2.2]; simp [HN2.out.1]
          have HL:=Zh hlen;clear ho9 hg9 hat9 hlt9 hbn hgw hglb hLB hlen;go_wp2;go_roundw
          case rel =>
           refine ⟨c+1,some ⟨g9,0,none⟩,cg9,aO,by go_num,by rw [HL.out],?_,HB9.out,aO,?_⟩
           ·rw [HL.out,HE2.out.2.2.2]; exact HO9.out
           ·rw [HE2.out.2.2.2]; exact HM9.out
          case measure=>simp [intOf]; omega
     ·obtain rfl:q=n:=aO
      have hqi:¬ (q:Int)<(q:Int):=aO
      have hz2:=HBQ.out.size;have e:runR q Q (c+1)=s:=by rw [HN.out.1]; exact stepR_none (by rw [HN.out.2.1]; exact findQ_none HZ.out)
      have HE:=Zh e;have hO2:=ownsRow_stay HO.out HBQ.out;clear e;go_wp2;go_roundw
      case rel =>
       refine ⟨c+1,AL,cL,aO,by go_num,by rw [HE.out,HN.out.2.1],?_,HBW.out.trans (HBQ.out.mono aO),aO,?_⟩
       ·rw [HE.out,HN.out.2.1]; exact hO2
       ·rw [HE.out,HN.out.2.1,HN.out.2.2]; exact HMq.out
      case measure=>simp [intOf]; omega
   ·obtain rfl:c=k:=aO
    have hlti:¬ (c:Int)<(c:Int):=aO
    obtain ⟨A9,c9,e9,r1,r2,r3,-⟩:=ints_of_row hO (natI_len _) (natI_ok (runR_lt n Q c) aO);cases e9;have HR:=Zh (Zi r1 (Zi r2 r3));have HM:=Zh hM;have HBW:=Zh hbw;clear r1 r2 r3 hM hbw hO;go_wp2;go_ret2;have HMF:MatR (fun b=>base<=b/\b≠g) wr g n wd (runR n Q c).Q:=HM.out.move rfl (Zr _) fun b _ hX=>⟨rfl,hX.1,hX.2.1⟩
    exact ⟨⟨_,_,_,rfl,rfl,HR.out.1,HR.out.2.1,HR.out.2.2,by first | exact fun _=>⟨g,c0,rfl,hc1,hc2,HMF⟩ | exact ⟨g,c0,⟨rfl,rfl⟩,hc1,hc2,HMF⟩⟩,HBW.out⟩
def EchR (base n wd:Nat) (S:RS) (e:Ending) (w':World):Prop:=∃ v A a c,e = .returned (.tuple #[v,.slice A a c])/\a=S.l.length/\a<=c/\c<=9223372036854775807/\IntsAt w' A a (natI S.l)/\(∃ A0 c0,v = .slice A0 n c0)/\(0<n->∃ g c0,v = .slice (some ⟨g,0,none⟩) n c0/\n<=c0/\c0<=9223372036854775807/\MatR (fun b=>base<=b/\b≠g) w' g n wd S.Q)
set_option maxRecDepth 100000 in
set_option maxHeartbeats 8000000 in
theorem ref5_echelon {w:World} {A:Option Addr} {n:Nat} {M:List (List Int)} (c:Nat) (h:RowsAt w A n M) (hok:matCheck M=0) :
 Calls Tryz.prog 79 #[.slice A n c] w fun e w'=>EchR w.heap.size n (cols M) (runR n (intQ M) (cols M)) e w'/\Below w.heap.size w w':=by
 obtain ⟨i0,hi0,hy0,hy1,hy2⟩:=info_parts infoRs;obtain ⟨E,hc,hr⟩:=h.pick;have hl:=h.len;obtain ⟨q1,q2,q3,_⟩:=matCheck_ok hok;have HFR:=ref_fine hok;rw [hl] at q1 q3 HFR;have hm0:n=0->cols M=0:=fun e=>by
  subst e;rw [List.eq_nil_of_length_eq_zero hl]; rfl
 obtain ⟨m,hm⟩:=Zx (cols M);rw [hm] at q2 q3 HFR hm0 ⊢;have HM:=Zh hm;have H:=Zh h;have HR:=Zh hr;have HC:=Zh hc;have HW:=Zh q3;have HF:=Zh HFR;have H0:=Zh hm0;have hni:(n:Int)<=48:=aO
 clear h hc hr q3 HFR hm hok hl hm0;go_enter Tryz.func79,Tryz.ntmps79;go_wp2;go_loopw [4,5] (fun u i wr=>∃ k:Nat,k<=n/\i = .int .i64 k/\Below w.heap.size w wr/\GrowM w.heap.size wr u k m (intQ M)) (fun _ i _=>n - (intOf i).toNat)
 case atStart=>exact ⟨0,aO,rfl,Zb _ _,GrowM.start _ _ _ _⟩
 case round =>
  obtain ⟨k,hk,rfl,hbw,hG⟩:=hrel;have HG:=Zh hG;have HW1:=Zh hbw;clear hG hbw
  by_cases hlt:k<n
  ·have hlti:(k:Int)<(n:Int):=aO
   obtain ⟨b,off,rfl,hbb,hcell⟩:=HC.out aO;have q0:=hcell k hlt;have q:=(Zc (w:=w) (a:=⟨b,off+k,none⟩) (HW1.out.block b hbb)).trans q0;obtain ⟨z1,z2,hI⟩:=HR.out k hlt;have hlen:=HW.out k hlt;obtain ⟨e1,he⟩:=Zx (E k);rw [he] at q z1 z2 hI;obtain ⟨B,mm,cc⟩:=e1;simp only at q z1 z2 hI;have hmm:mm=m:=by rw [<- hlen,hI.len]
   subst hmm;have qr:=ref5_ratios (w:=wr) cc (hI.below HW1.out) aO;have QR:=Zh qr;have hw0:=HW1.out.size;clear q0 hcell z1 z2 hI hlen he qr;go_wp2_with fail;refine Zd QR.out ?_;rintro e ua ⟨⟨v1,rfl,hq⟩,hb2⟩;obtain ⟨A1,c1,rfl,z1,z2,hx,-⟩:=hq.row;have HX:Hid (RatsX (fun b=>wr.heap.size<=b) ua A1 mm (intQ M k)):=Zh hx;have HZ:=Zh (Zi z1 z2);have HBa:=Zh hb2;obtain ⟨xs,hxo,hxc⟩:=HG.out.below hb2;have hxl:∀ b,u4.ownBlock=some b->b<wr.heap.size:=HG.out.lt;have HXL:=Zh hxl;have HXC:=Zh hxc;have hsz:=hb2.size;clear hxc hxl q hq hx z1 z2 hb2 QR;go_wp2_with (at_builtin; refine wpList_append_lies _ rfl _ _ _ (by rfl) w.heap.size 38 i0 (.slice none 0 0) 1 24 Tryz.underlying41 hi0 hy0 hy1 hy2 rfl aO _ k xs (by rfl) (hxo.alloc _) ⟨ua.heap.size,0,none⟩ 1 1 [.slice A1 mm c1] (by rfl) rfl ?sa ?sb aO ?sc ?sd ?se (ua.heap.size+1) aS ?_)
   try case sa=>exact World.news_of_block (heap_alloc_new ua _)
   case sb=>first | rfl | (intro u hu; simp at hu; subst hu; rfl)
   case sc=>unfold maxLen; omega
   case sd=>omega
   case se=>first | omega | (simp; omega)
   intro g9 cg9 w9 ho9 hg9 hat9 hlt9;have hba:Below ua.heap.size ua (ua.alloc (.cells #[.slice A1 mm c1] 38)):=(Zb _ _).alloc (Zr _) _;have hGN:GrowM w.heap.size w9 (.slice (some ⟨g9,0,none⟩) (k+1) cg9) (k+1) mm (intQ M):=by
    refine RowsR.next (U:=ua.alloc (.cells #[.slice A1 mm c1] 38)) (HXC.out.move hba.size fun b hb hX=>⟨hba.block b hb,hX⟩) HZ.out.1 HZ.out.2 ?_ ho9 hg9 (by rcases hat9 with h | h; exact .inl h; exact .inr aT);refine (HX.out.below hba).move (Zr _) fun b _ hX=>⟨rfl,Zm hw0 hX,fun e=>by have:=HXL.out _ e.symm; have:wr.heap.size<=b:=hX; omega⟩
   have hB9:Below w.heap.size w w9:=Below.grown (Below.alloc (HW1.out.trans (HBa.out.mono hw0)) aO (.cells #[.slice A1 mm c1] 38)) hg9 aT (fun b hb=>ownBlock_ge hxo hb);have HN:=Zh (Zi hGN hB9);clear hGN hB9 ho9 hg9 hat9 hlt9 hxo hba;go_wp2;go_roundw
   case rel=>exact ⟨k+1,aO,by go_num,HN.out.2,HN.out.1⟩
   case measure=>simp [intOf]; omega
  ·obtain rfl:k=n:=aO
   have hlti:¬ (k:Int)<(k:Int):=aO
   have qc:=ref5_Columns (w:=wr) c (H.out.below HW1.out);rw [HM.out] at qc;have QC:=Zh qc;clear qc;go_wp2_with fail;refine Zd QC.out ?_;rintro e u2 ⟨rfl,hb2⟩;have qd:=ref5_reduced (w:=u2) (base:=w.heap.size) (HG.out.below hb2) (Zm HW1.out.size hb2.size) aO (Zr m) aO H0.out HF.out;have QD:=Zh qd;have HB2:=Zh (HW1.out.trans (hb2.mono HW1.out.size));obtain ⟨A0,c0,rfl⟩:=HG.out.form;clear qd hb2 QC;go_wp2_with fail;refine Zd QD.out ?_;rintro e u3 ⟨⟨AL,a,cL,rfl,r1,r2,r3,r4,r5⟩,hb3⟩;have HR:=Zh (Zi r1 (Zi r2 (Zi r3 (Zi r4 r5))));have HB3:=Zh (HB2.out.trans hb3);clear r1 r2 r3 r4 r5 hb3;go_wp2;go_ret2;exact ⟨⟨_,_,_,_,rfl,HR.out.1,HR.out.2.1,HR.out.2.2.1,HR.out.2.2.2.1,⟨_,_,rfl⟩,HR.out.2.2.2.2⟩,HB3.out⟩
set_option maxRecDepth 100000 in
set_option maxHeartbeats 4000000 in
theorem ref5_Rank {w:World} {A:Option Addr} {n:Nat} {M:List (List Int)} (c:Nat) (h:RowsAt w A n M) :
 Calls Tryz.prog 35 #[.slice A n c] w fun e w'=>e = .returned (.tuple #[.int .i64 (rankZ M:Nat),.int .i64 (matCheck M)])/\Below w.heap.size w w':=by
 have hl:=h.len;have H:=Zh h;have qc:=ref5_Check c h;obtain ⟨o,ho⟩:=Zx (matCheck M);rw [ho] at qc ⊢;obtain ⟨rk,hrk⟩:=Zx (rankZ M);rw [hrk];have QC:=Zh qc;have HRK:=Zh hrk;have HO:=Zh ho;have HL:=Zh hl;clear qc hrk ho h hl;go_enter Tryz.func35,Tryz.ntmps35;go_wp2_with fail;refine Zd QC.out ?_;rintro e w1 ⟨rfl,hb1⟩
 by_cases ho:o=0
 ·subst ho;have qe:=ref5_echelon c (H.out.below hb1) HO.out;have hrk:(runR n (intQ M) (cols M)).l.length=rk:=by
   have:=ref_rank HO.out;rw [HL.out,HRK.out] at this;exact this
  have QE:=Zh qe;have HK:=Zh hrk;have HB:=Zh hb1;clear qe hrk hb1;go_wp2_with fail;refine Zd QE.out ?_;rintro e w2 ⟨⟨v,AL,a,cL,rfl,r1,r2,r3,r4,-,-⟩,hb2⟩;rw [HK.out] at r1;subst r1;have HB2:=Zh (HB.out.trans (hb2.mono HB.out.size));clear r2 r3 r4 hb2;go_wp2;go_ret2;exact ⟨rfl,HB2.out⟩
 ·have hoe:(o != 0)=true:=bne_iff_ne.2 ho;have HZ:Hid (rk=0):=Zh (by rw [<- HRK.out]; unfold rankZ; rw [if_neg (by rw [HO.out]; exact ho)]);have HB:=Zh hb1;clear hb1;go_wp2;go_ret2;exact ⟨by rw [HZ.out]; rfl,HB.out⟩
theorem late_append {P:Program} {w:World} {o:Oper} {a:Act} {K:Value->World->Prop} (s x:Operand) (t:TypeId)
 (ho:o.op = .call { callee:= .builtin .append,args:=#[s,x],argTypes:=#[t,t] })
 (base:Nat) (e:TypeId) (i:TypeInfo) (z:Value) (size bytes:Nat) (ht:P.underlying t=some (.slice e)) (hi:P.info? e=some i) (hz:i.zero=some z)
 (hsize:i.size=size) (hby:i.bytes=bytes) (hzs:z.cells.size=size) (hsz:0<size)
 (v:Value) (n:Nat) (xs:List Value) (hs:a.eval s=v) (hown:w.ownsRow base e size v n xs)
 (ad:Addr) (m c:Nat) (news:List Value) (hx:a.eval x = .slice (some ad) m c) (hl:news.length=m*size) (hnews:∀ j u,news[j]?=some u->w.cell? (ad.add j)=some u) (h1:∀ u∈news,u.oneCell'=true)
 (hm:0<m) (h63:n+m<=maxLen) (hbytes:(n+m)*bytes<=140737488355328) (hbase:base<=w.heap.size) (H:Nat) (hH:w.heap.size=H)
 (h:∀ g cap w',w'.ownsRow base e size (.slice (some ⟨g,0,none⟩) (n+m) cap) (n+m) (xs++news)->w.grownBy w' v.ownBlock->(v.ownBlock=some g\/g=H)->g<w'.heap.size->K (.slice (some ⟨g,0,none⟩) (n+m) cap) w'):lateOp P o a w K:=by
 obtain ⟨g,cap,w',hr,h2,h3,h4,h5⟩:=run_append_lies (P:=P) w t o.type base e i z size bytes ht hi hz hsize hby hzs hsz v n xs hown ad m c news hl hnews h1 hm h63 hbytes hbase H hH;unfold lateOp execOp;simp only [ho,resolve,invoke,builtin,Sem.run_bind,Sem.run_pure,Result.andThen_ok,List.map_toArray,List.map_cons,List.map_nil,hs,hx,hr,lateUpon];exact h g cap w' h2 h3 h4 h5
end Go.Proofs.YtflgngjocgiojaaGreat
