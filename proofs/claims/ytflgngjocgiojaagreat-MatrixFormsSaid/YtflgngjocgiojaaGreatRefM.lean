import Derived.Test.YtflgngjocgiojaaGreatRefL
set_option linter.all false
namespace Go.Proofs.YtflgngjocgiojaaGreat
open Go.RowKit
theorem DigsAt.updT {T:List Nat} {w u:World} {A:Option Addr} {n:Nat} {D:List Nat} (h:DigsAt w A n D) (hU:Upd T w u) (hT:∀ b off,A=some ⟨b,off,none⟩->0<n->b∉T):DigsAt u A n D:=
 ⟨h.len,h.dg,fun h0=>by
  obtain ⟨b,off,e,hlt,hc⟩:=h.row h0;exact ⟨b,off,e,Zl hlt hU.size,fun i hi=>(Zc (w:=w) (a:=⟨b,off+i,none⟩) (hU.block b hlt (hT b off e h0))).trans (hc i hi)⟩⟩
theorem SlN.put {b:Nat} {w:World} {v:Value} {N:Nat} (h:SlN (b+1) w v N) (p:Nat) (x:Value):SlN (b+1) (w.setCell ⟨b,p,none⟩ x) v N:=by
 obtain ⟨A,n,c,h1,h2,h3,h4,h5⟩:=h;exact ⟨A,n,c,h1,h2,h3,h4.far (fun b' off e _=>by have:=h5 b' off e; show b'≠b; omega) x,h5⟩
structure QuoAt (M N Q j:Nat) (L:List Nat):Prop where
 len:L.length=Q
 dg:Dg L
 val:vD L=M / 2^j / N*2^j
theorem QuoAt.start {M N Q j:Nat} (h:M / 2^j<N):QuoAt M N Q j (List.replicate Q 0):=
 ⟨List.length_replicate,Dg.zeros _,by rw [vD_zeros,Nat.div_eq_of_lt h,Nat.zero_mul]⟩
theorem QuoAt.nil {M N Q k:Nat} {L:List Nat} (h:QuoAt M N Q (k+1) L) (e:M / 2^k / N=2*(M / 2^(k+1) / N)):QuoAt M N Q k L:=
 ⟨h.len,h.dg,by rw [h.val,e,Nat.pow_succ]; simp only [Nat.mul_assoc,Nat.mul_left_comm,Nat.mul_comm]⟩
theorem pow_32 (p t:Nat):2^(32*p+t)=4294967296^p*2^t:=by rw [Nat.pow_add,Nat.pow_mul]
theorem QuoAt.bit {M N Q k p t x:Nat} {L:List Nat} (h:QuoAt M N Q (k+1) L) (hp:k / 32=p) (ht:k%32=t) (hl:p<L.length) (hx:dAt L p=x):x<4294967296/\x / 2^t%2=0:=by
 refine ⟨by rw [<- hx]; exact h.dg.at_ _,?_⟩;have e:=bit_val L h.dg k;rw [hp,ht,hx,h.val,Nat.pow_succ,Nat.mul_comm (2^k) 2,<- Nat.mul_assoc,Nat.mul_div_cancel _ (Nat.two_pow_pos k)] at e;rw [e];omega
theorem add_bit {x t:Nat} (hx:x<4294967296) (ht:t<32) (hb:x / 2^t%2=0):x+2^t<4294967296:=by
 have h1:(4294967296:Nat)=2^t*2^(32 - t):=by rw [<- Nat.pow_add,show t+(32 - t)=32 by omega]
 have h2:x / 2^t<2^(32 - t):=by
  rw [Nat.div_lt_iff_lt_mul (Nat.two_pow_pos t),Nat.mul_comm];omega
 have h3:2^(32 - t)=2*2^(31 - t):=by rw [show 32 - t=(31 - t)+1 by omega,Nat.pow_succ,Nat.mul_comm]
 have h4:x / 2^t+1+1<=2^(32 - t):=by
  generalize 2^(31 - t)=z at *;omega
 have h5:=Nat.mul_le_mul_left (2^t) h4;have h6:=Nat.div_add_mod x (2^t);have h7:=Nat.mod_lt x (Nat.two_pow_pos t);rw [Nat.mul_add,Nat.mul_add,Nat.mul_one,<- h1] at h5;omega
theorem QuoAt.one {M N Q k p t x:Nat} {L:List Nat} (h:QuoAt M N Q (k+1) L) (hp:k / 32=p) (ht:k%32=t) (hl:p<L.length) (hx:dAt L p=x) (hx1:x<4294967296) (hb:x / 2^t%2=0) (e:M / 2^k / N=2*(M / 2^(k+1) / N)+1):QuoAt M N Q k (L.set p (x+2^t)):=by
 refine ⟨by rw [List.length_set,h.len],h.dg.set _ _ (add_bit hx1 aO hb),?_⟩;have q:=vD_put (L:=L) (i:=p) (r:=x+2^t) hl;rw [hx,h.val,Nat.mul_add] at q;have ek:2^k=4294967296^p*2^t:=by rw [<- pow_32]; congr 1; omega
 rw [e,Nat.add_mul,Nat.one_mul];rw [Nat.pow_succ] at q;have e2:2*(M / 2^(k+1) / N)*2^k=M / 2^(k+1) / N*(2^k*2):=by simp only [Nat.mul_assoc,Nat.mul_left_comm,Nat.mul_comm]
 rw [Nat.pow_succ] at e2 ⊢;rw [e2];rw [<- ek] at q;omega
theorem or_bit {x t:Nat} (hx:x<4294967296) (ht:t<32) (hb:x / 2^t%2=0):bits .or .u32 (x:Int) ((2^t:Nat):Int)=((x+2^t:Nat):Int):=by
 have hp:2^t<4294967296:=Zl (Nat.pow_lt_pow_right aO ht) (by decide);rw [u32_or_nat _ _ hx hp];congr 1;have h1:x%2^(t+1)=x%2^t:=by rw [Nat.pow_succ,Nat.mod_mul,hb,Nat.mul_zero,Nat.add_zero]
 have h2:=Nat.div_add_mod x (2^(t+1));rw [h1] at h2;have h3:=Nat.mod_lt x (Nat.two_pow_pos t);have h4:2^(t+1)*(x / 2^(t+1))%2^(t+1)=0:=Nat.mul_mod_right _ _;have h5:2^(t+1)*(x / 2^(t+1))%2^t=0:=by rw [Nat.pow_succ,Nat.mul_assoc]; exact Nat.mul_mod_right _ _
 generalize 2^(t+1)*(x / 2^(t+1))=a at *;generalize x%2^t=lo at *;have e1:=nat_join t a lo h5 h3;have e2:=nat_join t (2^t) lo (Nat.mod_self _) h3;have e3:=nat_join (t+1) a (2^t+lo) h4 (by rw [Nat.pow_succ]; omega);rw [<- h2,<- e1,Nat.or_assoc,Nat.or_comm lo,e2,e3,e1];omega
set_option maxRecDepth 100000 in
set_option maxHeartbeats 8000000 in
theorem ref1_divideL {w:World} {v1 v2:Value} {M N:Nat} (h1:SlD w v1 M) (h2:SlD w v2 N) (l1:(digs M).length<=2000) (l2:(digs N).length<=1000) (h0:N≠0) (hbig:¬ ((digs M).length<=2/\(digs N).length<=2)) :
 Calls Tryz.prog 117 #[v1,v2] w fun r w'=>(∃ x y,r = .returned (.tuple #[x,y])/\SlD w' x (M / N)/\SlD w' y (M%N))/\Below w.heap.size w w':=by
 obtain ⟨A1,n1,c1,rfl,hc1,hm1,d1⟩:=h1;obtain ⟨A2,n2,c2,rfl,hc2,hm2,d2⟩:=h2;have e1:=d1.len;have e2:=d2.len;have hn1:n1<=2000:=aO
 have hn2:n2<=1000:=aO
 have hn2':n2<=2000:=aO
 have hN0:0<N:=aO
 have D1:=Zh d1;have D2:=Zh d2;have HL:=Zh (Zi e1 e2);obtain ⟨lM,hlM⟩:=Zx (blen M);obtain ⟨lN,hlN⟩:=Zx (blen N);have HB:=Zh (Zi hlM hlN);have hcs:¬ (n1:Int)<=2\/((n1:Int)<=2/\¬ (n2:Int)<=2):=aO
 clear d1 d2 e1 e2 l1 l2 hbig hlM hlN h0;rcases hcs with hs1 | ⟨hs1,hs2⟩
 ·go_enter Tryz.func117,Tryz.ntmps117;go_wp2_with fail;refine Zd (callv (ref1_length c1 D1.out hn1) (congrArg (fun x:Nat=>Value.int IntKind.i64 (x:Int)) HB.out.1)) ?_;rintro e w2 ⟨rfl,hb⟩;have D1':=Zh (D1.out.below hb);have D2':=Zh (D2.out.below hb);have hw2:=hb;clear hb;go_wp2_with fail;refine Zd (callv (ref1_length c2 D2'.out hn2') (congrArg (fun x:Nat=>Value.int IntKind.i64 (x:Int)) HB.out.2)) ?_;rintro e w3 ⟨rfl,hb⟩;have hw3:=hw2.trans (hb.mono hw2.size);have E1:=Zh (D1'.out.below hb);have E2:=Zh (D2'.out.below hb);clear hb hw2 D1' D2'
  by_cases hlt:lM<lN
  ·obtain ⟨z,hz⟩:∃ z:Int,(lM:Int) - (lN:Int)=z:=⟨_,rfl⟩;have hlMn:lM<=32*n1:=by rw [<- HB.out.1]; exact blen_digs (by rw [HL.out.1]; exact Zr _)
   have hlNn:lN<=32*n2:=by rw [<- HB.out.2]; exact blen_digs (by rw [HL.out.2]; exact Zr _)
   have hwz:wrap64 ((lM:Int) - (lN:Int))=z:=by unfold wrap64; omega
   have hz0:z<0:=aO
   have hMN:M<N:=quo_less (by rw [HB.out.1,HB.out.2]; exact hlt);have hq:M / N=0:=Nat.div_eq_of_lt hMN;have hr:M%N=M:=Nat.mod_eq_of_lt hMN;have HQ:=Zh (Zi hq hr);have HE:=Zh (Zi hw3 E1.out);clear hMN hq hr hlt hw3 E1 E2 hz hlMn hlNn;go_wp2;go_ret2;exact ⟨⟨_,_,rfl,by rw [HQ.out.1]; exact ⟨none,0,0,rfl,Zr _,aO,DigsAt.nil _ _⟩,by rw [HQ.out.2]; exact ⟨A1,n1,c1,rfl,hc1,hm1,HE.out.2⟩⟩,HE.out.1⟩
  ·obtain ⟨f,hf⟩:=Zx (lM - lN);have hfi:(lM:Int) - (lN:Int)=(f:Int):=aO
   have hlMn:lM<=32*n1:=by rw [<- HB.out.1]; exact blen_digs (by rw [HL.out.1]; exact Zr _)
   have hlN0:0<lN:=by rw [<- HB.out.2]; exact (blen_le hN0).1
   have hf32:f<32*n1:=aO
   obtain ⟨Q,hQ⟩:=Zx (f / 32+1);have hQi:(f:Int) / 32+1=(Q:Int):=aO
   obtain ⟨s1,hs1'⟩:=Zx (f+1);have hs1i:(f:Int)+1=(s1:Int):=aO
   have hfI:(f:Int)<=64000:=aO
   have hmk:=make_u32s Q aO;have hfN:f+blen N=blen M:=by rw [HB.out.1,HB.out.2]; omega
   have hfst:=quo_first hN0 hfN;have HFS:=Zh hfst;have hlti:¬ (f:Int)<0:=aO
   have hW:=(Zb w3.heap.size w3).alloc (Zr _) (.cells (encU (List.replicate Q 0)) 97);have oq:OwnD (w3.alloc (.cells (encU (List.replicate Q 0)) 97)) w3.heap.size (List.replicate Q 0):=OwnD.new _ _;clear hfst hfN hlt hf;go_wp2_with fail;generalize (w3.alloc (.cells (encU (List.replicate Q 0)) 97))=W1 at *;have F1:=Zh (E1.out.below hW);have F2:=Zh (E2.out.below hW);have hz3:=hw3.size;have hw1:=hw3.trans (hW.mono hz3);obtain ⟨bq,hbq⟩:=Zx (w3.heap.size);have hU1:∀ b off,A1=some ⟨b,off,none⟩->0<n1->b<bq:=fun b off e h=>by rw [<- hbq]; exact E1.out.under b off e h
   have hU2:∀ b off,A2=some ⟨b,off,none⟩->0<n2->b<bq:=fun b off e h=>by rw [<- hbq]; exact E2.out.under b off e h
   have HU:=Zh (Zi hU1 hU2);have hbqW:bq<W1.heap.size:=by rw [<- hbq]; exact Own.lt oq
   have hwbq:w.heap.size<=bq:=by rw [<- hbq]; exact hz3
   rw [hbq] at oq ⊢;have HOQ:=Zh oq;have HW1:=Zh hw1;clear hU1 hU2 hmk oq hbq hW hw1 hw3 hz3 E1 E2;refine Zd (ref1_without c1 s1 F1.out hn1 aO) ?_;rintro e w5 ⟨⟨vr,rfl,hsl⟩,hb⟩;rw [<- hs1'] at hsl;have HS:=Zh (hsl.le (show bq+1<=_ by omega));have hup:Upd [bq] W1 w5:=(Upd.refl _ _).hop hb;have HOQ5:=Zh (HOQ.out.below hb);clear hsl hb HOQ;go_wp2;go_loopw [8,9] (fun rv kv wr=>∃ (j:Nat) (L:List Nat),j<=f+1/\kv = .int .i64 ((j:Int) - 1)/\Upd [bq] W1 wr/\OwnD wr bq L/\SlN (bq+1) wr rv (M / 2^j%N)/\QuoAt M N Q j L) (fun _ kv _=>(intOf kv+1).toNat)
   case atStart=>exact ⟨f+1,_,Zr _,by congr 1; omega,hup,HOQ5.out,by rw [Nat.mod_eq_of_lt HFS.out]; exact HS.out,QuoAt.start HFS.out⟩
   case round =>
    clear hup HOQ5 HS;obtain ⟨j,L,hj,rfl,hU,hO,hsl,hT⟩:=hrel;have HO:=Zh hO;have HT:=Zh hT;have HS:=Zh hsl;have hUz:=hU.size;clear hO hT hsl;cases j with
    | zero =>
     have hneg:((0:Nat):Int) - 1=-1:=rfl;rw [hneg];have hv:=HT.out.val;rw [Nat.pow_zero,Nat.mul_one,Nat.div_one] at hv;have hs:=HS.out;rw [Nat.pow_zero,Nat.div_one] at hs;have hd:DigsAt wr (some ⟨bq,0,none⟩) Q L:=by
      have h:=HO.out.digs HT.out.dg;rw [HT.out.len] at h;exact h
     have HT2:=Zh (ref1_trim Q hd (Zr _) aO);have HSQ:Hid (SlD wr (.slice (some ⟨bq,0,none⟩) (trimN L Q) Q) (M / N)):=Zh (by rw [<- hv]; exact trim_sl hd (Zr _) aO);have HSR:=Zh hs;have hwr:Below w.heap.size w wr:=Upd.below HW1.out hU (fun b hb=>by have:=List.mem_singleton.1 hb; omega);clear hv hs hd HT HO HS hU;go_wp2_with fail;refine Zd HT2.out ?_;rintro e w7 ⟨rfl,hb⟩;obtain ⟨vA,vn,vc,rfl,g1,g2,g3,g4⟩:=HSR.out.below hb;have HG:=Zh (Zi g1 (Zi g2 g3));have HW:=Zh (Zi (hwr.trans (hb.mono hwr.size)) (HSQ.out.below hb));clear hb g1 g2 g3 g4 HSR;go_wp2;go_ret2;exact ⟨⟨_,_,rfl,HW.out.2,⟨vA,vn,vc,rfl,HG.out.1,HG.out.2.1,HG.out.2.2⟩⟩,HW.out.1⟩
    | succ k =>
     have hk1:((k+1:Nat):Int) - 1=(k:Int):=aO
     rw [hk1];have hk0:(0:Int)<=(k:Int):=aO
     have G1:=Zh (F1.out.updT hU (fun b off e h=>by have:=HU.out.1 b off e h; simp; omega));have G2:=Zh (F2.out.updT hU (fun b off e h=>by have:=HU.out.2 b off e h; simp; omega));obtain ⟨bt,hbt⟩:=Zx (M / 2^k%2);have hbt1:bt<=1:=aO
     obtain ⟨X,hX⟩:=Zx (M / 2^(k+1)%N);have hXN:X<N:=by rw [<- hX]; exact Nat.mod_lt _ hN0
     have hqs:=quo_step M N k hN0;simp only [hX,hbt] at hqs;obtain ⟨R,hR⟩:=Zx (2*X+bt);rw [hR] at hqs;have HQS:=Zh hqs;have hsl:=HS.out;rw [hX] at hsl;have qb:=ref1_bit (w:=wr) c1 k G1.out hn1 aO;rw [digs_val,hbt] at qb;have QB:=Zh qb;clear qb;have HRR:=Zh hR;have hRl:(digs R).length<=n2+1:=digs_len.2 (by
      have h1:=digs_len.1 (show (digs N).length<=n2 by rw [HL.out.2]; exact Zr _);rw [Nat.pow_succ];omega)
     have hRl2:=hRl;obtain ⟨rA,rn,rc,rfl,g1,g2,g3,g4⟩:=hsl;have hrn:rn<=n2:=by
      rw [<- g3.len];exact Zm (digs_mono (Nat.le_of_lt hXN)) (by rw [HL.out.2]; exact Zr _)
     have HG3:=Zh g3;clear hqs hX hbt hR HS g1 g2 g3 g4;go_wp2_with fail;refine Zd QB.out ?_;rintro e w6 ⟨rfl,rfl⟩;go_wp2_with fail;refine Zd (ref1_twice rc HG3.out aO hbt1) ?_;rintro e w7 ⟨⟨vt,rfl,hst⟩,hb⟩;rw [HRR.out] at hst;have hst2:=hst.le (show bq+1<=_ by omega);obtain ⟨tA,tn,tc,rfl,g1,g2,g3,g4⟩:=hst2;have htl:=g3.len;have HG:=Zh (Zi g1 (Zi g2 (Zi g3 g4)));have hU7:=hU.hop hb;have O7:=Zh (HO.out.below hb);have K2:=Zh (G2.out.below hb);have hz7:=hb.size;clear hst hb g1 g2 g3 g4 hU HO G1 G2 HG3;obtain ⟨oc,hoc⟩:=Zx (ordI (R:Nat) (N:Nat));have HOC:=Zh hoc;clear hoc;go_wp2_with fail;refine Zd (callv (ref1_compare tc c2 HG.out.2.2.1 K2.out aO aO) (congrArg (Value.int IntKind.i64) HOC.out)) ?_;rintro e w8 ⟨rfl,hb⟩;have hU8:=hU7.hop hb;have O8:=Zh (O7.out.below hb);have J2:=Zh (K2.out.below hb);have JT:=Zh (HG.out.2.2.1.below hb);have hz8:=hb.size;clear hb hU7 O7 K2
     by_cases hge:N<=R
     ·have hocg:(0:Int)<=oc:=by
       rw [<- HOC.out];unfold ordI;rw [if_neg aO];split <;> omega
      have hnt:n2<=tn:=by
       rw [<- htl,<- HL.out.2];exact digs_mono hge
      obtain ⟨e1,e2⟩:=HQS.out.1 hge;have HE:=Zh (Zi e1 e2);clear e1 e2;go_wp2_with fail;refine Zd (ref1_minus tc c2 JT.out J2.out aO hnt hge) ?_;rintro e w9 ⟨⟨vm,rfl,hsm⟩,hb⟩;have hsm2:=hsm.le (show bq+1<=_ by omega);rw [<- HE.out.1] at hsm2;have HSM:=Zh hsm2;have hU9:=hU8.hop hb;have O9:=O8.out.below hb;obtain ⟨p,hp⟩:=Zx (k / 32);obtain ⟨t,ht⟩:=Zx (k%32);have hpi:(k:Int) / 32=(p:Int):=aO
      have hti:(k:Int)%32=(t:Int):=aO
      have hpQ:p<Q:=aO
      have hpQi:(p:Int)<(Q:Int):=aO
      have ht32:t<32:=aO
      have ht32i:(t:Int)<32:=aO
      obtain ⟨x,hx⟩:=Zx (dAt L p);have hpl:p<L.length:=by rw [HT.out.len]; exact hpQ
      obtain ⟨hx1,hx2⟩:=HT.out.bit hp ht hpl hx;have hshl:(2^t%4294967296:Nat)=2^t:=Nat.mod_eq_of_lt (Zl (Nat.pow_lt_pow_right aO ht32) (by decide));obtain ⟨pw,hpw⟩:=Zx (2^t);have hor:=or_bit hx1 ht32 hx2;rw [hpw] at hor;have hnx:=HT.out.one hp ht hpl hx hx1 hx2 HE.out.2;rw [hpw] at hnx;have HNX:=Zh hnx;have x9:=O9.cell hpl hx;have f9:=Own.thaw O9;have hlo:=Own.lt O9;have HOQ:=Zh O9;have hpwi:((2:Int)^t)=(pw:Int):=by rw [<- hpw]; simp
      have hpwu:IntKind.u32.wrap (pw:Int)=(pw:Int):=by
       have:pw<4294967296:=by rw [<- hpw]; exact Zl (Nat.pow_lt_pow_right aO ht32) (by decide)
       rw [IntKind.wrap_u32]; omega
      clear hb hsm hsm2 hp ht hx hnx O9 O8 hU8 hx1 hx2 HT hocg hge HQS HE hshl hpw;go_wp2;refine region_sink 13 [] aK aK (by rfl) ?_;apply Zs;refine ⟨fun v hv hne=>?_,fun u hu=>?_⟩
      ·simp only [List.take_succ_cons,List.take_zero];have d9:=fun y:Later [] w9 v=>(y.cell bq p hlo aS).trans x9
       repeat (go_big_quiet_step (fail))
       refine wpQuiet_nil ?_;exact rfl
      simp only [List.drop_succ_cons,List.drop_zero];have y9:=(Zc (w:=w9) (a:=⟨bq,p,none⟩) (hu.block bq hlo)).trans x9;have OU:=OwnD.below HOQ.out hu;have fu:=Own.thaw OU;have HUU:=Zh (Zi (hU9.hop hu) (Zi OU (HSM.out.below hu)));clear OU;refine sink_all aK (fun K hK=>?_);go_simp;refine hK _ _ ?_;clear hK K;refine sink_nil ?_
      (try simp only [LN])
      go_wp2;go_roundw
      case rel=>exact ⟨k,_,aO,by go_num,HUU.out.1.set (p:=⟨bq,p,none⟩) aS _,HUU.out.2.1.set rfl,HUU.out.2.2.put p _,HNX.out⟩
      case measure=>(simp [intOf]; try omega)
     ·have hocg:¬ (0:Int)<=oc:=by
       rw [<- HOC.out];unfold ordI;rw [if_pos aO];omega
      obtain ⟨e1,e2⟩:=HQS.out.2 aO;have hs:SlN (bq+1) w8 (.slice tA tn tc) (M / 2^k%N):=by
       rw [e1];exact ⟨tA,tn,tc,rfl,HG.out.1,HG.out.2.1,JT.out,HG.out.2.2.2⟩
      have hq:=HT.out.nil e2;have HSS:=Zh (Zi hs hq);clear e1 e2 hs hq HT HQS hge;go_wp2;go_roundw
      case rel=>exact ⟨k,L,aO,by go_num,hU8,O8.out,HSS.out.1,HSS.out.2⟩
      case measure=>(simp [intOf]; try omega)
 ·go_enter Tryz.func117,Tryz.ntmps117;go_wp2_with fail;refine Zd (callv (ref1_length c1 D1.out hn1) (congrArg (fun x:Nat=>Value.int IntKind.i64 (x:Int)) HB.out.1)) ?_;rintro e w2 ⟨rfl,hb⟩;have D1':=Zh (D1.out.below hb);have D2':=Zh (D2.out.below hb);have hw2:=hb;clear hb;go_wp2_with fail;refine Zd (callv (ref1_length c2 D2'.out hn2') (congrArg (fun x:Nat=>Value.int IntKind.i64 (x:Int)) HB.out.2)) ?_;rintro e w3 ⟨rfl,hb⟩;have hw3:=hw2.trans (hb.mono hw2.size);have E1:=Zh (D1'.out.below hb);have E2:=Zh (D2'.out.below hb);clear hb hw2 D1' D2'
  by_cases hlt:lM<lN
  ·obtain ⟨z,hz⟩:∃ z:Int,(lM:Int) - (lN:Int)=z:=⟨_,rfl⟩;have hlMn:lM<=32*n1:=by rw [<- HB.out.1]; exact blen_digs (by rw [HL.out.1]; exact Zr _)
   have hlNn:lN<=32*n2:=by rw [<- HB.out.2]; exact blen_digs (by rw [HL.out.2]; exact Zr _)
   have hwz:wrap64 ((lM:Int) - (lN:Int))=z:=by unfold wrap64; omega
   have hz0:z<0:=aO
   have hMN:M<N:=quo_less (by rw [HB.out.1,HB.out.2]; exact hlt);have hq:M / N=0:=Nat.div_eq_of_lt hMN;have hr:M%N=M:=Nat.mod_eq_of_lt hMN;have HQ:=Zh (Zi hq hr);have HE:=Zh (Zi hw3 E1.out);clear hMN hq hr hlt hw3 E1 E2 hz hlMn hlNn;go_wp2;go_ret2;exact ⟨⟨_,_,rfl,by rw [HQ.out.1]; exact ⟨none,0,0,rfl,Zr _,aO,DigsAt.nil _ _⟩,by rw [HQ.out.2]; exact ⟨A1,n1,c1,rfl,hc1,hm1,HE.out.2⟩⟩,HE.out.1⟩
  ·obtain ⟨f,hf⟩:=Zx (lM - lN);have hfi:(lM:Int) - (lN:Int)=(f:Int):=aO
   have hlMn:lM<=32*n1:=by rw [<- HB.out.1]; exact blen_digs (by rw [HL.out.1]; exact Zr _)
   have hlN0:0<lN:=by rw [<- HB.out.2]; exact (blen_le hN0).1
   have hf32:f<32*n1:=aO
   obtain ⟨Q,hQ⟩:=Zx (f / 32+1);have hQi:(f:Int) / 32+1=(Q:Int):=aO
   obtain ⟨s1,hs1'⟩:=Zx (f+1);have hs1i:(f:Int)+1=(s1:Int):=aO
   have hfI:(f:Int)<=64000:=aO
   have hmk:=make_u32s Q aO;have hfN:f+blen N=blen M:=by rw [HB.out.1,HB.out.2]; omega
   have hfst:=quo_first hN0 hfN;have HFS:=Zh hfst;have hlti:¬ (f:Int)<0:=aO
   have hW:=(Zb w3.heap.size w3).alloc (Zr _) (.cells (encU (List.replicate Q 0)) 97);have oq:OwnD (w3.alloc (.cells (encU (List.replicate Q 0)) 97)) w3.heap.size (List.replicate Q 0):=OwnD.new _ _;clear hfst hfN hlt hf;go_wp2_with fail;generalize (w3.alloc (.cells (encU (List.replicate Q 0)) 97))=W1 at *;have F1:=Zh (E1.out.below hW);have F2:=Zh (E2.out.below hW);have hz3:=hw3.size;have hw1:=hw3.trans (hW.mono hz3);obtain ⟨bq,hbq⟩:=Zx (w3.heap.size);have hU1:∀ b off,A1=some ⟨b,off,none⟩->0<n1->b<bq:=fun b off e h=>by rw [<- hbq]; exact E1.out.under b off e h
   have hU2:∀ b off,A2=some ⟨b,off,none⟩->0<n2->b<bq:=fun b off e h=>by rw [<- hbq]; exact E2.out.under b off e h
   have HU:=Zh (Zi hU1 hU2);have hbqW:bq<W1.heap.size:=by rw [<- hbq]; exact Own.lt oq
   have hwbq:w.heap.size<=bq:=by rw [<- hbq]; exact hz3
   rw [hbq] at oq ⊢;have HOQ:=Zh oq;have HW1:=Zh hw1;clear hU1 hU2 hmk oq hbq hW hw1 hw3 hz3 E1 E2;refine Zd (ref1_without c1 s1 F1.out hn1 aO) ?_;rintro e w5 ⟨⟨vr,rfl,hsl⟩,hb⟩;rw [<- hs1'] at hsl;have HS:=Zh (hsl.le (show bq+1<=_ by omega));have hup:Upd [bq] W1 w5:=(Upd.refl _ _).hop hb;have HOQ5:=Zh (HOQ.out.below hb);clear hsl hb HOQ;go_wp2;go_loopw [8,9] (fun rv kv wr=>∃ (j:Nat) (L:List Nat),j<=f+1/\kv = .int .i64 ((j:Int) - 1)/\Upd [bq] W1 wr/\OwnD wr bq L/\SlN (bq+1) wr rv (M / 2^j%N)/\QuoAt M N Q j L) (fun _ kv _=>(intOf kv+1).toNat)
   case atStart=>exact ⟨f+1,_,Zr _,by congr 1; omega,hup,HOQ5.out,by rw [Nat.mod_eq_of_lt HFS.out]; exact HS.out,QuoAt.start HFS.out⟩
   case round =>
    clear hup HOQ5 HS;obtain ⟨j,L,hj,rfl,hU,hO,hsl,hT⟩:=hrel;have HO:=Zh hO;have HT:=Zh hT;have HS:=Zh hsl;have hUz:=hU.size;clear hO hT hsl;cases j with
    | zero =>
     have hneg:((0:Nat):Int) - 1=-1:=rfl;rw [hneg];have hv:=HT.out.val;rw [Nat.pow_zero,Nat.mul_one,Nat.div_one] at hv;have hs:=HS.out;rw [Nat.pow_zero,Nat.div_one] at hs;have hd:DigsAt wr (some ⟨bq,0,none⟩) Q L:=by
      have h:=HO.out.digs HT.out.dg;rw [HT.out.len] at h;exact h
     have HT2:=Zh (ref1_trim Q hd (Zr _) aO);have HSQ:Hid (SlD wr (.slice (some ⟨bq,0,none⟩) (trimN L Q) Q) (M / N)):=Zh (by rw [<- hv]; exact trim_sl hd (Zr _) aO);have HSR:=Zh hs;have hwr:Below w.heap.size w wr:=Upd.below HW1.out hU (fun b hb=>by have:=List.mem_singleton.1 hb; omega);clear hv hs hd HT HO HS hU;go_wp2_with fail;refine Zd HT2.out ?_;rintro e w7 ⟨rfl,hb⟩;obtain ⟨vA,vn,vc,rfl,g1,g2,g3,g4⟩:=HSR.out.below hb;have HG:=Zh (Zi g1 (Zi g2 g3));have HW:=Zh (Zi (hwr.trans (hb.mono hwr.size)) (HSQ.out.below hb));clear hb g1 g2 g3 g4 HSR;go_wp2;go_ret2;exact ⟨⟨_,_,rfl,HW.out.2,⟨vA,vn,vc,rfl,HG.out.1,HG.out.2.1,HG.out.2.2⟩⟩,HW.out.1⟩
    | succ k =>
     have hk1:((k+1:Nat):Int) - 1=(k:Int):=aO
     rw [hk1];have hk0:(0:Int)<=(k:Int):=aO
     have G1:=Zh (F1.out.updT hU (fun b off e h=>by have:=HU.out.1 b off e h; simp; omega));have G2:=Zh (F2.out.updT hU (fun b off e h=>by have:=HU.out.2 b off e h; simp; omega));obtain ⟨bt,hbt⟩:=Zx (M / 2^k%2);have hbt1:bt<=1:=aO
     obtain ⟨X,hX⟩:=Zx (M / 2^(k+1)%N);have hXN:X<N:=by rw [<- hX]; exact Nat.mod_lt _ hN0
     have hqs:=quo_step M N k hN0;simp only [hX,hbt] at hqs;obtain ⟨R,hR⟩:=Zx (2*X+bt);rw [hR] at hqs;have HQS:=Zh hqs;have hsl:=HS.out;rw [hX] at hsl;have qb:=ref1_bit (w:=wr) c1 k G1.out hn1 aO;rw [digs_val,hbt] at qb;have QB:=Zh qb;clear qb;have HRR:=Zh hR;have hRl:(digs R).length<=n2+1:=digs_len.2 (by
      have h1:=digs_len.1 (show (digs N).length<=n2 by rw [HL.out.2]; exact Zr _);rw [Nat.pow_succ];omega)
     have hRl2:=hRl;obtain ⟨rA,rn,rc,rfl,g1,g2,g3,g4⟩:=hsl;have hrn:rn<=n2:=by
      rw [<- g3.len];exact Zm (digs_mono (Nat.le_of_lt hXN)) (by rw [HL.out.2]; exact Zr _)
     have HG3:=Zh g3;clear hqs hX hbt hR HS g1 g2 g3 g4;go_wp2_with fail;refine Zd QB.out ?_;rintro e w6 ⟨rfl,rfl⟩;go_wp2_with fail;refine Zd (ref1_twice rc HG3.out aO hbt1) ?_;rintro e w7 ⟨⟨vt,rfl,hst⟩,hb⟩;rw [HRR.out] at hst;have hst2:=hst.le (show bq+1<=_ by omega);obtain ⟨tA,tn,tc,rfl,g1,g2,g3,g4⟩:=hst2;have htl:=g3.len;have HG:=Zh (Zi g1 (Zi g2 (Zi g3 g4)));have hU7:=hU.hop hb;have O7:=Zh (HO.out.below hb);have K2:=Zh (G2.out.below hb);have hz7:=hb.size;clear hst hb g1 g2 g3 g4 hU HO G1 G2 HG3;obtain ⟨oc,hoc⟩:=Zx (ordI (R:Nat) (N:Nat));have HOC:=Zh hoc;clear hoc;go_wp2_with fail;refine Zd (callv (ref1_compare tc c2 HG.out.2.2.1 K2.out aO aO) (congrArg (Value.int IntKind.i64) HOC.out)) ?_;rintro e w8 ⟨rfl,hb⟩;have hU8:=hU7.hop hb;have O8:=Zh (O7.out.below hb);have J2:=Zh (K2.out.below hb);have JT:=Zh (HG.out.2.2.1.below hb);have hz8:=hb.size;clear hb hU7 O7 K2
     by_cases hge:N<=R
     ·have hocg:(0:Int)<=oc:=by
       rw [<- HOC.out];unfold ordI;rw [if_neg aO];split <;> omega
      have hnt:n2<=tn:=by
       rw [<- htl,<- HL.out.2];exact digs_mono hge
      obtain ⟨e1,e2⟩:=HQS.out.1 hge;have HE:=Zh (Zi e1 e2);clear e1 e2;go_wp2_with fail;refine Zd (ref1_minus tc c2 JT.out J2.out aO hnt hge) ?_;rintro e w9 ⟨⟨vm,rfl,hsm⟩,hb⟩;have hsm2:=hsm.le (show bq+1<=_ by omega);rw [<- HE.out.1] at hsm2;have HSM:=Zh hsm2;have hU9:=hU8.hop hb;have O9:=O8.out.below hb;obtain ⟨p,hp⟩:=Zx (k / 32);obtain ⟨t,ht⟩:=Zx (k%32);have hpi:(k:Int) / 32=(p:Int):=aO
      have hti:(k:Int)%32=(t:Int):=aO
      have hpQ:p<Q:=aO
      have hpQi:(p:Int)<(Q:Int):=aO
      have ht32:t<32:=aO
      have ht32i:(t:Int)<32:=aO
      obtain ⟨x,hx⟩:=Zx (dAt L p);have hpl:p<L.length:=by rw [HT.out.len]; exact hpQ
      obtain ⟨hx1,hx2⟩:=HT.out.bit hp ht hpl hx;have hshl:(2^t%4294967296:Nat)=2^t:=Nat.mod_eq_of_lt (Zl (Nat.pow_lt_pow_right aO ht32) (by decide));obtain ⟨pw,hpw⟩:=Zx (2^t);have hor:=or_bit hx1 ht32 hx2;rw [hpw] at hor;have hnx:=HT.out.one hp ht hpl hx hx1 hx2 HE.out.2;rw [hpw] at hnx;have HNX:=Zh hnx;have x9:=O9.cell hpl hx;have f9:=Own.thaw O9;have hlo:=Own.lt O9;have HOQ:=Zh O9;have hpwi:((2:Int)^t)=(pw:Int):=by rw [<- hpw]; simp
      have hpwu:IntKind.u32.wrap (pw:Int)=(pw:Int):=by
       have:pw<4294967296:=by rw [<- hpw]; exact Zl (Nat.pow_lt_pow_right aO ht32) (by decide)
       rw [IntKind.wrap_u32]; omega
      clear hb hsm hsm2 hp ht hx hnx O9 O8 hU8 hx1 hx2 HT hocg hge HQS HE hshl hpw;go_wp2;refine region_sink 13 [] aK aK (by rfl) ?_;apply Zs;refine ⟨fun v hv hne=>?_,fun u hu=>?_⟩
      ·simp only [List.take_succ_cons,List.take_zero];have d9:=fun y:Later [] w9 v=>(y.cell bq p hlo aS).trans x9
       repeat (go_big_quiet_step (fail))
       refine wpQuiet_nil ?_;exact rfl
      simp only [List.drop_succ_cons,List.drop_zero];have y9:=(Zc (w:=w9) (a:=⟨bq,p,none⟩) (hu.block bq hlo)).trans x9;have OU:=OwnD.below HOQ.out hu;have fu:=Own.thaw OU;have HUU:=Zh (Zi (hU9.hop hu) (Zi OU (HSM.out.below hu)));clear OU;refine sink_all aK (fun K hK=>?_);go_simp;refine hK _ _ ?_;clear hK K;refine sink_nil ?_
      (try simp only [LN])
      go_wp2;go_roundw
      case rel=>exact ⟨k,_,aO,by go_num,HUU.out.1.set (p:=⟨bq,p,none⟩) aS _,HUU.out.2.1.set rfl,HUU.out.2.2.put p _,HNX.out⟩
      case measure=>(simp [intOf]; try omega)
     ·have hocg:¬ (0:Int)<=oc:=by
       rw [<- HOC.out];unfold ordI;rw [if_pos aO];omega
      obtain ⟨e1,e2⟩:=HQS.out.2 aO;have hs:SlN (bq+1) w8 (.slice tA tn tc) (M / 2^k%N):=by
       rw [e1];exact ⟨tA,tn,tc,rfl,HG.out.1,HG.out.2.1,JT.out,HG.out.2.2.2⟩
      have hq:=HT.out.nil e2;have HSS:=Zh (Zi hs hq);clear e1 e2 hs hq HT HQS hge;go_wp2;go_roundw
      case rel=>exact ⟨k,L,aO,by go_num,hU8,O8.out,HSS.out.1,HSS.out.2⟩
      case measure=>(simp [intOf]; try omega)
end Go.Proofs.YtflgngjocgiojaaGreat
