import Derived.Test.YtflgngjocgiojaaGreatNumJ
set_option linter.all false
namespace Go.Proofs.YtflgngjocgiojaaGreat
set_option maxRecDepth 100000
set_option maxHeartbeats 8000000
open Go.RowKit
attribute [local go_sem] Oper.semAt_some
def upB (n X:Nat):EBS [] where
 val p:= .slice (some ⟨p.1,0,none⟩) n n
 R p u:=∃ L cr,OwnD u p.1 L/\L.length=n/\Dg L/\vD L+4294967296^n*cr=X
 st _ _ _ h k:=by
  obtain ⟨L,cr,h1,h2⟩:=h;exact ⟨L,cr,Own.upd h1 k aS,h2⟩
theorem upB_val {n X:Nat} {p:Nat×Nat}:(upB n X).val p = .slice (some ⟨p.1,0,none⟩) n n:=rfl
theorem DigsAt.keeps {w u:World} {A:Option Addr} {n:Nat} {D:List Nat} (h:DigsAt w A n D) (hk:Keeps [] w u):DigsAt u A n D:=
 ⟨h.len,h.dg,fun h1=>by
  obtain ⟨b,off,rfl,hlt,hc⟩:=h.row h1;exact ⟨b,off,rfl,Zl hlt hk.1,fun i hi=>(Zc (w:=w) (a:=⟨b,off+i,none⟩) (hk.2 b hlt aS)).trans (hc i hi)⟩⟩
theorem DigsAt.upd {w u:World} {A:Option Addr} {n:Nat} {D:List Nat} (h:DigsAt w A n D) (hk:Upd [] w u):DigsAt u A n D:=h.keeps (Upd.keeps (Keeps.refl _ _) hk)
theorem Keeps.more {T T':List Nat} {w u v:World} (h:Keeps T w u) (k:Keeps T' u v) (hs:∀ b∈T',b∈T):Keeps T w v:=
 ⟨Zm h.1 k.1,fun b hb ht=>(k.2 b (Zl hb h.1) (fun e=>ht (hs b e))).trans (h.2 b hb ht)⟩
theorem sl_zero (w:World):SlD w (.slice none 0 0) 0:=⟨none,0,0,rfl,aO,aO,DigsAt.nil w none⟩
theorem keepsO_of {T:List Nat} {W u:World} (h:Keeps T W u) (hT:∀ b∈T,∃ cs,Own W b cs):KeepsOthers W u:=⟨h.1,fun k o hk ho=>by
 by_cases hm:k∈T
 ·obtain ⟨cs,t,ht⟩:=hT k hm;rw [ht] at hk;cases hk;cases ho
 ·have hl:=(Zt.1 hk).1;exact (h.2 k hl hm).trans hk⟩
def KeepQ (Bn bq N:Nat) (X:World):Prop:=Own X Bn #[.slice (some ⟨bq,0,none⟩) N N]/\∃ L,OwnD X bq L/\L.length=N/\Dg L
theorem down_free (n Bn bq N:Nat) (hn:1<=n) (w:World) (hG:KeepQ Bn bq N w) (hN:N<=1000) :
 SeqStopsK Fence.wide n Tryz.prog 132 #[.pointer (some ⟨Bn,0,none⟩)] (fun x:Fin N×Fin 4294967296=>#[.int .i64 (x.1.val:Nat),.int .u32 (x.2.val:Nat)])
  (fun X Y=>KeepQ Bn bq N X->KeepQ Bn bq N Y) (fun ys=>ys.map (fun x=>x.1.val)=dn N) (fun pre=>pre.map (fun x=>x.1.val) <+: dn N) 1000 w:=fun l J Jx W hW _ _ hY h0 =>
 down1_in (α:=Fin N×Fin 4294967296) (fun x=>x.1.val) (fun x=>x.2.val) n l Bn N N hn (some ⟨bq,0,none⟩) (KeepQ Bn bq N) (fun X h=>h.1.cell 0)
  (fun X k h hk=>by
   obtain ⟨L,h1,h2,h3⟩:=h.2;exact ⟨bq,0,⟨⟨k,hk⟩,⟨dAt L k,h3.at_ k⟩⟩,rfl,by rw [Nat.zero_add]; exact h1.cell (by rw [h2]; exact hk) rfl,rfl⟩) J Jx W hY ⟨hG.1.below hW,by
   obtain ⟨L,h1,h2,h3⟩:=hG.2;exact ⟨L,h1.below hW,h2,h3⟩⟩ hN (Zr _) aO h0
theorem mag_over {w:World} {A1 A2:Option Addr} {n1 n2 M1 M2:Nat} (c1 c2:Nat) (h1:DigsAt w A1 n1 (digs M1)) (h2:DigsAt w A2 n2 (digs M2)) (hm:n1<=900) (hm2:n2<=900) (hc1:n1<=c1) (hc2:c1<=9223372036854775807) (hpos:0<M2) :
 Calls Tryz.prog 67 #[.slice A1 n1 c1,.slice A2 n2 c2] w fun r w'=>(∃ v1 v2,r = .returned (.tuple #[v1,v2])/\SlD w' v1 (M1 / M2)/\SlD w' v2 (M1%M2))/\Below w.heap.size w w':=by
 obtain ⟨QQ,hQQ⟩:=Zx (M1 / M2);obtain ⟨RR,hRR⟩:=Zx (M1%M2);rw [hQQ,hRR];have HQR:=Zh (Zi hQQ hRR);clear hQQ hRR;have hl1:=h1.len;have hl2:=h2.len;have H1:=Zh h1;have H2:=Zh h2;have HL:=Zh (Zi hl1 hl2);have HPOS:=Zh hpos;clear h1 h2 hl1 hl2 hpos;have hn2:1<=n2:=by
  rcases Nat.eq_zero_or_pos n2 with h | h
  ·have h0:digs M2=[]:=List.eq_nil_of_length_eq_zero (by rw [HL.out.2]; exact h);have:=digs_nil.1 h0;have:=HPOS.out;omega
  ·exact h
 have hcmp:=mag_compare (w:=w) c1 c2 H1.out H2.out aO aO hc1 hc2;refine (callsIn_wide (n:=5)).1 ?_;refine callsIn_of_wp_marks Tryz.func67 rfl trivial ?_ rfl;simp only [Tryz.ntmps67,List.size_toArray,List.length_cons,List.length_nil,Nat.reduceAdd,Nat.reduceSub,Array.replicate_succ,Array.replicate_zero,List.push_toArray,List.append_toArray,List.nil_append,List.cons_append]
 by_cases hlt:M1<M2
 ·rw [ordI_lt aO] at hcmp;have HC:=Zh hcmp;clear hcmp;have hq:QQ=0:=by rw [<- HQR.out.1]; exact Nat.div_eq_of_lt hlt
  have hr:RR=M1:=by rw [<- HQR.out.2]; exact Nat.mod_eq_of_lt hlt
  have HQ:=Zh (Zi hq hr);clear hq hr;gi_wp2_with fail;refine ⟨trivial,(callsIn_wide.2 HC.out).mono ?_⟩;rintro e w2 ⟨rfl,hw⟩;gi_wp2;refine ⟨.tuple #[.slice none 0 0,.slice A1 n1 c1],by simp [results,Tryz.results67,go_sem],⟨_,_,rfl,?_,?_⟩,hw⟩
  ·rw [HQ.out.1]; exact sl_zero _
  ·rw [HQ.out.2]; exact ⟨A1,n1,c1,rfl,hc1,hc2,H1.out.below hw⟩
 ·obtain ⟨o,ho⟩:=Zx (ordI (M1:Nat) (M2:Nat));have ho2:¬ o<0:=by
   rw [<- ho];unfold ordI;rw [if_neg aO];split <;> omega
  rw [ho] at hcmp;have HC:=Zh hcmp;clear hcmp ho;gi_wp2_with fail;refine ⟨trivial,(callsIn_wide.2 HC.out).mono ?_⟩;rintro e w2 ⟨rfl,hw⟩;have hv1:=H1.out.below hw;have hv2:=H2.out.below hw;have H1b:=Zh hv1;have H2b:=Zh hv2;clear hv1 hv2 HC
  by_cases hone:n2=1
  ·subst hone;have hb0:=hw.alloc hw.size (.cells #[.int .i64 1] 3);obtain ⟨d,hd⟩:=Zx (dAt (digs M2) 0);obtain ⟨b,off,hA,hb,a1⟩:=(H2b.out.below ((Zb _ _).alloc (Zr _) (.cells #[.int .i64 1] 3))).cells (k:=0) aO hd;subst hA;have hdM:d=M2:=by
    have e:digs M2=[d]:=by
     have:=drop_dAt (D:=digs M2) (j:=0) (by rw [HL.out.2]; omega);rw [List.drop_zero,hd,List.drop_of_length_le (by rw [HL.out.2]; omega)] at this;exact this
    have:=digs_val M2;rw [e,vD_cons,vD_nil] at this;omega
   subst hdM;have hd1:d<4294967296:=by rw [<- hd]; exact (digs_dg d).at_ 0
   have hsm:=mag_small (w:=w2.alloc (.cells #[.int .i64 1] 3)) c1 d (H1b.out.below ((Zb _ _).alloc (Zr _) _)) aO hc1 hc2 HPOS.out hd1;rw [digs_val] at hsm;rw [HQR.out.1,HQR.out.2] at hsm;have hrr1:RR<4294967296:=by rw [<- HQR.out.2]; exact Nat.lt_trans (Nat.mod_lt _ HPOS.out) hd1
   have HSM:=Zh hsm;have HRR:=Zh hrr1;clear hsm hd hrr1;simp only [Nat.add_zero] at a1;gi_wp2_with fail;refine ⟨trivial,(callsIn_wide.2 HSM.out).mono ?_⟩;rintro e w3 ⟨⟨v1,rfl,hv1⟩,hb3⟩;have hb5:=hb0.trans (hb3.mono hb0.size);have hz5:=hb5.size;have HV1:=Zh hv1;clear hv1 HSM a1;gi_wp2_with fail;have hO:OwnD (w3.alloc (.cells (encU [RR]) 97)) w3.heap.size [RR]:=OwnD.new _ _;have hdg:=hO.digs (Dg.one HRR.out);have htr:=mag_trim 1 hdg (Zr _) aO;have HTR:=Zh htr;have HDG:=Zh hdg;clear htr hdg hO;refine ⟨trivial,(callsIn_wide.2 HTR.out).mono ?_⟩;rintro e w4 ⟨rfl,hb4⟩;have hb6:=(hb5.alloc hz5 (.cells (encU [RR]) 97)).trans (hb4.mono aT);gi_wp2;refine ⟨.tuple #[v1,_],by simp [results,Tryz.results67,go_sem]; exact rfl,⟨_,_,rfl,?_,?_⟩,hb6⟩
   ·exact (HV1.out.below ((Zb _ _).alloc (Zr _) _)).below hb4
   ·have:=trim_sl (HDG.out.below hb4) (Zr _) (by show 1<=_; omega);rw [vD_cons,vD_nil,Nat.mul_zero,Nat.add_zero] at this;exact this
  ·skip;have hle:n2<=n1:=by
    rcases Nat.lt_or_ge n1 n2 with h | h
    ·exfalso;have:=digs_lt (m:=M1) (n:=M2) (by rw [HL.out.1,HL.out.2]; exact h);omega
    ·exact h
   have hne1:¬ (n2:Int)=1:=aO
   obtain ⟨p2,hp2⟩:∃ p,p+1=n2:=⟨n2 - 1,aO⟩;have hp2i:(n2:Int) - 1=(p2:Int):=aO
   have hp2n:(p2:Int)<(n2:Int):=aO
   obtain ⟨d,hd⟩:=Zx (dAt (digs M2) p2);have hd1:d<4294967296:=by rw [<- hd]; exact (digs_dg M2).at_ p2
   have hd0:0<d:=by
    have hne:digs M2≠[]:=fun e=>by have:=HL.out.2; rw [e] at this; simp at this; omega
    have hc:=digs_canon M2 hne;rw [List.getLast_eq_getElem,dAt_in] at hc;have e:(digs M2).length - 1=p2:=by rw [HL.out.2]; omega
    rw [e,hd] at hc;omega
   have bn:=Boxed.new w2 3 (.int .i64 (n2:Nat));have hB1:=(Zb w2.heap.size w2).alloc (Zr _) (.cells #[.int .i64 (n2:Nat)] 3);obtain ⟨b,off,hA,hb,a1⟩:=(H2b.out.below hB1).cells (k:=p2) aO hd;subst hA;have hw3:=hw.trans (hB1.mono hw.size);have HV1:=Zh (H1b.out.below hB1);have HV2:=Zh (H2b.out.below hB1);have HHD:=Zh hd;clear hd H1b H2b;gi_wp2_with fail;refine ⟨trivial,(callsIn_wide.2 (bits_LeadingZeros32 d hd1 hd0 _)).mono ?_⟩;rintro e w3 ⟨s,rfl,hs,hs1,hs2,rfl⟩;have HS:=Zh (Zi hs1 hs2);clear hs1 hs2 a1 hB1;obtain ⟨N1,hN1⟩:=Zx (n1+1);have hN1i:(n1:Int)+1=(N1:Int):=aO
   have hwsz:=hw3.size;gi_wp2;refine wpIn_wide.2 ?_;refine region_gen (T:=[]) [.make 5 [] (upB N1 (M1*2^s)),.make 9 [] (upB n2 (M2*2^s)),.make 10 [] (ownB [] #[.slice none 0 0] (fun p=>.pointer (some ⟨p,0,none⟩))),.make 11 [] (ownB [] #[.slice none 0 0] (fun p=>.pointer (some ⟨p,0,none⟩)))] 12 0 40 (fun _ _=>True) (fun _ _ _ _ _=>trivial) trivial aK aK (by rfl) ?_;unfold genWalk;refine ⟨_,pz1,?_⟩;refine one_of (by rfl) ⟨fun f=>⟨rfl,fun u hu _=>?_⟩,?_⟩
   ·refine make_call (f:=108) (args:=#[.slice A1 n1 c1,.int .i64 (s:Nat),.int .i64 (N1:Nat)]) (by (try simp only [LN]); (try simp only [ownB_val,upB_val]); go_simp) ?_;have q:=mag_up (w:=u) c1 s N1 (HV1.out.keeps hu) aO aO hs;rw [digs_val] at q;refine q.mono ?_;rintro e wx ⟨⟨rfl,L,cr,q1,q2⟩,hbx⟩;exact ⟨(u.heap.size,0),rfl,Zr _,Own.lt q1,hbx,L,cr,q1,q2⟩
   have q_d0:=fun v y=>((box_own bn).later (v:=v) (T:=[]) aS y).cell
   unfold genWalk;refine ⟨_,pz11,?_⟩;refine one_of (by rfl) ⟨fun f=>⟨rfl,fun u hu _=>?_⟩,?_⟩
   ·refine make_call (f:=108) (args:=#[.slice (some ⟨b,off,none⟩) n2 c2,.int .i64 (s:Nat),.int .i64 (n2:Nat)]) (by (try simp only [LN]); (try simp only [ownB_val,upB_val]); go_simp) ?_;have q:=mag_up (w:=u) c2 s n2 (HV2.out.keeps hu) aO aO hs;rw [digs_val] at q;refine q.mono ?_;rintro e wx ⟨⟨rfl,L,cr,q1,q2⟩,hbx⟩;exact ⟨(u.heap.size,0),rfl,Zr _,Own.lt q1,hbx,L,cr,q1,q2⟩
   unfold genWalk;refine ⟨_,pz11,?_⟩;refine one_of (by rfl) ⟨fun f=>⟨rfl,fun u hu _=>?_⟩,?_⟩
   ·refine make_own (e:=99) (by (try simp only [LN]); (try simp only [ownB_val,upB_val]); go_simp) aS
   unfold genWalk;refine ⟨_,pz11,?_⟩;refine one_of (by rfl) ⟨fun f=>⟨rfl,fun u hu _=>?_⟩,?_⟩
   ·refine make_own (e:=99) (by (try simp only [LN]); (try simp only [ownB_val,upB_val]); go_simp) aS
   unfold genWalk;refine ⟨_,pz11,?_⟩;intro f u' hup hph hmade hdist;obtain ⟨⟨U,cu,oU,lU,gU,vU⟩,loU,hiU⟩:=hmade 5 aO rfl;obtain ⟨⟨V,cv,oV,lV,gV,vV⟩,loV,hiV⟩:=hmade 9 aO rfl;obtain ⟨⟨_,o10⟩,lo10,hi10⟩:=hmade 10 aO rfl;obtain ⟨⟨_,o11⟩,lo11,hi11⟩:=hmade 11 aO rfl;have n1_:=hdist 5 9 aO aO rfl rfl aO;have n2_:=hdist 5 10 aO aO rfl rfl aO;have n3_:=hdist 5 11 aO aO rfl rfl aO;have n4_:=hdist 9 10 aO aO rfl rfl aO;have n5_:=hdist 9 11 aO aO rfl rfl aO;have n6_:=hdist 10 11 aO aO rfl rfl aO;replace o10:Own u' (f 10).1 #[.slice none 0 0]:=o10;replace o11:Own u' (f 11).1 #[.slice none 0 0]:=o11;simp only [TK,Nat.reduceSub,Nat.reduceAdd]
   (try simp only [LN])
   (try simp only [ownB_val,upB_val])
   clear hmade hdist hph;generalize (f 5).1=bu at *;generalize (f 9).1=bv at *;generalize (f 10).1=b10 at *;generalize (f 11).1=b11 at *;clear f;have on:=(box_own bn).upd hup aS;have nbn:w2.heap.size<(w2.alloc (.cells #[.int .i64 (n2:Nat)] 3)).heap.size:=bn.lt;have hw4:Below w.heap.size w u':=Upd.below hw3 hup aS;have hk:Keeps [] (w2.alloc (.cells #[.int .i64 (n2:Nat)] 3)) u':=Upd.keeps (Keeps.refl _ _) hup;clear hup hw3 bn HV1 HV2;have c10:=o10.cell;have f10:=o10.thaw;refine effc_mem (by rfl) (fun K hK=>?_);go_simp;refine hK _ _ (hk.new lo10 _) (fun u1 hu1=>?_);clear hK K;have hk1:=(hk.new lo10 (.slice (some ⟨bu,0,none⟩) N1 N1) (p:=⟨b10,0,none⟩)).later hu1;have p10:Own u1 b10 #[.slice (some ⟨bu,0,none⟩) N1 N1]:=(o10.set 0 _).below hu1;have p11:=(o11.far (Ne.symm n6_) _).below hu1;have pU:OwnD u1 bu U:=(OwnD.far (p:=⟨b10,0,none⟩) oU n2_ (.slice (some ⟨bu,0,none⟩) N1 N1)).below hu1;have pV:OwnD u1 bv V:=(OwnD.far (p:=⟨b10,0,none⟩) oV n4_ (.slice (some ⟨bu,0,none⟩) N1 N1)).below hu1;have pn:=(on.far aT _).below hu1;have hw5:Below w.heap.size w u1:=(hw4.setCell aT _).trans (hu1.mono (by simp [World.setCell]; have:=hw4.size; omega));clear o10 o11 oU oV on c10 f10 hk hu1;have c11:=p11.cell;have f11:=p11.thaw;refine effc_mem (by rfl) (fun K hK=>?_);go_simp;refine hK _ _ (hk1.new lo11 _) (fun u2 hu2=>?_);clear hK K;have q11:Own u2 b11 #[.slice (some ⟨bv,0,none⟩) n2 n2]:=(p11.set 0 _).below hu2;have q10:=(p10.far n6_ _).below hu2;have qU:OwnD u2 bu U:=(OwnD.far (p:=⟨b11,0,none⟩) pU n3_ (.slice (some ⟨bv,0,none⟩) n2 n2)).below hu2;have qV:OwnD u2 bv V:=(OwnD.far (p:=⟨b11,0,none⟩) pV n5_ (.slice (some ⟨bv,0,none⟩) n2 n2)).below hu2;have qn:=(pn.far aT _).below hu2;have hw6:Below w.heap.size w u2:=(hw5.setCell aT _).trans (hu2.mono (by simp [World.setCell]; have:=hw5.size; omega));clear p10 p11 pU pV pn c11 f11 hk1 hu2 hw4 hw5 hi10 hi11 hiU hiV;refine effc_nil ?_
   (try simp only [LN])
   have nU:w2.heap.size<bu:=aO
   clear loU loV lo10 lo11 nbn hb;have wz2:=hw.size;generalize w2.heap.size=bn at *;obtain ⟨dq,hdq⟩:=Zx (n1 - n2);have hdqi:(n1:Int) - (n2:Int)=(dq:Int):=aO
   obtain ⟨Nq,hNq⟩:=Zx (dq+1);have hNqi:(dq:Int)+1=(Nq:Int):=aO
   have hmk:=fun w=>make_mag Nq aO w
   have qnc:=qn.cell;have lU2:=ownD_lt qU;have lV2:=ownD_lt qV;have l10:=q10.lt;have l11:=q11.lt;have lbn:=qn.lt;gi_wp2_with fail;refine ⟨trivial,(callsIn_wide.2 (mag_down (some ⟨u2.heap.size,0,none⟩) Nq Nq _)).mono ?_⟩;rintro e w4 ⟨rfl,rfl⟩;gi_wp2;have rn:=((qn.alloc (.cells (encU (List.replicate Nq 0)) 97)).alloc (.cells #[.slice (some ⟨u2.heap.size,0,none⟩) Nq Nq] 99)).alloc (.cells #[.slice (some ⟨u2.heap.size,0,none⟩) Nq Nq] 99);have r10:=((q10.alloc (.cells (encU (List.replicate Nq 0)) 97)).alloc (.cells #[.slice (some ⟨u2.heap.size,0,none⟩) Nq Nq] 99)).alloc (.cells #[.slice (some ⟨u2.heap.size,0,none⟩) Nq Nq] 99);have r11:=((q11.alloc (.cells (encU (List.replicate Nq 0)) 97)).alloc (.cells #[.slice (some ⟨u2.heap.size,0,none⟩) Nq Nq] 99)).alloc (.cells #[.slice (some ⟨u2.heap.size,0,none⟩) Nq Nq] 99);have rU:OwnD _ bu U:=((Own.alloc qU (.cells (encU (List.replicate Nq 0)) 97)).alloc (.cells #[.slice (some ⟨u2.heap.size,0,none⟩) Nq Nq] 99)).alloc (.cells #[.slice (some ⟨u2.heap.size,0,none⟩) Nq Nq] 99);have rV:OwnD _ bv V:=((Own.alloc qV (.cells (encU (List.replicate Nq 0)) 97)).alloc (.cells #[.slice (some ⟨u2.heap.size,0,none⟩) Nq Nq] 99)).alloc (.cells #[.slice (some ⟨u2.heap.size,0,none⟩) Nq Nq] 99);have rQ:OwnD _ u2.heap.size (List.replicate Nq 0):=(Own.alloc (OwnD.new (w:=u2) (List.replicate Nq 0) 97) (.cells #[.slice (some ⟨u2.heap.size,0,none⟩) Nq Nq] 99)).alloc (.cells #[.slice (some ⟨u2.heap.size,0,none⟩) Nq Nq] 99);have r12:=(Own.new (w:=u2.alloc (.cells (encU (List.replicate Nq 0)) 97)) (b:=u2.heap.size+1) (cs:=#[.slice (some ⟨u2.heap.size,0,none⟩) Nq Nq]) (T:=99) aS).alloc (.cells #[.slice (some ⟨u2.heap.size,0,none⟩) Nq Nq] 99);have rB:=Own.new (w:=(u2.alloc (.cells (encU (List.replicate Nq 0)) 97)).alloc (.cells #[.slice (some ⟨u2.heap.size,0,none⟩) Nq Nq] 99)) (b:=u2.heap.size+1+1) (cs:=#[.slice (some ⟨u2.heap.size,0,none⟩) Nq Nq]) (T:=99) aS;have hw7:Below w.heap.size w (((u2.alloc (.cells (encU (List.replicate Nq 0)) 97)).alloc (.cells #[.slice (some ⟨u2.heap.size,0,none⟩) Nq Nq] 99)).alloc (.cells #[.slice (some ⟨u2.heap.size,0,none⟩) Nq Nq] 99)):=((hw6.alloc hw6.size _).alloc (by simp; have:=hw6.size; omega) _).alloc (by simp; have:=hw6.size; omega) _;have hsz:(((u2.alloc (.cells (encU (List.replicate Nq 0)) 97)).alloc (.cells #[.slice (some ⟨u2.heap.size,0,none⟩) Nq Nq] 99)).alloc (.cells #[.slice (some ⟨u2.heap.size,0,none⟩) Nq Nq] 99)).heap.size=u2.heap.size+1+1+1:=aS
   generalize (((u2.alloc (.cells (encU (List.replicate Nq 0)) 97)).alloc (.cells #[.slice (some ⟨u2.heap.size,0,none⟩) Nq Nq] 99)).alloc (.cells #[.slice (some ⟨u2.heap.size,0,none⟩) Nq Nq] 99))=W0 at *;have hz6:=hw6.size;clear qn q10 q11 qU qV qnc hw6 hmk;generalize u2.heap.size=bq at *;have hg0:KeepQ (bq+1+1) bq Nq W0:=⟨rB,_,rQ,List.length_replicate,Dg.zeros _⟩;have hseq:=down_free (5 - 1) (bq+1+1) bq Nq aO W0 hg0 aO;obtain ⟨dt1,dt2⟩:=digs_top (M:=M2) (p:=p2) (by rw [HL.out.2]; omega);rw [HHD.out] at dt1;have hfit:=top_fit hs HS.out.1 dt1;rw [hp2] at hfit;have hcv:cv=0:=by
    apply Classical.byContradiction;intro hne;have:=Nat.mul_le_mul_left (4294967296^n2) (show 1<=cv by omega);omega
   rw [hcv,Nat.mul_zero,Nat.add_zero] at vV;have hM1:M1<4294967296^n1:=digs_len.1 (by rw [HL.out.1]; exact Zr _);have hcu:cu=0:=by
    apply Classical.byContradiction;intro hne;have:=Nat.mul_le_mul_left (4294967296^N1) (show 1<=cu by omega);have a2:=Nat.mul_lt_mul_of_pos_right hM1 (Nat.two_pow_pos s);have a3:=Nat.mul_le_mul_left (4294967296^n1) (Nat.pow_le_pow_right (n:=2) aO (show s<=32 by omega));rw [<- hN1,Nat.pow_succ] at this;rw [<- hN1,Nat.pow_succ] at vU;omega
   rw [hcu,Nat.mul_zero,Nat.add_zero] at vU;have hp21:n2 - 1=p2:=aO
   have hdv:DivAt U (List.replicate Nq 0) V (M1*2^s) Nq:=DivAt.start (m:=n1) (n:=n2) vU rfl vV List.length_replicate aO hle hn2 hM1 (by rw [hp21]; exact dt2);have hvV2:4294967296^p2<=vD V:=by rw [vV]; exact Zm dt2 (Nat.le_mul_of_pos_right _ (Nat.two_pow_pos s))
   have htop:=top_pos gV (by rw [lV]; omega) hvV2;have hvpos:0<vD V:=val_pos (k:=p2) aO htop;have HVV:=Zh (Zi vV (Zi htop hvpos));have HGV:=Zh (Zi gV lV);clear dt1 dt2 hfit hcv hM1 hcu vV vU hvV2 htop hvpos gV lV hp21;refine wpIn_rangeFunc_ownH rfl aO (gf:=132) (lb:=#[.pointer (some ⟨bq+1+1,0,none⟩)]) rfl trivial (enters_of Tryz.func132 aK rfl)
    hseq (fun h k x=>k (h x)) (fun W l o o' hl ho hc _ h=>⟨own_put h.1 ho hc,by obtain ⟨L,h1,h2⟩:=h.2; exact ⟨L,own_put h1 ho hc,h2⟩⟩) (Zb _ _) (fun _=>rfl)
    (fun pre W=>∃ U Q,Own W bn #[.int .i64 (n2:Nat)]/\Own W b10 #[.slice (some ⟨bu,0,none⟩) N1 N1]/\Own W b11 #[.slice (some ⟨bv,0,none⟩) n2 n2]/\Own W (bq+1) #[.slice (some ⟨bq,0,none⟩) Nq Nq]/\OwnD W bu U/\U.length=N1/\Dg U/\OwnD W bv V/\OwnD W bq Q/\Q.length=Nq/\Dg Q /\
     (∀ j,pre.map (fun x=>x.1.val)++dn j=dn Nq->DivAt U Q V (M1*2^s) j)/\Below w.heap.size w W)
    (fun _ _ _=>False)
    (fun _ _ _ _ ⟨U,Q,g1,g2,g3,g4,g5,g6,g7,g8,g9,g10,g11,g12,g13⟩ hg hr=>⟨U,Q,own_own () _ _ _ g1 hg hr,own_own () _ _ _ g2 hg hr,own_own () _ _ _ g3 hg hr,own_own () _ _ _ g4 hg hr,own_own () _ _ _ g5 hg hr,g6,g7,own_own () _ _ _ g8 hg hr,own_own () _ _ _ g9 hg hr,g10,g11,g12,ownFrom_below (Zr _) aO () _ _ _ g13 hg hr⟩)
    (fun _ _ _ _ _ h _ _=>h)
    ⟨U,_,rn,r10,r11,r12,rU,lU,gU,rV,rQ,List.length_replicate,Dg.zeros _,(fun j hj=>by
     have e:j=Nq:=by
      have:=congrArg List.length hj;rw [List.map_nil,List.nil_append,dn_len,dn_len] at this;exact this
     rw [e]; exact hdv),hw7⟩
    (fun x a' W=>a'={ tmps:=#[.slice A1 n1 c1,.slice (some ⟨b,off,none⟩) n2 c2,undef,undef,.slice none 0 0,.slice none 0 0,.pointer (some ⟨bn,0,none⟩),undef,undef,.int .i64 (s:Nat),.pointer (some ⟨b10,0,none⟩),.pointer (some ⟨b11,0,none⟩),.pointer (some ⟨bq+1,0,none⟩),.int .i64 (x.1.val:Nat),undef,undef,.slice A1 n1 c1,.slice (some ⟨b,off,none⟩) n2 c2,.int IntKind.i64 o,.bool (decide (o<0)),undef,.slice (some ⟨b,off,none⟩) n2 c2,.int .i64 (n2:Nat),.int .i64 (n2:Nat),.bool false,undef,undef,undef,undef,undef,undef,undef,undef,undef,undef,undef,undef,.slice (some ⟨b,off,none⟩) n2 c2,.int .i64 (n2:Nat),.int .i64 (p2:Nat),.pointer (some ⟨b,off+p2,none⟩),.int .u32 (d:Nat),.int .i64 (s:Nat),.slice A1 n1 c1,.int .i64 (s:Nat),.slice A1 n1 c1,.int .i64 (n1:Nat),.int .i64 (N1:Nat),.slice (some ⟨bu,0,none⟩) N1 N1,.slice (some ⟨b,off,none⟩) n2 c2,.int .i64 (s:Nat),.int .i64 (n2:Nat),.slice (some ⟨bv,0,none⟩) n2 n2,.slice A1 n1 c1,.int .i64 (n1:Nat),.int .i64 (n2:Nat),.int .i64 (dq:Nat),.int .i64 (Nq:Nat),.slice (some ⟨bq,0,none⟩) Nq Nq,.slice (some ⟨bq,0,none⟩) Nq Nq,.func (Fn.func 132) #[] #[.pointer (some ⟨bq+1+1,0,none⟩)],.int .i64 (x.1.val:Nat),.int .u32 (x.2.val:Nat),undef,undef,undef,undef,undef,undef,undef,undef,undef,undef,undef,undef,undef,undef,undef,undef,undef,undef,undef,undef,undef,undef,undef,undef,undef,undef,undef,undef,undef,undef,undef,undef,undef,undef,undef,undef,undef,undef,undef,undef,undef,undef],defers:=[] })
    (fun x a' _ X Y row hs hg hr=>hs)
    ?assign ?body ?done ?stop
   case assign =>
    rintro l pre x W K hI hK;gi_wp2;exact hK _ _ ((KeepsOthers.refl _).from _) (fun h=>h) hI rfl
   case body =>
    rintro l pre x a' W hl ⟨_,_⟩ ⟨U,Q,g1,g2,g3,g4,g5,g6,g7,g8,g9,g10,g11,g12,g13⟩ rfl hlt;have hx:=x.1.isLt;obtain ⟨k,hk⟩:=Zx (x.1.val);rw [hk] at hx ⊢;have HK:=Zh hk;obtain ⟨kn,hkn⟩:=Zx (k+n2);have hkni:(k:Int)+(n2:Int)=(kn:Int):=aO
    obtain ⟨km,hkm⟩:=Zx (kn+1);have hkmi:(kn:Int)+1=(km:Int):=aO
    have hkmN:(km:Int)<=(N1:Int):=aO
    have hkkm:(k:Int)<=(km:Int):=aO
    have hxi:(k:Int)<(Nq:Int):=aO
    clear hk;gi_wp2;refine region_sink_round 10 [bu,bq] aK aK (by rfl) aK (by rintro ⟨_,_,h⟩; exact h) ?_;apply Zs;refine ⟨fun v hv hne=>?_,fun u hu=>?_⟩
    ·simp only [TK];have d1:=fun y=>(g1.later (v:=v) (T:=[bu,bq]) aT y).cell
     have d2:=fun y=>(g2.later (v:=v) (T:=[bu,bq]) aT y).cell
     have d3:=fun y=>(g3.later (v:=v) (T:=[bu,bq]) aT y).cell
     have d4:=fun y=>(g4.later (v:=v) (T:=[bu,bq]) aT y).cell
     exact qz
    ·simp only [TK];have u1:=g1.below hu;have u2:=g2.below hu;have u3:=g3.below hu;have u4:=g4.below hu;have uU:=OwnD.below g5 hu;have uV:=OwnD.below g8 hu;have uQ:=OwnD.below g9 hu;obtain ⟨hcut,hlP,hlW⟩:=cut_three U k n2 aO;have gP:Dg (U.take k):=g7.take k;have gW:Dg ((U.drop k).take (n2+1)):=fun d hd=>g7 d (List.mem_of_mem_drop (List.mem_of_mem_take hd))
     rw [hcut] at uU;have g12':=g12;rw [hcut] at g12';generalize U.take k=P at *;generalize (U.drop k).take (n2+1)=Wn at *;generalize U.drop (k+n2+1)=S at *;have hp21:n2 - 1=p2:=aO
     have hstp:=num_step (w:=u) bu bv k n2 (km - k) (N1 - k) n2 aO uU hlP uV (Ne.symm n1_) hlW HGV.out.2 hn2 aO aO gW HGV.out.1 (by rw [hp21]; exact HVV.out.2.1);have HST:=Zh hstp;have HG12:=Zh g12';have HCUT:=Zh (Zi hcut (Zi hlP (Zi hlW (Zi gP gW))));clear hstp g12 g12' hcut hlP hlW gP gW;refine sink_mem (fun K hK=>?_);go_simp;refine HST.out.mono ?_;rintro e w9 ⟨⟨W',g,rfl,oU',lW',gW',hg,he⟩,hk9,hb9⟩;refine ⟨_,rfl,?_⟩;have hkW:Keeps [bu,bq] W w9:=(Keeps.of_below hu).more hk9 aS;refine hK _ _ hkW (fun u5 hu5=>?_);clear hK K HST;have v1:=(u1.keeps hk9 aT).below hu5;have v2:=(u2.keeps hk9 aT).below hu5;have v3:=(u3.keeps hk9 aT).below hu5;have v4:=(u4.keeps hk9 aT).below hu5;have vV:=(uV.keeps hk9 aT).below hu5;have vQ:=(uQ.keeps hk9 aT).below hu5;have vU:=oU'.below hu5;have hbW:Below w.heap.size w u5:=((g13.trans (hu.mono g13.size)).trans (hb9.mono aO)).trans (hu5.mono (by have:=g13.size; have:=hkW.1; omega));have hkW5:=hkW.later hu5;clear u1 u2 u3 u4 uU uV uQ hk9 hb9 hu5 hkW oU' hu;have hgl:g<4294967296:=aO
     refine sink_mem (fun K hK=>?_);go_simp;refine hK _ _ hkW5 (fun u6 hu6=>?_);clear hK K;have x1:=v1.below hu6;have x2:=v2.below hu6;have x3:=v3.below hu6;have x4:=v4.below hu6;have xV:=vV.below hu6;have xQ:=vQ.below hu6;have xU:=vU.below hu6;have hbX:Below w.heap.size w u6:=hbW.trans (hu6.mono (by have:=hbW.size; omega));have hkX:=hkW5.later hu6;clear v1 v2 v3 v4 vV vQ vU hkW5 hu6 hbW;obtain ⟨z,hz⟩:=Zx (dAt Q k);have cQ:=xQ.cell (by rw [g10]; exact hx) hz;have fQ:=Own.thaw xQ;have HHG:=Zh (Zi hg he);clear hz hg he;refine sink_all aK (fun K hK=>?_);go_simp;refine hK _ _ ?_;clear hK K;refine sink_nil ?_
     (try simp only [LN])
     gi_wp2;have hko:KeepsOthers W u6:=keepsO_of hkX (fun b hb=>by
      simp at hb;rcases hb with rfl | rfl
      ·exact ⟨_,g5⟩
      ·exact ⟨_,g9⟩)
     refine ⟨(hko.trans (KeepsOthers.setCell _ _ _)).from _,fun h=>⟨Own.far (h.1.keeps hkX aT) aT _,Q.set k g,xQ.set rfl,by rw [List.length_set]; exact g10,g11.set _ _ hgl⟩,P++W'++S,Q.set k g,
      x1.far aT _,x2.far aT _,x3.far aT _,x4.far aS _,OwnD.far xU aT _,?_,?_,OwnD.far xV aT _,xQ.set rfl,by rw [List.length_set]; exact g10,g11.set _ _ hgl,?_,hbX.setCell (by have:=g13.size; omega) _⟩
     ·rw [<- g6,HCUT.out.1,List.length_append,List.length_append,List.length_append,List.length_append,lW',HCUT.out.2.2.1]; omega
     ·have gS:Dg S:=fun d hd=>g7 d (by rw [HCUT.out.1]; exact List.mem_append_right _ hd)
      exact (HCUT.out.2.2.2.1.append gW').append gS
     ·intro j hj;rw [List.map_append,List.map_cons,List.map_nil,HK.out] at hj;obtain ⟨j1,rfl,j3⟩:=dn_step hj;exact (HG12.out (k+1) j1).step (n:=n2) HCUT.out.2.1 HCUT.out.2.2.1 aO HGV.out.2 HGV.out.1 HCUT.out.2.2.2.1 HVV.out.2.2 (by rw [g10]; exact hx) HHG.out.1 HHG.out.2
   case done =>
    rintro D' ys W hD hys ⟨U,Q,g1,g2,g3,g4,g5,g6,g7,g8,g9,g10,g11,g12,g13⟩ hK;obtain ⟨hq,hr⟩:=(g12 0 (by rw [hys]; exact List.append_nil _)).done rfl HVV.out.1;rw [HQR.out.1] at hq;rw [HQR.out.2] at hr;have hUlt:vD U<4294967296^n2:=by
     have h1:=(g12 0 (by rw [hys]; exact List.append_nil _)).lt;rw [Nat.pow_zero,Nat.one_mul] at h1;have h2:=vD_lt HGV.out.1;rw [HGV.out.2] at h2;omega
    have HQV:=Zh (Zi hq (Zi hr hUlt));have HGU:=Zh g7;have HGQ:=Zh g11;have lD:=(Zt.1 hK).1;clear g8 g12 hq hr hUlt g7 g11;have hmk:=fun w=>make_mag n2 aO w
    have g1c:=g1.cell;gi_wp2;clear hmk g1c;have hb0:=(Zb W.heap.size W).alloc (Zr _) (.cells (encU (List.replicate n2 0)) 97);have oo:OwnD (W.alloc (.cells (encU (List.replicate n2 0)) 97)) W.heap.size (List.replicate n2 0):=OwnD.new _ _;generalize (W.alloc (.cells (encU (List.replicate n2 0)) 97))=W1 at *;gi_loopw [79] (fun i wr=>∃ (k:Nat) (R:List Nat),k<=n2/\i = .int .i64 k/\RestAt U R s k/\Below W.heap.size W wr/\OwnD wr W.heap.size (R++List.replicate (n2 - k) 0)) (fun i _=>n2 - (intOf i).toNat)
    case atStart=>exact ⟨0,[],aO,rfl,RestAt.start U s,hb0,by simpa using oo⟩
    case round =>
     clear hb0 oo;obtain ⟨k,R,hk,rfl,hR,hb,oo⟩:=hrel;have HR:=Zh hR;clear hR;have r2:=g2.below hb;have r4:=g4.below hb;have rU:=OwnD.below g5 hb
     by_cases hlk:k<n2
     ·have hlki:(k:Int)<(n2:Int):=aO
      have hkN:(k:Int)<(N1:Int):=aO
      obtain ⟨k1,hk1⟩:=Zx (k+1);have hk1i:(k:Int)+1=(k1:Int):=aO
      have hk1N:(k1:Int)<(N1:Int):=aO
      obtain ⟨x,hx⟩:=Zx (dAt U k);obtain ⟨y,hy⟩:=Zx (dAt U k1);have cx:=rU.cell (by rw [g6]; omega) hx;have cy:=rU.cell (by rw [g6]; omega) hy;have rU2:=ownD_lt rU;have hx1:x<4294967296:=by rw [<- hx]; exact HGU.out.at_ k
      obtain ⟨t32,ht32⟩:=Zx (32 - s);have ht32i:(32:Int) - (s:Int)=(t32:Int):=aO
      obtain ⟨z,hz⟩:=Zx (dAt (R++List.replicate (n2 - k) 0) k);obtain ⟨r,hr⟩:=Zx (x / 2^s+y*2^t32%4294967296);have hrd:=rest_digit (x:=x) (y:=y) hs hx1;rw [ht32,hr] at hrd;have hor:bits .or .u32 ((x:Int) / 2^s) ((y:Int)*2^t32%4294967296)=(r:Int):=by
       have e1:(x:Int) / 2^s=((x / 2^s:Nat):Int):=by rw [Int.natCast_ediv,Int.natCast_pow]; rfl
       have e2:(y:Int)*2^t32%4294967296=((y*2^t32%4294967296:Nat):Int):=by rw [Int.natCast_emod,Int.natCast_mul,Int.natCast_pow]; rfl
       rw [e1,e2,u32_or_nat _ _ (Nat.lt_of_le_of_lt (Nat.div_le_self _ _) hx1) (Nat.mod_lt _ aO),Nat.or_comm,nat_join t32 _ _ hrd.2.2.1 hrd.2.2.2,Nat.add_comm,hr]
      have HNR:Hid (RestAt U (R++[r]) s (k+1)):=Zh (HR.out.step (y:=y) hs hx (by rw [hk1]; exact hy) hx1 (by rw [ht32]; exact hr));have HSE:Hid ((R++List.replicate (n2 - k) 0).set k r=(R++[r])++List.replicate (n2 - (k+1)) 0):=Zh (by
       rw [List.set_append_right _ _ (by rw [HR.out.len]; omega),HR.out.len,Nat.sub_self,show n2 - k=(n2 - (k+1))+1 by omega,List.replicate_succ,List.set_cons_zero,List.append_assoc];rfl)
      have HZ:=Zh (Zi (show k<(R++List.replicate (n2 - k) 0).length by rw [List.length_append,List.length_replicate,HR.out.len]; omega) hz);clear hx hy hz hr hrd HR ht32;gi_wp2;refine wpIn_wide.2 ?_;refine region_late 18 [] aK aK (by rfl) ?_;apply Zs;refine ⟨fun v hv hne=>?_,fun u hu=>?_⟩
      ·simp only [TK];have d2:=fun y=>(r2.later (v:=v) (T:=[]) aS y).cell
       have d3:=later_cell (v:=v) (T:=[]) rU2 aS cx;have d4:=later_cell (v:=v) (T:=[]) rU2 aS cy;exact qz
      ·simp only [TK];have hbu:=hb.trans (hu.mono hb.size);have ou:=OwnD.below oo hu;have ouf:=Own.thaw ou;have ouc:=ou.cell HZ.out.1 HZ.out.2;clear oo hb cx cy r2 r4 rU rU2;refine late_sink aK (fun K hK=>?_);go_simp;refine hK _ _ ?_;clear hK K;refine late_nil ?_
       (try simp only [LN])
       gi_wp2;go_roundw
       case rel=>exact ⟨k+1,R++[r],aO,by go_num,HNR.out,hbu.setCell (Zr _) _,ou.set HSE.out⟩
       case measure=>simp [intOf]; omega
     ·obtain rfl:k=n2:=aO
      have hdone:=HR.out.done hs HGU.out HQV.out.2.1 HQV.out.2.2 (by rw [g6]; omega);rw [Nat.sub_self,List.replicate_zero,List.append_nil] at oo;have hdr:=oo.digs HR.out.dg;have hlr:=HR.out.len;rw [hlr] at hdr;have hdq2:=(OwnD.below g9 hb).digs HGQ.out;rw [g10] at hdq2;have HT:=Zh (Zi hdr hdq2);have HRR:=Zh hdone;clear hdr hlr hdq2 hdone;have hKr:=(hb.block D' lD).trans hK;have lDr:=(Zt.1 hKr).1;have hbw:=g13.trans (hb.mono g13.size);have hbz:=hbw.size;have c4:=r4.cell;gi_wp2_with fail;refine ⟨trivial,(callsIn_wide.2 (mag_trim Nq HT.out.2 (Zr _) aO)).mono ?_⟩;rintro e w5 ⟨rfl,hb5⟩;have e1:=HT.out.1.below hb5;have e2:=HT.out.2.below hb5;have E:=Zh (Zi e1 e2);have hK5:=(hb5.block D' lDr).trans hKr;have lD5:=(Zt.1 hK5).1;have hb6:=hbw.trans (hb5.mono hbz);have hz6_:=hb6.size;clear c4 e1 e2 HT;gi_wp2_with fail;refine ⟨trivial,(callsIn_wide.2 (mag_trim k E.out.1 (Zr _) aO)).mono ?_⟩;rintro e w6 ⟨rfl,hb7⟩;have e1:=E.out.1.below hb7;have e2:=E.out.2.below hb7;have E2:=Zh (Zi e1 e2);have hK2:=(hb7.block D' lD5).trans hK5;have hb9:=hb6.trans (hb7.mono hz6_);clear e1 e2 E;gi_wp2;refine ⟨aS,.inl ⟨_,_,rfl,run_takeDeferred hK2,?_⟩⟩;refine ⟨.tuple #[_,_],by simp [results,Tryz.results67,go_sem]; exact ⟨rfl,rfl⟩,?_⟩;refine ⟨⟨_,_,rfl,?_,?_⟩,hb9.trans (belowK_b (w:=w) (Zr _) _ D' _ _ (by have:=g13.size; omega) hK2 rfl rfl)⟩
      ·rw [<- HQV.out.1];exact trim_sl (digs_put E2.out.2 hK2 rfl) (Zr _) aO
      ·rw [<- HRR.out];exact trim_sl (digs_put E2.out.1 hK2 rfl) (Zr _) aO
   case stop =>
    rintro D' cd pre W hD hpre hf hK;exact hf.elim
end Go.Proofs.YtflgngjocgiojaaGreat
