import Derived.Test.YtflgngjocgiojaaGreatMatM
set_option linter.all false
namespace Go.Proofs.YtflgngjocgiojaaGreat
open Go.RowKit
set_option maxHeartbeats 8000000
set_option maxRecDepth 100000
def RetY (w:World) (p q:Int) (r:Ending) (w':World):Prop:=(∃ s1 A1 n1 c1 s2 A2 n2 c2,r = .returned (.agg #[.bool s1,.slice A1 n1 c1,.bool s2,.slice A2 n2 c2])/\RatX (fun b=>w.heap.size<=b) w' s1 A1 n1 c1 s2 A2 n2 c2 p q)/\Below w.heap.size w w'
theorem ratX_ref {W:World} {p q:Int} {b1 C1 b2 C2:Nat} {X:Nat->Prop} (h1:NumC W b1 C1 p) (h2:NumC W b2 C2 q) (f1:fits p=true) (f2:fits q=true) (l1:b1<W.heap.size) (l2:b2<W.heap.size) (x1:X b1) (x2:X b2) {A1 A2:Option Addr} {n1 c1 n2 c2:Nat} (e1:slC p b1 C1 = .slice A1 n1 c1) (e2:slC q b2 C2 = .slice A2 n2 c2) :
 RatX X W (sgnN p) A1 n1 c1 (sgnN q) A2 n2 c2 p q:=by
 have g1:=h1.at_ f1;have g2:=h2.at_ f2;unfold numC at g1 g2;rw [e1] at g1;rw [e2] at g2;refine ⟨fun b off e=>?_,fun b off e=>?_,g1,g2⟩
 ·subst e;have:=slC_addr e1;injection this with e1 e2
  subst e1;exact ⟨l1,x1⟩
 ·subst e;have:=slC_addr e2;injection this with e1 e2
  subst e1;exact ⟨l2,x2⟩
theorem fits1:fits 1=true:=fits_small (by decide)
theorem ref3_whole {w:World} (n:Int) (h1:-9223372036854775808<=n) (h2:n<=9223372036854775807):Calls Tryz.prog 43 #[.int .i64 n] w (RetX w n):=by
 have hW:=(Zb w.heap.size w).alloc (Zr _) (.cells nz1 35);have o2:Own (w.alloc (.cells nz1 35)) w.heap.size nz1:=Own.new rfl;have hn:=Zh (Zi h1 h2);clear h1 h2;go_enter Tryz.func43,Tryz.ntmps43;go_wp2_with fail;generalize (w.alloc (.cells nz1 35))=W0 at *;refine Zd (ref1_Of n hn.out.1 hn.out.2) ?_;rintro e u6 ⟨⟨b,C,rfl,g1,g2,g3⟩,hb⟩;obtain ⟨A9,n9,c9,hsl⟩:=slC_form n b C;simp only [numC];rw [hsl];have hw5:=hW.trans (hb.mono hW.size);have p3:=o2.below hb;have N3:=Zh (Zi g1 (Zi hsl (show w.heap.size<b by have:=o2.lt; omega)));have p3c:=p3.cell;have p3f:=p3.thaw;clear hsl g1 g2 hb hW o2;go_wp2;refine retC (b:=w.heap.size) (v:= .agg #[.bool (sgnN n),.slice A9 n9 c9]) ((p3.set 0 _).set 1 _) (fun w' hw'=>by simp [results,Tryz.results43,go_sem,hw']) rfl (endX (Zr _) rfl N3.out.2.1 hw5 N3.out.1 N3.out.2.2 g3)
theorem whole_zero {w:World}:Calls Tryz.prog 43 #[.int .i64 0] w fun r w'=>r = .returned zeroN/\Below w.heap.size w w':=
 (ref3_whole (w:=w) 0 aO aO).mono fun e w' ⟨⟨b,C,e1,_⟩,hb⟩=>⟨by rw [e1,numC_zero],hb⟩
theorem ref3_Int {w:World} (n:Int) (h1:-9223372036854775808<=n) (h2:n<=9223372036854775807):Calls Tryz.prog 30 #[.int .i64 n] w (RetY w n 1):=by
 have hW:=(Zb w.heap.size w).alloc (Zr _) (.cells nz2 37);have o4:Own (w.alloc (.cells nz2 37)) w.heap.size nz2:=aOwn;have hz:=hW.size;have hn:=Zh (Zi h1 (Zi h2 (show fits n=true from fits_small aO)));clear h1 h2;go_enter Tryz.func30,Tryz.ntmps30;go_wp2_with fail;generalize (w.alloc (.cells nz2 37))=W0 at *;refine Zd (ref3_whole n hn.out.1 hn.out.2.1) ?_;rintro e u1 ⟨⟨b1,C1,rfl,oN,loN,hiN⟩,hb1⟩;have hw1:=hW.trans (hb1.mono hz);have hz1:=hw1.size;have p4:=o4.below hb1;have l1:=Zl o4.lt loN;clear hb1 o4;go_wp2_with fail;refine Zd (ref3_whole 1 aO aO) ?_;rintro e u2 ⟨⟨b2,C2,rfl,oM,loM,hiM⟩,hb2⟩;have hwu:=hw1.trans (hb2.mono hz1);have q4:=p4.below hb2;have l2:=Zl p4.lt loM;have l3:=hb2.size;have HN:=Zh (Zi (oN.below hb2) oM);have q4c:=q4.cell;have q4f:=q4.thaw;obtain ⟨A7,n7,c7,hs7⟩:=slC_form n b1 C1;obtain ⟨A8,n8,c8,hs8⟩:=slC_form 1 b2 C2;simp only [numC];rw [hs7,hs8];have HSL:=Zh (Zi hs7 hs8);clear hs7 hs8 oN oM hb2 p4;go_wp2;refine retC (b:=w.heap.size) (v:= .agg #[.bool (sgnN n),.slice A7 n7 c7,.bool (sgnN 1),.slice A8 n8 c8]) (((((q4.set 0 (.bool (sgnN n))).set 1 (.slice A7 n7 c7)).set 2 (.bool (sgnN 1))).set 3 (.slice A8 n8 c8))) (fun w' hw'=>by simp [results,Tryz.results30,go_sem,hw']) rfl ⟨⟨_,_,_,_,_,_,_,_,rfl,ratX_ref (((((HN.out.1).far aT _).far aT _).far aT _).far aT _) (((((HN.out.2).far aT _).far aT _).far aT _).far aT _) hn.out.2.2 fits1 aT aT (by show _<=_; omega) (by show _<=_; omega) HSL.out.1 HSL.out.2⟩,((((hwu.setCell aS _).setCell aS _).setCell aS _).setCell aS _)⟩
theorem ref3_over {w:World} {v1 v2:Value} {z1 z2:Int} (h1:NumAt w v1 z1) (h2:NumAt w v2 z2) (e1:easyD z1.natAbs) (e2:easyD z2.natAbs) (h0:0<z2) (hd:z2∣z1):Calls Tryz.prog 91 #[v1,v2] w (RetX w (z1 / z2)):=by
 obtain ⟨z,hz⟩:=Zx (z1 / z2);rw [hz];have HE:=Zh (Zi hz (Zi e1 (Zi e2 (Zi h0 hd))));clear hz e1 e2 h0 hd;have G1:=Zh h1;have G2:=Zh h2;obtain ⟨A1,n1,c1,rfl,hc1,hm1,hl1,d1⟩:=h1;obtain ⟨A2,n2,c2,rfl,hc2,hm2,hl2,d2⟩:=h2;generalize decide (z1<0)=s1 at *;generalize decide (z2<0)=s2 at *;clear d1 d2;have hW:=((((Zb w.heap.size w).alloc (Zr _) (.cells #[.bool s1,.slice A1 n1 c1] 35)).alloc (by simp; try omega) (.cells #[.bool s2,.slice A2 n2 c2] 35)).alloc (by simp; try omega) (.cells nz1 35));have o2:Own (((w.alloc (.cells #[.bool s1,.slice A1 n1 c1] 35)).alloc (.cells #[.bool s2,.slice A2 n2 c2] 35)).alloc (.cells nz1 35)) (w.heap.size+1+1) nz1:=aOwn;go_enter Tryz.func91,Tryz.ntmps91;go_wp2_with fail;generalize (((w.alloc (.cells #[.bool s1,.slice A1 n1 c1] 35)).alloc (.cells #[.bool s2,.slice A2 n2 c2] 35)).alloc (.cells nz1 35))=W0 at *;have q:=ref1_Div (G1.out.below hW) (G2.out.below hW) HE.out.2.1 HE.out.2.2.1 HE.out.2.2.2.1 HE.out.2.2.2.2;rw [HE.out.1] at q;refine Zd q ?_;clear q;rintro e u1 ⟨⟨b,C,rfl,g1,g2,g3⟩,hb⟩;obtain ⟨A9,n9,c9,hsl⟩:=slC_form z b C;simp only [numC,zeroN];rw [hsl];have hk:Below u1.heap.size u1 ((u1.alloc (.cells #[.bool (sgnN z),.slice A9 n9 c9] 35)).alloc (.cells nz1 35)):=((Zb u1.heap.size u1).alloc (Zr _) _).alloc aS _;have hw1:=hW.trans (hb.mono hW.size);have hw2:=hw1.trans (hk.mono hw1.size);have p3:=(o2.below hb).below hk;have N3:=Zh (Zi (g1.below hk) (Zi hsl (show w.heap.size+1+1<b by have:=o2.lt; omega)));have hz3:=Zl g3 hk.size;have p3c:=p3.cell;have p3f:=p3.thaw;have p9:Own ((u1.alloc (.cells #[.bool (sgnN z),.slice A9 n9 c9] 35)).alloc (.cells nz1 35)) u1.heap.size #[.bool (sgnN z),.slice A9 n9 c9]:=aOwn;have p9c:=p9.cell;clear g1 g2 hb hk hW o2 hsl hw1 p9;go_wp2;refine retC (b:=w.heap.size+1+1) (v:= .agg #[.bool (sgnN z),.slice A9 n9 c9]) ((p3.set 0 _).set 1 _) (fun w' hw'=>by simp [results,Tryz.results91,go_sem,hw']) rfl (endX aO rfl N3.out.2.1 hw2 N3.out.1 N3.out.2.2 hz3)
theorem ref3_sameNum {w:World} {v1 v2:Value} {s1 s2:Bool} {D1 D2:List Nat} (h1:RawAt w v1 s1 D1) (h2:RawAt w v2 s2 D2) :
 Calls Tryz.prog 76 #[v1,v2] w fun r w'=>r = .returned (.bool (decide (s1=s2/\D1=D2)))/\Below w.heap.size w w':=by
 obtain ⟨A1,n1,c1,rfl,hc1,hm1,d1⟩:=h1;obtain ⟨A2,n2,c2,rfl,hc2,hm2,d2⟩:=h2;have hl1:=d1.len;have hl2:=d2.len;have hW:=(((Zb w.heap.size w).alloc (Zr _) (.cells #[.bool s1,.slice A1 n1 c1] 35)).alloc aS (.cells #[.bool s2,.slice A2 n2 c2] 35));have o2:Own ((w.alloc (.cells #[.bool s1,.slice A1 n1 c1] 35)).alloc (.cells #[.bool s2,.slice A2 n2 c2] 35)) w.heap.size #[.bool s1,.slice A1 n1 c1]:=aOwn;have o3:Own ((w.alloc (.cells #[.bool s1,.slice A1 n1 c1] 35)).alloc (.cells #[.bool s2,.slice A2 n2 c2] 35)) (w.heap.size+1) #[.bool s2,.slice A2 n2 c2]:=aOwn
 by_cases hs:s1=s2
 ·by_cases hn:n1=n2
  ·subst hs;subst hn;have hsb:(s1==s1)=true:=by cases s1 <;> rfl
   obtain ⟨o,ho⟩:=Zx (decide (s1=s1/\D1=D2));rw [ho];have hnm:(n1:Int)<=9223372036854775807:=aO
   have HL:=Zh (Zi hl1 (Zi hl2 ho));have H1:=Zh d1;have H2:=Zh d2;clear d1 d2 hl1 hl2 ho;go_enter Tryz.func76,Tryz.ntmps76;go_wp2;generalize ((w.alloc (.cells #[.bool s1,.slice A1 n1 c1] 35)).alloc (.cells #[.bool s1,.slice A2 n1 c2] 35))=W0 at *;go_loopw [5] (fun i wr=>∃ k:Nat,k<=n1/\i = .int .i64 k/\(∀ i,i<k->dAt D1 i=dAt D2 i)/\Below w.heap.size w wr/\Own wr w.heap.size #[.bool s1,.slice A1 n1 c1]/\Own wr (w.heap.size+1) #[.bool s1,.slice A2 n1 c2]) (fun i _=>n1 - (intOf i).toNat)
   case atStart=>exact ⟨0,Nat.zero_le _,rfl,fun i a=>aO,hW,o2,o3⟩
   case round =>
    clear hW o2 o3;obtain ⟨k,hk,rfl,hall,hw,o2,o3⟩:=hrel;have HA:=Zh hall;clear hall;have o2c:=o2.cell
    by_cases hkn:k<n1
    ·have hkni:(k:Int)<(n1:Int):=aO
     obtain ⟨d,hd⟩:=Zx (dAt D1 k);obtain ⟨e,he⟩:=Zx (dAt D2 k);obtain ⟨b,off,hA,hb,a1⟩:=(H1.out.below hw).cells hkn hd;obtain ⟨b2,off2,hA2,hb2,a2⟩:=(H2.out.below hw).cells hkn he;subst hA;subst hA2;have HD:=Zh (Zi hd he);clear hd he;go_wp2
     by_cases heq:d=e
     ·subst heq;refine region_late 11 [] aK aK (by rfl) ?_;apply Zs;refine ⟨fun v hv hne=>?_,fun u hu=>?_⟩
      ·simp only [TK];have f1:=fun x:Later [] wr v=>(x.cell b (off+k) hb aS).trans a1
       have f2:=fun x:Later [] wr v=>(x.cell b2 (off2+k) hb2 aS).trans a2
       have g1:=fun x=>(o2.later (v:=v) (T:=[]) aS x).cell
       have g2:=fun x=>(o3.later (v:=v) (T:=[]) aS x).cell
       exact qz
      ·simp only [TK];refine late_nil ?_
       (try simp only [LN])
       have hw2:=hw.trans (hu.mono hw.size);have p2:=o2.below hu;have p3:=o3.below hu;clear o2 o3 o2c;go_wp2;go_roundw
       case rel=>exact ⟨k+1,aO,by go_num,fun i a=>by
        rcases Nat.eq_or_lt_of_le (Nat.lt_succ_iff.1 a) with h | h
        ·rw [h,HD.out.1,HD.out.2]
        ·exact HA.out i h,hw2,p2,p3⟩
       case measure=>simp [intOf]; omega
     ·have hbe:((d:Int)==(e:Int))=false:=aT
      have hof:o=false:=by
       rw [<- HL.out.2.2];refine decide_eq_false fun ⟨_,h⟩=>heq ?_
       rw [<- HD.out.1,<- HD.out.2,h]
      subst hof;refine region_late 11 [] aK aK (by rfl) ?_;apply Zs;refine ⟨fun v hv hne=>?_,fun u hu=>?_⟩
      ·simp only [TK];have f1:=fun x:Later [] wr v=>(x.cell b (off+k) hb aS).trans a1
       have f2:=fun x:Later [] wr v=>(x.cell b2 (off2+k) hb2 aS).trans a2
       have g1:=fun x=>(o2.later (v:=v) (T:=[]) aS x).cell
       have g2:=fun x=>(o3.later (v:=v) (T:=[]) aS x).cell
       exact qz
      ·simp only [TK];refine late_nil ?_
       (try simp only [LN])
       have hw2:=hw.trans (hu.mono hw.size);go_wp2;go_ret;exact ⟨rfl,hw2⟩
    ·obtain rfl:k=n1:=aO
     have hkni:¬ (k:Int)<(k:Int):=aO
     have hot:o=true:=by
      rw [<- HL.out.2.2];exact decide_eq_true ⟨by first | trivial | rfl,eq_of_dAt (by rw [HL.out.1,HL.out.2.1]) (fun i hi=>HA.out i (by rw [HL.out.1] at hi; exact hi))⟩
     subst hot;go_wp2;go_ret;exact ⟨rfl,hw⟩
  ·rw [sameRaw (by rw [hl1,hl2]; exact fun h=>hn h.2)];subst hs;have hni:¬ (n1:Int)=(n2:Int):=aO
   clear d1 d2 hl1 hl2;go_enter Tryz.func76,Tryz.ntmps76;go_wp2;go_ret;exact ⟨rfl,hW⟩
 ·rw [sameRaw fun h=>hs h.1];clear d1 d2 hl1 hl2;go_enter Tryz.func76,Tryz.ntmps76;cases s1 <;> cases s2
  ·exact absurd rfl hs
  ·go_wp2;go_ret;exact ⟨rfl,hW⟩
  ·go_wp2;go_ret;exact ⟨rfl,hW⟩
  ·exact absurd rfl hs
theorem num_sameV {w:World} {v1 v2:Value} {z1 z2:Int} (h1:NumAt w v1 z1) (h2:NumAt w v2 z2):Calls Tryz.prog 76 #[v1,v2] w fun r w'=>r = .returned (.bool (decide (z1=z2)))/\Below w.heap.size w w':=by
 have q:=ref3_sameNum h1.raw.1 h2.raw.1;have e:decide (decide (z1<0)=decide (z2<0)/\digs z1.natAbs=digs z2.natAbs)=decide (z1=z2):=by
  refine decide_eq_decide.2 ⟨fun ⟨a,b⟩=>?_,fun h=>by rw [h]; exact ⟨rfl,rfl⟩⟩;have b2:=congrArg vD b;rw [digs_val,digs_val] at b2;have a2:(z1<0)↔(z2<0):=decide_eq_decide.1 a;omega
 rw [e] at q;exact q
theorem num_sameQ {w:World} {v1 v2:Value} {z1 z2:Int} (h1:NumAt w v1 z1) (h2:NumAt w v2 z2):Calls Tryz.prog 77 #[v1,v2] w fun r w'=>r = .returned (.bool (decide (z1=z2)))/\Below w.heap.size w w':=by
 have q:=ref1_Same h1.raw.1 h2.raw.1;have e:decide (decide (z1<0)=decide (z2<0)/\digs z1.natAbs=digs z2.natAbs)=decide (z1=z2):=by
  refine decide_eq_decide.2 ⟨fun ⟨a,b⟩=>?_,fun h=>by rw [h]; exact ⟨rfl,rfl⟩⟩;have b2:=congrArg vD b;rw [digs_val,digs_val] at b2;have a2:(z1<0)↔(z2<0):=decide_eq_decide.1 a;omega
 rw [e] at q;exact q
theorem ref3_Same {w:World} {v1 v2:Value} {p q p' q':Int} (h1:RatAt w v1 p q) (h2:RatAt w v2 p' q'):Calls Tryz.prog 29 #[v1,v2] w fun r w'=>r = .returned (.bool (decide (p=p')&&decide (q=q')))/\Below w.heap.size w w':=by
 obtain ⟨s1,A1,n1,c1,s2,A2,n2,c2,rfl,g1,g2⟩:=h1;obtain ⟨s3,A3,n3,c3,s4,A4,n4,c4,rfl,g3,g4⟩:=h2;obtain ⟨a,ha⟩:=Zx (decide (p=p'));obtain ⟨b,hb⟩:=Zx (decide (q=q'));rw [ha,hb];have G1:=Zh g1;have G2:=Zh g2;have G3:=Zh g3;have G4:=Zh g4;have HA:=Zh (Zi ha hb);clear g1 g2 g3 g4 ha hb;have hW:=((Zb w.heap.size w).alloc (Zr _) (.cells #[.bool s1,.slice A1 n1 c1,.bool s2,.slice A2 n2 c2] 37)).alloc aS (.cells #[.bool s3,.slice A3 n3 c3,.bool s4,.slice A4 n4 c4] 37);have o1:Own ((w.alloc (.cells #[.bool s1,.slice A1 n1 c1,.bool s2,.slice A2 n2 c2] 37)).alloc (.cells #[.bool s3,.slice A3 n3 c3,.bool s4,.slice A4 n4 c4] 37)) w.heap.size #[.bool s1,.slice A1 n1 c1,.bool s2,.slice A2 n2 c2]:=aOwn;have o2:Own ((w.alloc (.cells #[.bool s1,.slice A1 n1 c1,.bool s2,.slice A2 n2 c2] 37)).alloc (.cells #[.bool s3,.slice A3 n3 c3,.bool s4,.slice A4 n4 c4] 37)) (w.heap.size+1) #[.bool s3,.slice A3 n3 c3,.bool s4,.slice A4 n4 c4]:=aOwn;go_enter Tryz.func29,Tryz.ntmps29;go_wp2_with fail;generalize ((w.alloc (.cells #[.bool s1,.slice A1 n1 c1,.bool s2,.slice A2 n2 c2] 37)).alloc (.cells #[.bool s3,.slice A3 n3 c3,.bool s4,.slice A4 n4 c4] 37))=W0 at *;have x:=num_sameV (G1.out.below hW) (G3.out.below hW);rw [HA.out.1] at x;refine Zd x ?_;clear x;rintro e u1 ⟨rfl,hb⟩;have hw1:=hW.trans (hb.mono hW.size);have p1:=o1.below hb;have p2:=o2.below hb;have p1c:=p1.cell;have p2c:=p2.cell;clear hb o1 o2 hW;cases a
 ·go_wp2;go_ret;exact ⟨rfl,hw1⟩
 ·go_wp2_with fail;have x:=num_sameV (G2.out.below hw1) (G4.out.below hw1);rw [HA.out.2] at x;refine Zd x ?_;clear x;rintro e u2 ⟨rfl,hb⟩;have hw2:=hw1.trans (hb.mono hw1.size);go_wp2;go_ret;exact ⟨rfl,hw2⟩
theorem RatsA.at_ {w:World} {b off n:Nat} {Q:Nat->QI} (h:RatsA w (some ⟨b,off,none⟩) n Q) {i:Nat} (hi:i<n):b<w.heap.size/\∃ s1 A1 n1 c1 s2 A2 n2 c2,w.cell? ⟨b,off+i*4,none⟩=some (.bool s1)/\w.cell? ⟨b,off+i*4+1,none⟩=some (.slice A1 n1 c1)/\w.cell? ⟨b,off+i*4+2,none⟩=some (.bool s2)/\w.cell? ⟨b,off+i*4+3,none⟩=some (.slice A2 n2 c2)/\RatAt w (.agg #[.bool s1,.slice A1 n1 c1,.bool s2,.slice A2 n2 c2]) (Q i).1 (Q i).2:=by
 obtain ⟨b',off',e,hlt,hc⟩:=h aO;cases e;obtain ⟨s1,A1,n1,c1,s2,A2,n2,c2,e1,e2,e3,e4,h1,h2⟩:=hc i hi;exact ⟨hlt,s1,A1,n1,c1,s2,A2,n2,c2,e1,e2,e3,e4,_,_,_,_,_,_,_,_,rfl,h1,h2⟩
def numCB (T:List Nat) (z:Int):EBS T where
 val p:=numC z p.1 p.2
 R p u:=p.1∉T/\NumC u p.1 p.2 z
 st _ _ _ h k:=⟨h.1,h.2.upd h.1 k⟩
theorem numCB_val {T:List Nat} {z:Int} {p:Nat×Nat}:(numCB T z).val p=numC z p.1 p.2:=rfl
def ratC (p q:Int) (b1 C1 b2 C2:Nat):Value:= .agg #[.bool (sgnN p),slC p b1 C1,.bool (sgnN q),slC q b2 C2]
theorem NumC.at2 {w:World} {b C:Nat} {z:Int} (h:NumC w b C z) (hf:fits z=true) {A:Option Addr} {n c:Nat} (e:slC z b C = .slice A n c):NumAt w (.agg #[.bool (sgnN z),.slice A n c]) z:=by
 have:=h.at_ hf;rw [numC,e] at this;exact this
theorem ref_cmp0 {w:World} {v1:Value} {z1 o:Int} (ho:ordI z1 0=o) (h1:NumAt w v1 z1):Calls Tryz.prog 42 #[v1,zeroN] w fun r w'=>r = .returned (.int .i64 o)/\Below w.heap.size w w':=by
 have q:=ref1_Cmp h1 (num_zero w);rw [ho] at q;exact q
theorem ref3_Of {w:World} {v1 v2:Value} {z1 z2:Int} (h1:NumAt w v1 z1) (h2:NumAt w v2 z2) (e1:easyD z1.natAbs) (e2:easyD z2.natAbs) (h0:0<z2) :
 Calls Tryz.prog 44 #[v1,v2] w fun r w'=>(∃ b1 C1 b2 C2,r = .returned (.tuple #[ratC (ofN z1 z2) (ofD z1 z2) b1 C1 b2 C2,.bool true])/\NumC w' b1 C1 (ofN z1 z2)/\NumC w' b2 C2 (ofD z1 z2)/\w.heap.size<=b1/\b1<w'.heap.size/\w.heap.size<=b2/\b2<w'.heap.size)/\Below w.heap.size w w':=by
 obtain ⟨z,hz⟩:=Zx (ofN z1 z2);obtain ⟨y,hy⟩:=Zx (ofD z1 z2);rw [hz,hy];have HY:=Zh (Zi h0 (Zi hz (Zi hy (Zi e1 e2))));clear hz hy e1 e2 h0;have G1:=Zh h1;have G2:=Zh h2;obtain ⟨A1,n1,c1,rfl,hc1,hm1,hl1,d1⟩:=h1;obtain ⟨A2,n2,c2,rfl,hc2,hm2,hl2,d2⟩:=h2;generalize decide (z1<0)=s1 at *;generalize decide (z2<0)=s2 at *;clear d1 d2;have hW:=((((Zb w.heap.size w).alloc (Zr _) (.cells #[.bool s1,.slice A1 n1 c1] 35)).alloc aS (.cells #[.bool s2,.slice A2 n2 c2] 35)).alloc aT (.cells nz2 37));have o2:Own (((w.alloc (.cells #[.bool s1,.slice A1 n1 c1] 35)).alloc (.cells #[.bool s2,.slice A2 n2 c2] 35)).alloc (.cells nz2 37)) w.heap.size #[.bool s1,.slice A1 n1 c1]:=aOwn;have o3:Own (((w.alloc (.cells #[.bool s1,.slice A1 n1 c1] 35)).alloc (.cells #[.bool s2,.slice A2 n2 c2] 35)).alloc (.cells nz2 37)) (w.heap.size+1) #[.bool s2,.slice A2 n2 c2]:=aOwn;have o4:Own (((w.alloc (.cells #[.bool s1,.slice A1 n1 c1] 35)).alloc (.cells #[.bool s2,.slice A2 n2 c2] 35)).alloc (.cells nz2 37)) (w.heap.size+1+1) nz2:=aOwn;go_enter Tryz.func44,Tryz.ntmps44;go_wp2;generalize (((w.alloc (.cells #[.bool s1,.slice A1 n1 c1] 35)).alloc (.cells #[.bool s2,.slice A2 n2 c2] 35)).alloc (.cells nz2 37))=W0 at *;have K1:=Zh (G1.out.below hW);have K2:=Zh (G2.out.below hW);have hzW:=hW.size;refine region_late 14 [] aK aK (by rfl) ?_;apply Zs;refine ⟨fun v hv hne=>?_,fun u hu=>?_⟩
 ·simp only [TK];have d2:=fun y=>(o2.later (v:=v) (T:=[]) aS y).cell
  have d3:=fun y=>(o3.later (v:=v) (T:=[]) aS y).cell
  have L1:=fun x:Later [] W0 v=>NumAt.keeps K1.out x.h
  have L2:=fun x:Later [] W0 v=>NumAt.keeps K2.out x.h
  repeat (go_big_quiet_step ((first | (go_at_call 88; with_reducible exact lateB (ref_right (L1 _))) | (go_at_call 88; with_reducible exact lateB (ref_right (L2 _))) | (go_at_call 43; with_reducible exact lateB whole_zero) | (go_at_call 42; with_reducible exact lateB (ref_cmp0 (ordI_gt HY.out.1) (L2 _))))))
  refine wpQuiet_nil ?_;exact rfl
 simp only [TK];refine late_nil ?_
 (try simp only [LN])
 have hW1:=hW.trans (hu.mono hzW);have p2:=o2.below hu;have p3:=o3.below hu;have p4:=o4.below hu;have M1:=Zh (G1.out.below hW1);have M2:=Zh (G2.out.below hW1);have p2c:=p2.cell;have p3c:=p3.cell;clear o2 o3 o4 hW hzW hu K1 K2;go_wp2_with fail;obtain ⟨g,hg⟩:∃ g:Nat,Nat.gcd z1.natAbs z2.natAbs=g:=⟨_,rfl⟩;have hgz:g<=z2.natAbs:=by rw [<- hg]; exact Nat.le_of_dvd (by have:=HY.out.1; omega) (Nat.gcd_dvd_right _ _)
 have hg0:0<(g:Int):=by
  have:0<Nat.gcd z1.natAbs z2.natAbs:=Nat.gcd_pos_of_pos_right _ (by have:=HY.out.1; omega);omega
 have hge:easyD g:=by have:=HY.out.2.2.2.2; unfold easyD at this ⊢; omega
 have hgf:fits (g:Int)=true:=fits_small (by unfold easyD at hge; omega);have HD:Hid (z1 / (g:Int)=z/\z2 / (g:Int)=y/\(g:Int)∣z1/\(g:Int)∣z2):=Zh (by
  have e1:=HY.out.2.1;have e2:=HY.out.2.2.1;have h0:=HY.out.1;unfold ofN at e1;unfold ofD at e2;rw [if_neg aO,hg] at e1 e2;exact ⟨e1,e2,Int.ofNat_dvd_left.2 (by rw [<- hg]; exact Nat.gcd_dvd_left _ _),Int.ofNat_dvd_left.2 (by rw [<- hg]; exact Nat.gcd_dvd_right _ _)⟩)
 have q:=ref1_Gcd M1.out M2.out HY.out.2.2.2.1 HY.out.2.2.2.2;rw [hg] at q;unfold RetM at q;rw [hgf] at q;have HGF:=Zh (Zi hg0 (Zi hge hgf));clear hg hgf hg0 hge hgz;refine Zd q ?_;clear q;rintro e u1 ⟨⟨b,C,rfl,h3,h1,h2⟩,hb⟩;obtain ⟨A9,n9,c9,hsl⟩:=slC_form (g:Int) b C;simp only [numC];rw [hsl];have hk:=(Zb u1.heap.size u1).alloc (Zr _) (.cells #[.bool (sgnN g),.slice A9 n9 c9] 35);have r6:Own (u1.alloc (.cells #[.bool (sgnN g),.slice A9 n9 c9] 35)) u1.heap.size #[.bool (sgnN g),.slice A9 n9 c9]:=Own.new rfl;have hbk:=hb.trans (hk.mono hb.size);have hw1:=hW1.trans (hbk.mono hW1.size);have N1:=Zh ((NumC.at2 h3 HGF.out.2.2 hsl).below hk);have K1:=Zh (NumAt.below M1.out hbk);have K2:=Zh (NumAt.below M2.out hbk);replace p2:=p2.below hbk;replace p3:=p3.below hbk;replace p4:=p4.below hbk;clear h1 h2 h3 hb hk hsl hbk M1 M2 p2c p3c hW1;go_wp2;generalize (u1.alloc (.cells #[.bool (sgnN (g:Int)),.slice A9 n9 c9] 35))=u2 at *;have p4z:=p4.lt;refine region_gen (T:=[]) [.make 2 [] (numCB [] z),.make 5 [] (numCB [] y),.need 6 [2,5],.make 7 [] (ownB [] nz2 (fun p=>.pointer (some ⟨p,0,none⟩)))] 8 0 40 (fun _ _=>True) (fun _ _ _ _ _=>trivial) trivial aK aK (by rfl) ?_;have q_d2:=fun v y=>(p2.later (v:=v) (T:=[]) aS y).cell
 have q_d6:=fun v y=>(r6.later (v:=v) (T:=[]) aS y).cell
 unfold genWalk;refine ⟨_,pz1,?_⟩;refine one_of (by rfl) ⟨fun f=>⟨rfl,fun u hu _=>?_⟩,?_⟩
 ·refine make_call (f:=91) (args:=#[.agg #[.bool s1,.slice A1 n1 c1],.agg #[.bool (sgnN (g:Int)),.slice A9 n9 c9]]) (by (try simp only [LN]); (try simp only [VB1,numCB_val]); go_simp) ?_;have q:=ref3_over (w:=u) (NumAt.keeps K1.out hu) (NumAt.keeps N1.out hu) HY.out.2.2.2.1 HGF.out.2.1 HGF.out.1 HD.out.2.2.1;rw [HD.out.1] at q;refine q.mono ?_;rintro e wx ⟨⟨b,C,rfl,q1,q2,q3⟩,hbx⟩;exact ⟨(b,C),rfl,q2,q3,hbx,aS,q1⟩
 have q_d3:=fun v y=>(p3.later (v:=v) (T:=[]) aS y).cell
 have q_d6:=fun v y=>(r6.later (v:=v) (T:=[]) aS y).cell
 unfold genWalk;refine ⟨_,pz8,?_⟩;refine one_of (by rfl) ⟨fun f=>⟨rfl,fun u hu _=>?_⟩,?_⟩
 ·refine make_call (f:=91) (args:=#[.agg #[.bool s2,.slice A2 n2 c2],.agg #[.bool (sgnN (g:Int)),.slice A9 n9 c9]]) (by (try simp only [LN]); (try simp only [VB1,numCB_val]); go_simp) ?_;have q:=ref3_over (w:=u) (NumAt.keeps K2.out hu) (NumAt.keeps N1.out hu) HY.out.2.2.2.2 HGF.out.2.1 HGF.out.1 HD.out.2.2.2;rw [HD.out.2.1] at q;refine q.mono ?_;rintro e wx ⟨⟨b,C,rfl,q1,q2,q3⟩,hbx⟩;exact ⟨(b,C),rfl,q2,q3,hbx,aS,q1⟩
 unfold genWalk;refine ⟨_,pz8,?_⟩;unfold genWalk;refine ⟨_,pz21,?_⟩;refine one_of (by rfl) ⟨fun f=>⟨rfl,fun u hu _=>?_⟩,?_⟩
 ·refine make_own (e:=37) (by (try simp only [LN]); (try simp only [VB1,numCB_val]); go_simp) aS
 unfold genWalk;refine ⟨_,pz8,?_⟩;intro f u' hup hph hmade hdist;obtain ⟨⟨_,oN⟩,loN,hiN⟩:=hmade 2 aO rfl;obtain ⟨⟨_,oM⟩,loM,hiM⟩:=hmade 5 aO rfl;obtain ⟨⟨_,o3⟩,lo3,hi3⟩:=hmade 7 aO rfl;have hne1:=hdist 2 7 aO aO rfl rfl aO;have hne2:=hdist 5 7 aO aO rfl rfl aO;replace oN:NumC u' (f 2).1 (f 2).2 z:=oN;replace oM:NumC u' (f 5).1 (f 5).2 y:=oM;replace o3:Own u' (f 7).1 nz2:=o3;clear hmade hdist hph;simp only [TK,Nat.reduceSub,Nat.reduceAdd]
 (try simp only [LN])
 (try simp only [VB1,numCB_val,numC])
 generalize (f 2).1=b1 at *;generalize (f 2).2=C1 at *;generalize (f 5).1=b2 at *;generalize (f 5).2=C2 at *;generalize (f 7).1=b3 at *;clear f;have hwU:Below w.heap.size w u':=Upd.below hw1 hup aS;have q4:=p4.upd hup aS;have q3:=p3.upd hup aS;have hkT:=Upd.keeps (Keeps.refl _ _) hup;obtain ⟨A7,n7,c7,hs7⟩:=slC_form z b1 C1;obtain ⟨A8,n8,c8,hs8⟩:=slC_form y b2 C2;rw [hs7,hs8];have HSL:=Zh (Zi hs7 hs8);have o3c:=o3.cell;have o3f:=o3.thaw;have hB2:w.heap.size+1+1<b3:=aO
 have hB3:w.heap.size+1+1<b1:=aO
 have hB4:w.heap.size+1+1<b2:=aO
 clear hs7 hs8 p2 p3 p4 K1 r6 N1 p4z hup hw1;refine effc_mem (by rfl) (fun K hK=>?_);go_simp;refine hK _ _ ((((hkT.new lo3 _).new lo3 _).new lo3 _).new lo3 _) (fun u3 hu3=>?_);clear hK K;have hs3:=hu3.size;simp [World.setCell] at hs3;have hw2:=(((((hwU.setCell aT _).setCell aT _).setCell aT _).setCell aT _)).trans (hu3.mono (by simp [World.setCell]; exact hwU.size));have k3:=(((((o3.set 0 (.bool (sgnN z))).set 1 (.slice A7 n7 c7)).set 2 (.bool (sgnN y))).set 3 (.slice A8 n8 c8))).below hu3;have k4:=(((((q4.far aT _).far aT _).far aT _).far aT _)).below hu3;have k2:=(((((q3.far aT _).far aT _).far aT _).far aT _)).below hu3;have N1:=Zh (Zi hB3 (Zi (Zl hiN hs3) ((((((oN.far aT _).far aT _).far aT _).far aT _)).below hu3)));have N2:=Zh (Zi hB4 (Zi (Zl hiM hs3) ((((((oM.far aT _).far aT _).far aT _).far aT _)).below hu3)));have K4:=Zh (NumAt.keeps K2.out (Keeps.later ((((hkT.new lo3 _).new lo3 _).new lo3 _).new lo3 _) hu3));clear o3 o3c o3f q4 q3 oN oM hkT hu3 hwU K2;refine effc_nil ?_
 (try simp only [LN])
 go_wp2;have hz2:=hw2.size;refine region_late 4 [] aK aK (by rfl) ?_;apply Zs;refine ⟨fun v hv hne=>?_,fun u hu=>?_⟩
 ·simp only [TK];have d3:=fun y=>(k2.later (v:=v) (T:=[]) aS y).cell
  have L2:=fun x:Later [] u3 v=>NumAt.keeps K4.out x.h
  repeat (go_big_quiet_step ((first | (go_at_call 43; with_reducible exact lateB whole_zero) | (go_at_call 42; with_reducible exact lateB (ref_cmp0 (ordI_gt HY.out.1) (L2 _))))))
  refine wpQuiet_nil ?_;exact rfl
 simp only [TK];refine late_nil ?_
 (try simp only [LN])
 have hw3:=hw2.trans (hu.mono hz2);have j3:=k3.below hu;have j4:=k4.below hu;have J1:=Zh (Zi N1.out.1 (Zi (Zl N1.out.2.1 hu.size) (N1.out.2.2.below hu)));have J2:=Zh (Zi N2.out.1 (Zi (Zl N2.out.2.1 hu.size) (N2.out.2.2.below hu)));have j3c:=j3.cell;have j4c:=j4.cell;have j4f:=j4.thaw;clear k3 k4 k2 N1 N2 K4 hu hw2 hz2;go_wp2;refine retC (b:=w.heap.size+1+1) (v:= .tuple #[.agg #[(.bool (sgnN z)),(.slice A7 n7 c7),(.bool (sgnN y)),(.slice A8 n8 c8)],.bool true]) ((((j4.set 0 (.bool (sgnN z))).set 1 (.slice A7 n7 c7)).set 2 (.bool (sgnN y))).set 3 (.slice A8 n8 c8)) (fun w' hw'=>by simp [results,Tryz.results44,go_sem,hw']) rfl ⟨⟨b1,C1,b2,C2,by rw [ratC,HSL.out.1,HSL.out.2],((((J1.out.2.2.far aT _).far aT _).far aT _).far aT _),((((J2.out.2.2.far aT _).far aT _).far aT _).far aT _),aO,by have:=J1.out.2.1; simp [World.setCell]; omega,aO,by have:=J2.out.2.1; simp [World.setCell]; omega⟩,((((hw3.setCell aT _).setCell aT _).setCell aT _).setCell aT _)⟩
def firstF (l:List (Nat×Nat)):Nat:=l.foldl (fun f x=>if x.1=x.2/\x.1=f then f+1 else f) 0
theorem firstF_snoc (l:List (Nat×Nat)) (x:Nat×Nat):firstF (l++[x])=if x.1=x.2/\x.1=firstF l then firstF l+1 else firstF l:=by
 unfold firstF;rw [List.foldl_append];rfl
theorem foldF_le:∀ (l:List (Nat×Nat)) (f:Nat),l.foldl (fun f x=>if x.1=x.2/\x.1=f then f+1 else f) f<=f+l.length
 | [],f=>Zr _
 | x::l,f=>by
  rw [List.foldl_cons,List.length_cons];split
  ·have:=foldF_le l (f+1); omega
  ·have:=foldF_le l f; omega
theorem firstF_le (l:List (Nat×Nat)):firstF l<=l.length:=by have:=foldF_le l 0; unfold firstF; omega
def kernQ (x:Nat->QI) (f i:Nat):QI:=if i<f then subQ (0,1) (x i) else if i=f then (1,1) else (0,1)
def RatC (X:Nat->Prop) (w:World) (xs:List Value) (n:Nat) (Q:Nat->QI):Prop:=xs.length=n*4/\∀ i,i<n->∃ s1 A1 n1 c1 s2 A2 n2 c2,xs[i*4]?=some (.bool s1)/\xs[i*4+1]?=some (.slice A1 n1 c1)/\xs[i*4+2]?=some (.bool s2)/\xs[i*4+3]?=some (.slice A2 n2 c2)/\RatX X w s1 A1 n1 c1 s2 A2 n2 c2 (Q i).1 (Q i).2
theorem RatC.move {X Y:Nat->Prop} {w w':World} {xs:List Value} {n:Nat} {Q:Nat->QI} (h:RatC X w xs n Q) (hs:w.heap.size<=w'.heap.size) (hk:∀ b,b<w.heap.size->X b->w'.heap[b]?=w.heap[b]?/\Y b):RatC Y w' xs n Q:=
 ⟨h.1,fun i hi=>by
  obtain ⟨s1,A1,n1,c1,s2,A2,n2,c2,e1,e2,e3,e4,hr⟩:=h.2 i hi;exact ⟨s1,A1,n1,c1,s2,A2,n2,c2,e1,e2,e3,e4,hr.move hs hk⟩⟩
theorem RatC.snoc {X:Nat->Prop} {w:World} {xs:List Value} {n:Nat} {Q:Nat->QI} (h:RatC X w xs n Q) {s1 s2:Bool} {A1 A2:Option Addr} {n1 c1 n2 c2:Nat} (hr:RatX X w s1 A1 n1 c1 s2 A2 n2 c2 (Q n).1 (Q n).2):RatC X w (xs++[.bool s1,.slice A1 n1 c1,.bool s2,.slice A2 n2 c2]) (n+1) Q:=
 ⟨by simp [h.1]; omega,fun i hi=>by
  by_cases e:i=n
  ·subst e;refine ⟨s1,A1,n1,c1,s2,A2,n2,c2,?_,?_,?_,?_,hr⟩
   ·rw [List.getElem?_append_right (by rw [h.1]; omega),h.1,show i*4 - i*4=0 by omega]; rfl
   ·rw [List.getElem?_append_right (by rw [h.1]; omega),h.1,show i*4+1 - i*4=1 by omega]; rfl
   ·rw [List.getElem?_append_right (by rw [h.1]; omega),h.1,show i*4+2 - i*4=2 by omega]; rfl
   ·rw [List.getElem?_append_right (by rw [h.1]; omega),h.1,show i*4+3 - i*4=3 by omega]; rfl
  ·obtain ⟨t1,B1,m1,d1,t2,B2,m2,d2,e1,e2,e3,e4,hr⟩:=h.2 i aO;refine ⟨t1,B1,m1,d1,t2,B2,m2,d2,?_,?_,?_,?_,hr⟩
   ·rw [List.getElem?_append_left (by rw [h.1]; omega)]; exact e1
   ·rw [List.getElem?_append_left (by rw [h.1]; omega)]; exact e2
   ·rw [List.getElem?_append_left (by rw [h.1]; omega)]; exact e3
   ·rw [List.getElem?_append_left (by rw [h.1]; omega)]; exact e4⟩
theorem RatsO.owns {W:World} {b:Nat} {x:Nat->QI} {n base:Nat} (h:RatsO W b x 0 n) (hb:base<=b) (hn:n<=1000):∃ xs,W.ownsRow base 37 4 (.slice (some ⟨b,0,none⟩) n n) n xs/\RatC (fun y=>y≠b) W xs n x:=by
 obtain ⟨cs,ho,hz,hc⟩:=h;refine ⟨cs.toList,⟨by simp [hz],.inr ⟨b,n,cs,rfl,hb,ho,Zr _,by unfold maxLen; omega,hz,List.take_of_length_le (by simp [hz])⟩⟩,by simp [hz],fun i hi=>?_⟩;obtain ⟨s1,A1,n1,c1,s2,A2,n2,c2,e1,e2,e3,e4,hr⟩:=hc i aO hi;exact ⟨s1,A1,n1,c1,s2,A2,n2,c2,by rw [Array.getElem?_toList]; exact e1,by rw [Array.getElem?_toList]; exact e2,by rw [Array.getElem?_toList]; exact e3,by rw [Array.getElem?_toList]; exact e4,hr⟩
theorem ratsA_of {X:Nat->Prop} {W:World} {base:Nat} {e:TypeId} {v:Value} {n:Nat} {xs:List Value} {Q:Nat->QI} (h:W.ownsRow base e 4 v n xs) (hr:RatC X W xs n Q):∃ A c,v = .slice A n c/\RatsA W A n Q:=by
 rcases h.2 with ⟨rfl,h0⟩ | ⟨g,cap,cur,rfl,h1,h2,h3,h4,h5,h6⟩
 ·subst h0;exact ⟨none,0,rfl,fun h=>aO⟩
 ·refine ⟨_,cap,rfl,fun h0=>⟨g,0,rfl,?_,fun i hi=>?_⟩⟩
  ·rcases Nat.lt_or_ge g W.heap.size with hl | hl
   ·exact hl
   ·rw [Array.getElem?_eq_none hl] at h2; cases h2
  ·obtain ⟨s1,A1,n1,c1,s2,A2,n2,c2,e1,e2,e3,e4,hr⟩:=hr.2 i hi;have key:∀ j x,xs[j]?=some x->W.cell? ⟨g,j,none⟩=some x:=fun j x hx=>by
    rw [cell_of_row W g j cur e (0,0) h2];rw [<- h6,List.getElem?_take] at hx;split at hx
    ·rw [<- Array.getElem?_toList]; exact hx
    ·cases hx
   refine ⟨s1,A1,n1,c1,s2,A2,n2,c2,?_,?_,?_,?_,hr.2.2.1,hr.2.2.2⟩
   ·rw [Nat.zero_add]; exact key _ _ e1
   ·rw [Nat.zero_add]; exact key _ _ e2
   ·rw [Nat.zero_add]; exact key _ _ e3
   ·rw [Nat.zero_add]; exact key _ _ e4
def ratVB (T:List Nat) (B:Nat) (z y:Int):EBS T where
 val p:=ratV z y p.1 p.2
 R p u:=p.1∉T/\p.2∉T/\NumO u p.1 z/\NumO u p.2 y/\B<=p.2/\p.2<u.heap.size
 st _ _ _ h k:=⟨h.1,h.2.1,fun h1 h2=>(h.2.2.1 h1 h2).upd k h.1,fun h1 h2=>(h.2.2.2.1 h1 h2).upd k h.2.1,h.2.2.2.2.1,Zl h.2.2.2.2.2 k.size⟩
theorem VB4:(∀ (T:List Nat) (B:Nat) (z y:Int) (p:Nat×Nat),(ratVB T B z y).val p=ratV z y p.1 p.2)/\(∀ (T:List Nat) (z:Int) (p:Nat×Nat),(prodB T z).val p=prodV z p.1)/\(∀ (T:List Nat) (B:Nat) (z y:Int) (p:Nat×Nat),(ratB T B z y).val p = .tuple #[ratV z y p.1 p.2,.bool true])/\(∀ (T:List Nat) (z:Int) (p:Nat×Nat),(valB T z).val p=numV z p.1)/\(∀ (T:List Nat) (N:Nat) (p:Nat×Nat),(newB T N).val p = .slice (some ⟨p.1,0,none⟩) (digs N).length p.2)/\(∀ (T:List Nat) (z:Int) (p:Nat×Nat),(numB T z).val p = .tuple #[numV z p.1,.bool (fits z)])/\∀ (T:List Nat) (cs:Array Value) (v:Nat->Value) (p:Nat×Nat),(ownB T cs v).val p=v p.1:=⟨fun _ _ _ _ _=>rfl,VB3⟩
def FineK (M:List (List Int)) (x:Nat->QI) (f:Nat):Prop:=
 matCheck M=0->FineL (sysL M [] M.length) (cols M) (cols M)/\(f<cols M->BackQ (runB ⟨sysL M [] M.length,1,0⟩ (cols M)).L x f f/\WholeQ (kernQ x f) (cols M))
def kernF (M:List (List Int)):Nat:=firstF (leadsB ⟨sysL M [] M.length,1,0⟩ (cols M))
end Go.Proofs.YtflgngjocgiojaaGreat
