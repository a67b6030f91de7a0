import Derived.Test.YtflolbnnkbdmfaaGreatNumU
set_option linter.all false
namespace Go.Proofs.YtflolbnnkbdmfaaGreat
open Go.RowKit
set_option maxHeartbeats 8000000
set_option maxRecDepth 100000
def digOf:Option Value->Nat
 | some (.int .u32 d)=>d.toNat
 | _=>0
def slVal (w:World):Value->Nat
 | .slice (some a) n _=>vD ((List.range n).map fun i=>digOf (w.cell? ⟨a.block,a.off+i,none⟩))
 | _=>0
theorem SlD.val {w:World} {v:Value} {M:Nat} (h:SlD w v M):slVal w v=M:=by
 obtain ⟨A,n,c,rfl,h1,h2,h3⟩:=h;rcases Nat.eq_zero_or_pos n with h0 | h0
 ·subst h0;have e:digs M=[]:=List.eq_nil_of_length_eq_zero h3.len;rw [digs_nil.1 e];cases A <;> rfl
 ·obtain ⟨b,off,rfl,hb,hc⟩:=h3.row h0;unfold slVal;have e:((List.range n).map fun i=>digOf (w.cell? ⟨b,off+i,none⟩))=digs M:=by
   refine List.ext_getElem (by simp [h3.len]) (fun i g1 g2=>?_);simp at g1;rw [List.getElem_map,List.getElem_range,hc i g1,<- dAt_in g2];simp [digOf]
  show vD ((List.range n).map fun i=>digOf (w.cell? ⟨b,off+i,none⟩))=M;rw [e,digs_val]
theorem num_Gcd {w:World} {v1 v2:Value} {z1 z2:Int} (h1:NumAt w v1 z1) (h2:NumAt w v2 z2):Calls Tryz.prog 118 #[v1,v2] w (RetN w (Nat.gcd z1.natAbs z2.natAbs:Nat)):=by
 obtain ⟨z,hz⟩:=Zx (((Nat.gcd z1.natAbs z2.natAbs:Nat):Int));rw [hz];obtain ⟨r1,k1⟩:=h1.raw;obtain ⟨r2,k2⟩:=h2.raw;obtain ⟨A1,n1,c1,rfl,hc1,hm1,hl1,d1⟩:=h1;obtain ⟨A2,n2,c2,rfl,hc2,hm2,hl2,d2⟩:=h2;obtain ⟨s1,hs1⟩:=Zx (decide (z1<0));obtain ⟨s2,hs2⟩:=Zx (decide (z2<0));rw [hs1] at r1 k1 ⊢;rw [hs2] at r2 k2 ⊢;have H:=Zh (Zi hz (Zi hs1 hs2));have D1:=Zh d1;have D2:=Zh d2;have R1:=Zh (Zi r1 k1);have R2:=Zh (Zi r2 k2);clear hz hs1 hs2 d1 d2 r1 k1 r2 k2;go_enter Tryz.func118,Tryz.ntmps118;have hW:=((((Zb w.heap.size w).alloc (Zr _) (.cells #[.bool s1,.slice A1 n1 c1] 40)).alloc aS (.cells #[.bool s2,.slice A2 n2 c2] 40)).alloc aT (.cells nz1 40));go_wp2_with fail;have o3:Own (((w.alloc (.cells #[.bool s1,.slice A1 n1 c1] 40)).alloc (.cells #[.bool s2,.slice A2 n2 c2] 40)).alloc (.cells nz1 40)) w.heap.size #[.bool s1,.slice A1 n1 c1]:=aOwn;have o4:Own (((w.alloc (.cells #[.bool s1,.slice A1 n1 c1] 40)).alloc (.cells #[.bool s2,.slice A2 n2 c2] 40)).alloc (.cells nz1 40)) (w.heap.size+1) #[.bool s2,.slice A2 n2 c2]:=aOwn;have o6:Own (((w.alloc (.cells #[.bool s1,.slice A1 n1 c1] 40)).alloc (.cells #[.bool s2,.slice A2 n2 c2] 40)).alloc (.cells nz1 40)) (w.heap.size+1+1) nz1:=aOwn;generalize (((w.alloc (.cells #[.bool s1,.slice A1 n1 c1] 40)).alloc (.cells #[.bool s2,.slice A2 n2 c2] 40)).alloc (.cells nz1 40))=W0 at *;refine Zd (right_ok ⟨R1.out.1.below hW,R1.out.2⟩) ?_;rintro e u1 ⟨rfl,hb1⟩;have hz0:=hW.size;have hW1:=hW.trans (hb1.mono hz0);have p3:=o3.below hb1;have p4:=o4.below hb1;have p6:=o6.below hb1;clear o3 o4 o6 hb1;have p4c:=p4.cell;go_wp2_with fail;refine Zd (right_ok ⟨R2.out.1.below hW1,R2.out.2⟩) ?_;rintro e u2 ⟨rfl,hb2⟩;have hz1:=hW1.size;have hWW:=hW1.trans (hb2.mono hz1);replace p3:=p3.below hb2;replace p4:=p4.below hb2;replace p6:=p6.below hb2;clear p4c hb2 hW1;have X1:=Zh (D1.out.below hWW);have X2:=Zh (D2.out.below hWW);have hzW:=hWW.size;clear D1 D2 R1 R2 hz0 hz1 hW;go_wp2;refine region_late 4 [] aK aK (by rfl) ?_;apply Zs;refine ⟨fun v hv hne=>?_,fun u hu=>?_⟩
 ·simp only [TK];have d3:=fun y=>(p3.later (v:=v) (T:=[]) aS y).cell
  have d4:=fun y=>(p4.later (v:=v) (T:=[]) aS y).cell
  exact qz
 simp only [TK];refine late_mem (fun K hK=>?_);go_simp;refine hK _ _ (Keeps.of_below hu) (fun u3 hu3=>?_);clear hK K;replace hu:=hu.trans (hu3.mono hu.size);clear hu3;refine late_mem (fun K hK=>?_);go_simp;refine hK _ _ (Keeps.of_below hu) (fun u4 hu4=>?_);clear hK K;replace hu:=hu.trans (hu4.mono hu.size);replace hWW:=hWW.trans (hu.mono hzW);replace p6:=p6.below hu;have S1:SlD u4 (.slice A1 n1 c1) z1.natAbs:=⟨A1,n1,c1,rfl,hc1,hm1,X1.out.below hu⟩;have S2:SlD u4 (.slice A2 n2 c2) z2.natAbs:=⟨A2,n2,c2,rfl,hc2,hm2,X2.out.below hu⟩;obtain ⟨z1a,hz1a⟩:=Zx (z1.natAbs);obtain ⟨z2a,hz2a⟩:=Zx (z2.natAbs);have hB1:z1a<4294967296^64:=by rw [<- hz1a]; exact digs_len.1 (by rw [X1.out.len]; exact hl1)
 have hB2:z2a<4294967296^64:=by rw [<- hz2a]; exact digs_len.1 (by rw [X2.out.len]; exact hl2)
 have HH:=H.out.1;rw [hz1a] at S1 HH;rw [hz2a] at S2 HH;have HG:=Zh (Zi HH (Zi hB1 hB2));clear hz1a hz2a HH hB1 hB2 H X1 X2 hu hu4 p3 p4;generalize Value.slice A1 n1 c1=V1 at *;generalize Value.slice A2 n2 c2=V2 at *;refine late_nil ?_
 (try simp only [LN])
 go_wp2;go_loopw [6,7] (fun x y wr=>∃ (a b:Nat),((Nat.gcd a b:Nat):Int)=z/\a<4294967296^64/\b<4294967296^64/\SlD wr x a/\SlD wr y b/\Below w.heap.size w wr/\Own wr (w.heap.size+1+1) nz1) (fun _ y wr=>slVal wr y)
 case atStart=>exact ⟨z1a,z2a,HG.out.1,HG.out.2.1,HG.out.2.2,S1,S2,hWW,p6⟩
 case round =>
  clear hWW p6 S1 S2 HG;obtain ⟨a,b,hg,ha,hb,hx,hy,hW5,q6⟩:=hrel;have HY:=Zh hy;obtain ⟨A7,n7,c7,rfl,l7,m7,d7⟩:=hx;obtain ⟨A8,n8,c8,rfl,l8,m8,d8⟩:=hy;have hn7:n7<=64:=by rw [<- d7.len]; exact digs_len.2 ha
  have hn8:n8<=64:=by rw [<- d8.len]; exact digs_len.2 hb
  have D7:=Zh d7;have D8:=Zh d8;have HG:=Zh (Zi hg (Zi ha hb));have hz5:=hW5.size;have q6z:=q6.lt;clear hg ha hb d7 d8;obtain ⟨mx,hmx⟩:∃ mx:Nat,max n7 n8=mx:=⟨_,rfl⟩;have hmxi:max (n7:Int) (n8:Int)=(mx:Int):=aO
  have HMX:=Zh hmx;clear hmx;rcases Nat.eq_zero_or_pos n8 with h0 | h0
  ·subst h0;have HZ:Hid (z=sg false a):=Zh (by
    have e:b=0:=digs_nil.1 (List.eq_nil_of_length_eq_zero D8.out.len);rw [<- HG.out.1,e,Nat.gcd_zero_right];rfl)
   by_cases hm2:2<mx
   ·go_wp2_with fail;refine Zd (D7.out.number (z:=z) c7 l7 m7 (by rw [digs_val]; exact HZ.out.symm)) ?_;rintro e w9 ⟨⟨b9,rfl,hb1,hb2,hb3⟩,hb4⟩;have hbB:=hW5.trans (hb4.mono hz5);have r6:=q6.below hb4;have r6c:=r6.cell;have r6f:=r6.thaw;have HB:=Zh (Zi hb1 (Zi hb2 hb3));clear q6 hb1 hb2 hb3 hb4;obtain ⟨A9,n9,c9,hsl⟩:=slN_form z b9;simp only [numV];rw [hsl];have HSL:=Zh hsl;clear hsl;go_wp2;refine retC (b:=w.heap.size+1+1) (v:= .tuple #[.agg #[.bool (sgnN z),.slice A9 n9 c9],.bool (fits z)]) ((r6.set 0 _).set 1 _) (fun w' hw'=>by simp [results,Tryz.results118,go_sem,hw']) rfl ⟨⟨b9,by rw [numV,HSL.out],Zm hz5 HB.out.1,by simp; exact HB.out.2.1,(HB.out.2.2.far (by simp; have:=HB.out.1; omega) _).far (by simp; have:=HB.out.1; omega) _⟩,(hbB.setCell aT _).setCell aT _⟩
   ·go_wp2_with fail;refine Zd (D7.out.number (z:=z) c7 l7 m7 (by rw [digs_val]; exact HZ.out.symm)) ?_;rintro e w9 ⟨⟨b9,rfl,hb1,hb2,hb3⟩,hb4⟩;have hbB:=hW5.trans (hb4.mono hz5);have r6:=q6.below hb4;have r6c:=r6.cell;have r6f:=r6.thaw;have HB:=Zh (Zi hb1 (Zi hb2 hb3));clear q6 hb1 hb2 hb3 hb4;obtain ⟨A9,n9,c9,hsl⟩:=slN_form z b9;simp only [numV];rw [hsl];have HSL:=Zh hsl;clear hsl;go_wp2;refine retC (b:=w.heap.size+1+1) (v:= .tuple #[.agg #[.bool (sgnN z),.slice A9 n9 c9],.bool (fits z)]) ((r6.set 0 _).set 1 _) (fun w' hw'=>by simp [results,Tryz.results118,go_sem,hw']) rfl ⟨⟨b9,by rw [numV,HSL.out],Zm hz5 HB.out.1,by simp; exact HB.out.2.1,(HB.out.2.2.far (by simp; have:=HB.out.1; omega) _).far (by simp; have:=HB.out.1; omega) _⟩,(hbB.setCell aT _).setCell aT _⟩
  ·have h0n:¬ (n8:Int)=0:=aO
   by_cases hm2:2<mx
   ·have hm2i:(2:Int)<(mx:Int):=aO
    have hb0:0<b:=by
     apply Classical.byContradiction;intro h;have e:b=0:=aO
     have:=D8.out.len;rw [e] at this;simp [digs_zero] at this;omega
    have HB0:=Zh hb0;clear hb0;go_wp2_with fail;refine Zd (mag_over c7 c8 D7.out D8.out aO aO l7 m7 HB0.out) ?_;rintro e w5 ⟨⟨x1,x2,rfl,e1,e2⟩,hb5⟩;have hY5:=Zh (HY.out.below hb5);have hW6:=hW5.trans (hb5.mono hz5);have q7:=q6.below hb5;have E2:=Zh e2;clear e1 e2;go_wp2;go_roundw
    case rel=>exact ⟨b,a%b,by rw [<- HG.out.1,Nat.gcd_comm b (a%b),<- Nat.gcd_rec,Nat.gcd_comm],HG.out.2.2,Nat.lt_trans (Nat.mod_lt _ HB0.out) HG.out.2.2,hY5.out,E2.out,hW6,q7⟩
    case measure=>rw [E2.out.val,HY.out.val]; exact Nat.mod_lt _ HB0.out
   ·have hm2i:¬ (2:Int)<(mx:Int):=aO
    have hs7:n7<=2:=by have:=HMX.out; omega
    have hs8:n8<=2:=by have:=HMX.out; omega
    have ha2:a<18446744073709551616:=by
     have:=digs_len.1 (show (digs a).length<=2 by rw [D7.out.len]; exact hs7);omega
    have hb2:b<18446744073709551616:=by
     have:=digs_len.1 (show (digs b).length<=2 by rw [D8.out.len]; exact hs8);omega
    have HAB:=Zh (Zi ha2 hb2);clear ha2 hb2;go_wp2_with fail;have qq:=mag_word (w:=wr) c7 D7.out hs7 l7 m7;rw [digs_val] at qq;refine Zd qq ?_;clear qq;rintro e w5 ⟨rfl,hb5⟩;have D8b:=Zh (D8.out.below hb5);go_wp2_with fail;have qq:=mag_word (w:=w5) c8 D8b.out hs8 l8 m8;rw [digs_val] at qq;refine Zd qq ?_;clear qq;rintro e w6 ⟨rfl,hb6⟩;have hW6:=(hW5.trans (hb5.mono hz5)).trans (hb6.mono (by have:=hb5.size; omega));have r6:=(q6.below hb5).below hb6;clear hb5 hb6 q6 q6z hW5 hz5 HY D7 D8 D8b hm2 hm2i h0 h0n hmxi HMX l7 m7 l8 m8 hn7 hn8 hs7 hs8;generalize Value.slice A7 n7 c7=V7 at *;generalize Value.slice A8 n8 c8=V8 at *;go_wp2;go_loopw [10,11] (fun x y wr=>∃ (n m:Nat),x = .int .u64 n/\y = .int .u64 m/\((Nat.gcd n m:Nat):Int)=z/\n<18446744073709551616/\m<18446744073709551616/\Below w.heap.size w wr/\Own wr (w.heap.size+1+1) nz1) (fun _ y _=>(intOf y).toNat)
    case atStart=>exact ⟨a,b,rfl,rfl,HG.out.1,HAB.out.1,HAB.out.2,hW6,r6⟩
    case round =>
     clear hW6 r6 HG HAB;obtain ⟨n,m,rfl,rfl,hg,hn,hm,hW7,q7⟩:=hrel;have HG:=Zh hg;have hz7:=hW7.size;clear hg;rcases Nat.eq_zero_or_pos m with h0 | h0
     ·subst h0;obtain ⟨lo,hlo⟩:=Zx (n%4294967296);obtain ⟨hi,hhi⟩:=Zx (n / 4294967296);have hlo1:lo<4294967296:=aO
      have hhi1:hi<4294967296:=aO
      have hc1:IntKind.u32.wrap (n:Int)=(lo:Int):=by rw [IntKind.wrap_u32]; omega
      have hc2:(n:Int) / 4294967296=(hi:Int):=aO
      have hc3:IntKind.u32.wrap (hi:Int)=(hi:Int):=by rw [IntKind.wrap_u32]; omega
      have hbA:=(Zb wr.heap.size wr).alloc (Zr _) (.cells #[.int .u32 lo,.int .u32 hi] 230);have hW5:=hW7.trans (hbA.mono hz7);have q6:=q7.below hbA;have oD:OwnD (wr.alloc (.cells #[.int .u32 lo,.int .u32 hi] 230)) wr.heap.size [lo,hi]:=Own.new rfl;have hD:=oD.digs (fun d hd=>by
       simp at hd;rcases hd with rfl | rfl <;> assumption)
      have HD:=Zh hD;have HZ:Hid (sg false (vD [lo,hi])=z):=Zh (by
       rw [vD_cons,vD_cons,vD_nil,Nat.mul_zero,Nat.add_zero,<- HG.out,Nat.gcd_zero_right];unfold sg;simp;omega)
      have hz5:=hW5.size;have q6z:=q6.lt;clear oD hD hlo hhi hbA;go_wp2_with fail;generalize (wr.alloc (.cells #[.int .u32 lo,.int .u32 hi] 230))=W9 at *;refine Zd (HD.out.number (z:=z) 2 (Zr _) aO HZ.out) ?_;rintro e w9 ⟨⟨b9,rfl,hb1,hb2,hb3⟩,hb4⟩;have hbB:=hW5.trans (hb4.mono hz5);have r6:=q6.below hb4;have r6c:=r6.cell;have r6f:=r6.thaw;have HB:=Zh (Zi hb1 (Zi hb2 hb3));clear q6 hb1 hb2 hb3 hb4;obtain ⟨A9,n9,c9,hsl⟩:=slN_form z b9;simp only [numV];rw [hsl];have HSL:=Zh hsl;clear hsl;go_wp2;refine retC (b:=w.heap.size+1+1) (v:= .tuple #[.agg #[.bool (sgnN z),.slice A9 n9 c9],.bool (fits z)]) ((r6.set 0 _).set 1 _) (fun w' hw'=>by simp [results,Tryz.results118,go_sem,hw']) rfl ⟨⟨b9,by rw [numV,HSL.out],Zm hz5 HB.out.1,by simp; exact HB.out.2.1,(HB.out.2.2.far (by simp; have:=HB.out.1; omega) _).far (by simp; have:=HB.out.1; omega) _⟩,(hbB.setCell aT _).setCell aT _⟩
     ·obtain ⟨r,hr⟩:=Zx (n%m);have hr1:Int.tmod (n:Int) (m:Int)=(r:Int):=by rw [<- hr]; exact (Int.ofNat_tmod n m).symm
      have hr2:(n:Int)%(m:Int)=(r:Int):=by rw [<- hr]; exact (Int.natCast_emod n m).symm
      have hrm:r<m:=by rw [<- hr]; exact Nat.mod_lt _ h0
      have HR:=Zh hr;clear hr;go_wp2;refine region_late 4 [] aK aK (by rfl) ?_;apply Zs;refine ⟨fun v hv hne=>?_,fun u hu=>?_⟩
      ·simp only [TK];exact qz
      simp only [TK];refine late_mem (fun K hK=>?_);go_simp;refine hK _ _ (Keeps.of_below hu) (fun u3 hu3=>?_);clear hK K;replace hu:=hu.trans (hu3.mono hu.size);clear hu3;refine late_mem (fun K hK=>?_);go_simp;refine hK _ _ (Keeps.of_below hu) (fun u4 hu4=>?_);clear hK K;replace hu:=hu.trans (hu4.mono hu.size);have hW8:=hW7.trans (hu.mono hz7);have q8:=q7.below hu;refine late_nil ?_
      (try simp only [LN])
      go_wp2;go_roundw
      case rel=>exact ⟨m,r,rfl,rfl,by rw [<- HG.out,<- HR.out,Nat.gcd_comm m (n%m),<- Nat.gcd_rec,Nat.gcd_comm],hm,aO,hW8,q8⟩
      case measure=>simp [intOf]; omega
def RetV (w:World) (z:Int) (r:Ending) (w':World):Prop:=(∃ b,r = .returned (numV z b)/\NumO w' b z/\w.heap.size<=b/\b<w'.heap.size)/\Below w.heap.size w w'
theorem of_val {w:World} (n:Int) (h1:-9223372036854775808<=n) (h2:n<=9223372036854775807):Calls Tryz.prog 109 #[.int .i64 n] w (RetV w n):=num_Of n h1 h2
theorem ratio_zero {w:World}:Calls Tryz.prog 108 #[] w fun r w'=>r = .returned zeroN/\Below w.heap.size w w':=by
 have hW:=(Zb w.heap.size w).alloc (Zr _) (.cells nz1 40);have o2:Own (w.alloc (.cells nz1 40)) w.heap.size nz1:=aOwn;have hz:=hW.size;go_enter Tryz.func108,Tryz.ntmps108;go_wp2_with fail;refine Zd (num_Of 0 aO aO) ?_;rintro e u1 ⟨⟨b,rfl,_,_,_⟩,hb⟩;have e0:numV 0 b = .agg nz1:=rfl;rw [e0];have hw:=hW.trans (hb.mono hz);have p2:=o2.below hb;have p2c:=p2.cell;have p2f:=p2.thaw;clear e0 hb;go_wp2;refine retC (b:=w.heap.size) (v:=zeroN) ((p2.set 0 _).set 1 _) (fun w' hw'=>by simp [results,Tryz.results108,go_sem,hw',zeroN]) rfl ⟨rfl,(hw.setCell aS _).setCell aS _⟩
theorem ratio_one {w:World}:Calls Tryz.prog 110 #[] w (RetV w 1):=by
 have hW:=(Zb w.heap.size w).alloc (Zr _) (.cells nz1 40);have o2:Own (w.alloc (.cells nz1 40)) w.heap.size nz1:=aOwn;have hz:=hW.size;go_enter Tryz.func110,Tryz.ntmps110;go_wp2_with fail;refine Zd (num_Of 1 aO aO) ?_;rintro e u1 ⟨⟨b,rfl,h1,h2,h3⟩,hb⟩;have hw:=hW.trans (hb.mono hz);have p2:=o2.below hb;have p2c:=p2.cell;have p2f:=p2.thaw;have HB:=Zh (Zi (Zl o2.lt h2) (Zi h3 h1));clear hb h1 h2 h3;obtain ⟨A9,n9,c9,hsl⟩:=slN_form 1 b;simp only [numV];rw [hsl];have HSL:=Zh hsl;clear hsl;go_wp2;refine retC (b:=w.heap.size) (v:= .agg #[.bool (sgnN 1),.slice A9 n9 c9]) ((p2.set 0 _).set 1 _) (fun w' hw'=>by simp [results,Tryz.results110,go_sem,hw']) rfl ⟨⟨b,by rw [numV,HSL.out],(HB.out.2.2.far (by simp; have:=HB.out.1; omega) _).far (by simp; have:=HB.out.1; omega) _,by have:=HB.out.1; omega,by simp; exact HB.out.2.1⟩,(hw.setCell aS _).setCell aS _⟩
theorem ratio_quotient {w:World} {v1 v2:Value} {z1 z2:Int} (h1:NumAt w v1 z1) (h2:NumAt w v2 z2) (h0:z2≠0):Calls Tryz.prog 115 #[v1,v2] w (RetV w (z1 / z2)):=by
 obtain ⟨z,hz⟩:=Zx (z1 / z2);rw [hz];have G1:=Zh h1;have G2:=Zh h2;obtain ⟨r1,k1⟩:=h1.raw;obtain ⟨r2,k2⟩:=h2.raw;obtain ⟨A1,n1,c1,rfl,hc1,hm1,hl1,d1⟩:=h1;obtain ⟨A2,n2,c2,rfl,hc2,hm2,hl2,d2⟩:=h2;obtain ⟨s1,hs1⟩:=Zx (decide (z1<0));obtain ⟨s2,hs2⟩:=Zx (decide (z2<0));rw [hs1] at r1 k1 G1 ⊢;rw [hs2] at r2 k2 G2 ⊢;have H:=Zh (Zi hz (Zi hs1 hs2));clear hz hs1 hs2 d1 d2 r1 k1 r2 k2;go_enter Tryz.func115,Tryz.ntmps115;have hW:=((((Zb w.heap.size w).alloc (Zr _) (.cells #[.bool s1,.slice A1 n1 c1] 40)).alloc aS (.cells #[.bool s2,.slice A2 n2 c2] 40)).alloc aT (.cells nz1 40));go_wp2_with fail;have o6:Own (((w.alloc (.cells #[.bool s1,.slice A1 n1 c1] 40)).alloc (.cells #[.bool s2,.slice A2 n2 c2] 40)).alloc (.cells nz1 40)) (w.heap.size+1+1) nz1:=aOwn;generalize (((w.alloc (.cells #[.bool s1,.slice A1 n1 c1] 40)).alloc (.cells #[.bool s2,.slice A2 n2 c2] 40)).alloc (.cells nz1 40))=W0 at *;have q:=num_Div (G1.out.below hW) (G2.out.below hW) h0;rw [H.out.1] at q;refine Zd q ?_;rintro e u1 ⟨⟨b,b2,rfl,g1,g2,g3,g4,g5,g6⟩,hb⟩;obtain ⟨A9,n9,c9,hsl⟩:=slN_form z b;obtain ⟨A0,n0,c0,hsl2⟩:=slN_form (z1%z2) b2;simp only [numV];rw [hsl,hsl2];obtain ⟨s9,hs9⟩:=Zx (sgnN (z1%z2));rw [hs9];have HSL:=Zh hsl;have hk:=((Zb u1.heap.size u1).alloc (Zr _) (.cells #[.bool (sgnN z),.slice A9 n9 c9] 40)).alloc aS (.cells #[.bool s9,.slice A0 n0 c0] 40);have hbz:=hb.size;have HB:=Zh (Zi (Zl o6.lt g3) (Zi g5 (g1.below hk)));have hw:=hW.trans ((hb.trans (hk.mono hbz)).mono hW.size);have p2:=(o6.below hb).below hk;have p2c:=p2.cell;have p2f:=p2.thaw;clear hsl hsl2 hs9 g1 g2 g3 g4 g5 g6 hk hb;go_wp2;refine retC (b:=w.heap.size+1+1) (v:= .agg #[.bool (sgnN z),.slice A9 n9 c9]) ((p2.set 0 _).set 1 _) (fun w' hw'=>by simp [results,Tryz.results115,go_sem,hw']) rfl ⟨⟨b,by rw [numV,HSL.out],(HB.out.2.2.far (by simp; have:=HB.out.1; omega) _).far (by simp; have:=HB.out.1; omega) _,by have:=HB.out.1; omega,by have:=HB.out.2.1; simp; omega⟩,(hw.setCell aT _).setCell aT _⟩
theorem NumAt.keeps {w u:World} {v:Value} {z:Int} (h:NumAt w v z) (hk:Keeps [] w u):NumAt u v z:=by
 obtain ⟨A,n,c,e,h1,h2,h3,h4⟩:=h;exact ⟨A,n,c,e,h1,h2,h3,h4.keeps hk⟩
theorem ratio_minus {w:World} {v1:Value} {z1:Int} (h1:NumAt w v1 z1):Calls Tryz.prog 111 #[v1] w (RetV w (-z1)):=by
 obtain ⟨z,hz⟩:=Zx (-z1);rw [hz];have G1:=Zh h1;have HZ:=Zh hz;obtain ⟨A1,n1,c1,rfl,hc1,hm1,hl1,d1⟩:=h1;obtain ⟨s1,hs1⟩:=Zx (decide (z1<0));rw [hs1] at G1 ⊢;clear hz hs1 d1;have hW:=((Zb w.heap.size w).alloc (Zr _) (.cells #[.bool s1,.slice A1 n1 c1] 40)).alloc aS (.cells nz1 40);have o1:Own ((w.alloc (.cells #[.bool s1,.slice A1 n1 c1] 40)).alloc (.cells nz1 40)) w.heap.size #[.bool s1,.slice A1 n1 c1]:=aOwn;have o2:Own ((w.alloc (.cells #[.bool s1,.slice A1 n1 c1] 40)).alloc (.cells nz1 40)) (w.heap.size+1) nz1:=aOwn;go_enter Tryz.func111,Tryz.ntmps111;go_wp2;generalize ((w.alloc (.cells #[.bool s1,.slice A1 n1 c1] 40)).alloc (.cells nz1 40))=W0 at *;have o2l:=o2.lt;refine region_gen (T:=[]) [.make 2 [] (numB _ z),.need 3 [2],.need 5 [],.make 6 [] (ownB [] nz1 (fun p=>.pointer (some ⟨p,0,none⟩)))] 7 0 40 (fun _ _=>True) (fun _ _ _ _ _=>trivial) trivial aK aK (by rfl) ?_;unfold genWalk;apply Zs;apply Zi
 ·apply Piece.mk
  ·intro f v hv hr hne;simp only [TK,Nat.reduceSub,Nat.reduceAdd];have d1:=fun y=>(o1.later (v:=v) (T:=[]) aS y).cell
   repeat (go_big_quiet_step ((go_at_call 108; with_reducible exact lateB ratio_zero)))
   refine wpQuiet_nil ?_;exact rfl
  ·intro f; kernel_rfl
  ·intro f f' hf; kernel_rfl
 refine one_of (by rfl) ⟨fun f=>⟨rfl,fun u hu _=>?_⟩,?_⟩
 ·refine make_call (f:=190) (args:=#[zeroN,.agg #[.bool s1,.slice A1 n1 c1]]) gA1 ?_;have q:=num_Sub (w:=u) (num_zero u) (G1.out.keeps (Keeps.of_below hW |>.more hu aS));rw [Int.zero_sub,HZ.out] at q;refine q.mono ?_;rintro e wx ⟨⟨b,rfl,q1,q2,q3⟩,hbx⟩;exact ⟨(b,0),rfl,q1,q2,hbx,aS,q3⟩
 unfold genWalk;refine ⟨_,pz6,?_⟩;unfold genWalk;refine ⟨_,pz6,?_⟩;unfold genWalk;refine ⟨_,pz6,?_⟩;refine one_of (by rfl) ⟨fun f=>⟨rfl,fun u hu _=>?_⟩,?_⟩
 ·refine make_own (e:=40) gA1 aS
 unfold genWalk;refine ⟨_,pz6,?_⟩;intro f u' hup hph hmade hdist;obtain ⟨⟨_,oN⟩,loN,hiN⟩:=hmade 2 aO rfl;obtain ⟨⟨_,o3⟩,lo3,hi3⟩:=hmade 6 aO rfl;have hne:=hdist 2 6 aO aO rfl rfl aO;replace oN:NumO u' (f 2).1 z:=oN;replace o3:Own u' (f 6).1 nz1:=o3;clear hmade hdist hph;simp only [TK,Nat.reduceSub,Nat.reduceAdd]
 (try simp only [LN])
 (try simp only [VB1])
 generalize (f 2).1=b9 at *;generalize (f 6).1=b3 at *;clear f;have hw1:Below w.heap.size w u':=Upd.below hW hup aS;have p2:=o2.upd hup aS;have hkT:=Upd.keeps (Keeps.refl _ _) hup;obtain ⟨A9,n9,c9,hsl⟩:=slN_form z b9;simp only [numV];rw [hsl];have HSL:=Zh hsl;clear hsl o1 o2;have o3c:=o3.cell;have o3f:=o3.thaw;refine effc_mem (by rfl) (fun K hK=>?_);go_simp;refine hK _ _ ((hkT.new lo3 _).new lo3 _) (fun u1 hu1=>?_);clear hK K;have hs1:=hu1.size;simp [World.setCell] at hs1;have hw2:=((hw1.setCell aT _).setCell aT _).trans (hu1.mono (by simp [World.setCell]; exact hw1.size));have k3:=((o3.set 0 (.bool (sgnN z))).set 1 (.slice A9 n9 c9)).below hu1;have k2:=((p2.far aT _).far aT _).below hu1;have N1:=Zh (Zi (Zl o2l loN) (Zi (Zl hiN hs1) (((oN.far aT _).far aT _).below hu1)));have hk1:=((hkT.new lo3 (.bool (sgnN z)) (p:=⟨b3,0,none⟩)).new lo3 (.slice A9 n9 c9) (p:=⟨b3,1,none⟩)).later hu1;clear o3c o3f o3 p2 oN hkT hu1;refine effc_mem (by rfl) (fun K hK=>?_);go_simp;refine hK _ _ hk1 (fun u2 hu2=>?_);clear hK K;refine effc_nil ?_
 (try simp only [LN])
 have hw3:=hw2.trans (hu2.mono hw2.size);have j3:=k3.below hu2;have j2:=k2.below hu2;have j3c:=j3.cell;have j2c:=j2.cell;have j2f:=j2.thaw;have N2:=Zh (Zi N1.out.1 (Zi (Zl N1.out.2.1 hu2.size) (N1.out.2.2.below hu2)));clear k3 k2 hk1 hu2 N1;go_wp2;refine retC (b:=w.heap.size+1) (v:= .agg #[.bool (sgnN z),.slice A9 n9 c9]) ((j2.set 0 _).set 1 _) (fun w' hw'=>by simp [results,Tryz.results111,go_sem,hw']) rfl ⟨⟨b9,by rw [numV,HSL.out],(N2.out.2.2.far (by simp; have:=N2.out.1; omega) _).far (by simp; have:=N2.out.1; omega) _,by have:=N2.out.1; omega,by have:=N2.out.2.1; simp; omega⟩,(hw3.setCell aS _).setCell aS _⟩
theorem ratio_right2 {w:World} {b:Nat} {s1 s2:Bool} {A1 A2:Option Addr} {n1 n2 c1 c2:Nat} {z1 z2:Int} (o:Own w b #[.bool s1,.slice A1 n1 c1,.bool s2,.slice A2 n2 c2]) (h1:NumAt w (.agg #[.bool s1,.slice A1 n1 c1]) z1) (h2:NumAt w (.agg #[.bool s2,.slice A2 n2 c2]) z2) :
 Calls Tryz.prog 117 #[.slice (some ⟨b,0,none⟩) 2 2] w fun r w'=>r = .returned (.bool true)/\Below w.heap.size w w':=by
 have G1:=Zh h1;have G2:=Zh h2;clear h1 h2;have hW:=Zb w.heap.size w;go_enter Tryz.func117,Tryz.ntmps117;go_wp2;go_loopw [7] (fun i wr=>∃ k:Nat,k<=2/\i = .int .i64 k/\Below w.heap.size w wr) (fun i _=>2 - (intOf i).toNat)
 case atStart=>exact ⟨0,aO,rfl,hW⟩
 case round =>
  clear hW;obtain ⟨k,hk,rfl,hW⟩:=hrel;have p:=o.below hW;have hz:=hW.size;have pc:=p.cell;have H1:=Zh (NumAt.below G1.out hW);have H2:=Zh (NumAt.below G2.out hW)
  by_cases h2:k=2
  ·subst h2;go_wp2;go_ret;exact ⟨rfl,hW⟩
  ·by_cases h0:k=0
   ·subst h0;have hA:=(Zb wr.heap.size wr).alloc (Zr _) (.cells #[.bool s1,.slice A1 n1 c1] 40);have hWA:=hW.trans (hA.mono hz);have R:=Zh (NumAt.raw (NumAt.below H1.out hA));go_wp2_with fail;have q:=num_Right R.out.1;rw [R.out.2] at q;refine Zd q ?_;clear q;rintro e u ⟨rfl,hb⟩;have hWB:=hWA.trans (hb.mono hWA.size);go_wp2;go_roundw
    case rel=>exact ⟨0+1,aO,by go_num,hWB⟩
    case measure=>simp [intOf]
   ·obtain rfl:k=1:=aO
    have hA:=(Zb wr.heap.size wr).alloc (Zr _) (.cells #[.bool s2,.slice A2 n2 c2] 40);have hWA:=hW.trans (hA.mono hz);have R:=Zh (NumAt.raw (NumAt.below H2.out hA));go_wp2_with fail;have q:=num_Right R.out.1;rw [R.out.2] at q;refine Zd q ?_;clear q;rintro e u ⟨rfl,hb⟩;have hWB:=hWA.trans (hb.mono hWA.size);go_wp2;go_roundw
    case rel=>exact ⟨1+1,aO,by go_num,hWB⟩
    case measure=>simp [intOf]
def RatAt (w:World) (v:Value) (p q:Int):Prop:=∃ s1 A1 n1 c1 s2 A2 n2 c2,v = .agg #[.bool s1,.slice A1 n1 c1,.bool s2,.slice A2 n2 c2]/\NumAt w (.agg #[.bool s1,.slice A1 n1 c1]) p/\NumAt w (.agg #[.bool s2,.slice A2 n2 c2]) q
def goodQ (p q:Int):Bool:=decide (0<q)&&(Nat.gcd p.natAbs q.natAbs==1)
theorem cmp_zero {w:World} {v1:Value} {z1 o:Int} (ho:ordI z1 0=o) (h1:NumAt w v1 z1):Calls Tryz.prog 107 #[v1,zeroN] w fun r w'=>r = .returned (.int .i64 o)/\Below w.heap.size w w':=by
 have q:=num_Cmp h1 (num_zero w);rw [ho] at q;exact q
theorem one_fits:fits 1=true:=fits_small (by decide)
theorem cmp_one {w:World} {v1 v2:Value} {z1 o:Int} (ho:ordI z1 1=o) (h1:NumAt w v1 z1) (h2:NumAt w v2 1):Calls Tryz.prog 107 #[v1,v2] w fun r w'=>r = .returned (.int .i64 o)/\Below w.heap.size w w':=by
 have q:=num_Cmp h1 h2;rw [ho] at q;exact q
def valB (T:List Nat) (z:Int):EBS T where
 val p:=numV z p.1
 R p u:=p.1∉T/\NumO u p.1 z
 st _ _ _ h k:=⟨h.1,fun h1 h2=>(h.2 h1 h2).upd k h.1⟩
theorem valB_val {T:List Nat} {z:Int} {p:Nat×Nat}:(valB T z).val p=numV z p.1:=rfl
theorem VB2:(∀ (T:List Nat) (z:Int) (p:Nat×Nat),(valB T z).val p=numV z p.1)/\(∀ (T:List Nat) (N:Nat) (p:Nat×Nat),(newB T N).val p = .slice (some ⟨p.1,0,none⟩) (digs N).length p.2)/\(∀ (T:List Nat) (z:Int) (p:Nat×Nat),(numB T z).val p = .tuple #[numV z p.1,.bool (fits z)])/\∀ (T:List Nat) (cs:Array Value) (v:Nat->Value) (p:Nat×Nat),(ownB T cs v).val p=v p.1:=⟨fun _ _ _=>rfl,VB1⟩
theorem ratio_Right {w:World} {v1:Value} {p q:Int} (h:RatAt w v1 p q):Calls Tryz.prog 43 #[v1] w fun r w'=>r = .returned (.bool (goodQ p q))/\Below w.heap.size w w':=by
 obtain ⟨ok,hok⟩:=Zx (goodQ p q);rw [hok];obtain ⟨s1,A1,n1,c1,s2,A2,n2,c2,rfl,h1,h2⟩:=h;have G1:=Zh h1;have G2:=Zh h2;have HOK:=Zh hok;clear h1 h2 hok;have hW:=(Zb w.heap.size w).alloc (Zr _) (.cells #[.bool s1,.slice A1 n1 c1,.bool s2,.slice A2 n2 c2] 42);have o1:Own (w.alloc (.cells #[.bool s1,.slice A1 n1 c1,.bool s2,.slice A2 n2 c2] 42)) w.heap.size #[.bool s1,.slice A1 n1 c1,.bool s2,.slice A2 n2 c2]:=aOwn;have hord:=ordI_range q 0;obtain ⟨o,ho⟩:=Zx (ordI q 0);rw [ho] at hord;have HO:=Zh (Zi ho hord);clear ho hord;go_enter Tryz.func43,Tryz.ntmps43;go_wp2;generalize (w.alloc (.cells #[.bool s1,.slice A1 n1 c1,.bool s2,.slice A2 n2 c2] 42))=W0 at *;refine region_gen (T:=[]) [.make 4 [] (ownB [] #[.bool s1,.slice A1 n1 c1,.bool s2,.slice A2 n2 c2] (fun p=>.slice (some ⟨p,0,none⟩) 2 2)),.need 5 [4],.need 6 []] 14 0 40 (fun _ _=>True) (fun _ _ _ _ _=>trivial) trivial aK aK (by rfl) ?_;have q_d1:=fun v y=>(o1.later (v:=v) (T:=[]) aS y).cell
 unfold genWalk;refine ⟨_,pz1,?_⟩;refine one_of (by rfl) ⟨fun f=>⟨rfl,fun u hu _=>?_⟩,?_⟩
 ·refine make_own (e:=40) gA1 aS
 unfold genWalk;refine ⟨_,pz6,?_⟩;unfold genWalk;apply Zs;apply Zi
 ·apply Piece.mk
  ·intro f v hv hr hne;simp only [TK,Nat.reduceSub,Nat.reduceAdd]
   (try simp only [LN])
   (try simp only [VB1])
   have h4:Own v (f 4).1 #[.bool s1,.slice A1 n1 c1,.bool s2,.slice A2 n2 c2]:=(hr 4 aS).2;have k4:=fun x:Later [] W0 v=>Own.below h4 x.g
   have L1:=fun x:Later [] W0 v=>NumAt.keeps (G1.out.below hW) x.h
   have L2:=fun x:Later [] W0 v=>NumAt.keeps (G2.out.below hW) x.h
   repeat (go_big_quiet_step ((go_at_call 117; with_reducible exact lateB (ratio_right2 (k4 _) (L1 _) (L2 _)))))
   refine wpQuiet_nil ?_;exact rfl
  ·intro f; kernel_rfl
  ·intro f f' hf; first | (simp; done) | (simp [hf 4 aS])
 unfold genWalk;apply Zs;apply Zi
 ·apply Piece.mk
  ·intro f v hv hr hne;simp only [TK,Nat.reduceSub,Nat.reduceAdd]
   (try simp only [LN])
   (try simp only [VB1])
   have d1:=fun y=>(o1.later (v:=v) (T:=[]) aS y).cell
   have L2:=fun x:Later [] W0 v=>NumAt.keeps (G2.out.below hW) x.h
   repeat (go_big_quiet_step (first | (go_at_call 108; with_reducible exact lateB ratio_zero) | (go_at_call 107; with_reducible exact lateB (cmp_zero HO.out.1 (L2 _)))))
   refine wpQuiet_nil ?_;exact rfl
  ·intro f; kernel_rfl
  ·intro f f' hf; simp
 intro f u' hup hph hmade hdist;refine effc_nil ?_;simp only [TK,Nat.reduceSub,Nat.reduceAdd]
 (try simp only [LN])
 (try simp only [VB1])
 clear hmade hdist hph;have hwU:Below w.heap.size w u':=Upd.below hW hup aS;have o9:=o1.upd hup aS;have M1:=Zh (NumAt.keeps (G1.out.below hW) (Upd.keeps (Keeps.refl _ _) hup));have M2:=Zh (NumAt.keeps (G2.out.below hW) (Upd.keeps (Keeps.refl _ _) hup));generalize (f 4).1=b4 at *;clear f hup o1 hW;have hzU:=hwU.size;have o9c:=o9.cell
 by_cases hle:o<=0
 ·go_wp2;go_ret;refine ⟨?_,hwU⟩;have e1:=HO.out.1;have e2:¬ 0<q:=fun h=>by rw [ordI_gt aO] at e1; omega
  have e3:=HOK.out;unfold goodQ at e3;rw [decide_eq_false e2] at e3;rw [<- e3];rfl
 ·go_wp2_with fail;have hq0:0<q:=by
   have e1:=HO.out.1;apply Classical.byContradiction;intro h;have e2:o<=0:=by
    rcases Int.lt_trichotomy q 0 with h2 | h2 | h2
    ·rw [ordI_lt h2] at e1; omega
    ·rw [h2,ordI_eq] at e1; omega
    ·exact absurd h2 h
   omega
  have HQ0:=Zh hq0;clear hq0;obtain ⟨g,hg⟩:∃ g:Nat,Nat.gcd p.natAbs q.natAbs=g:=⟨_,rfl⟩;have hgf:fits (g:Int)=true:=fits_le (b:=q) (by rw [<- hg]; exact Nat.le_of_dvd (by have:=HQ0.out; omega) (Nat.gcd_dvd_right _ _)) (NumAt.fits M2.out);have qq:=num_Gcd M1.out M2.out;rw [hg] at qq;have HGF:=Zh (Zi hg hgf);clear hg hgf;refine Zd qq ?_;clear qq;rintro e u1 ⟨⟨b,rfl,h1,h2,h3⟩,hb⟩;rw [HGF.out.2];have hk:=(Zb u1.heap.size u1).alloc (Zr _) (.cells #[.bool (sgnN g),slN g b] 40);have o3:Own (u1.alloc (.cells #[.bool (sgnN g),slN g b] 40)) u1.heap.size #[.bool (sgnN g),slN g b]:=Own.new rfl;have hw1:=hwU.trans ((hb.trans (hk.mono hb.size)).mono hzU);have N1:=Zh (NumO.at_ (NumO.below h3 hk) HGF.out.2);obtain ⟨A9,n9,c9,hsl⟩:=slN_form g b;simp only [numV] at N1 ⊢;rw [hsl] at o3 N1 hk hw1 ⊢;clear h1 h2 h3 hb hk hsl o9 o9c;go_wp2;generalize (u1.alloc (.cells #[.bool (sgnN (g:Int)),.slice A9 n9 c9] 40))=u2 at *;obtain ⟨r,hr⟩:=Zx (ordI (g:Int) 1);have HR:=Zh hr;clear hr;refine region_gen (T:=[]) [.make 1 [] (valB _ 1),.need 2 [1],.need 3 []] 4 0 40 (fun _ _=>True) (fun _ _ _ _ _=>trivial) trivial aK aK (by rfl) ?_;have q_d3:=fun v y=>(o3.later (v:=v) (T:=[]) aS y).cell
  unfold genWalk;refine ⟨_,pz1,?_⟩;refine one_of (by rfl) ⟨fun f=>⟨rfl,fun u hu _=>?_⟩,?_⟩
  ·refine make_call (f:=110) (args:=#[]) gA0 ?_;refine Zd (ratio_one (w:=u)) ?_;rintro e wx ⟨⟨b,rfl,q1,q2,q3⟩,hbx⟩;exact ⟨(b,0),rfl,q2,q3,hbx,aS,q1⟩
  unfold genWalk;refine ⟨_,pz19,?_⟩;unfold genWalk;apply Zs;apply Zi
  ·apply Piece.mk
   ·intro f v hv hr hne;simp only [TK,Nat.reduceSub,Nat.reduceAdd]
    (try simp only [LN])
    (try simp only [valB_val])
    have h1:NumO v (f 1).1 1:=(hr 1 aS).2;have k1:=fun x:Later [] u2 v=>NumO.at_ (NumO.below h1 x.g) one_fits
    have K1:=fun x:Later [] u2 v=>NumAt.keeps N1.out x.h
    repeat (go_big_quiet_step ((go_at_call 107; with_reducible exact lateB (cmp_one HR.out (K1 _) (k1 _)))))
    refine wpQuiet_nil ?_;exact rfl
   ·intro f; kernel_rfl
   ·intro f f' hf; first | (simp; done) | (simp [hf 1 aS])
  unfold genWalk;refine ⟨_,pz19,?_⟩;intro f u3 hup hph hmade hdist;simp only [TK,Nat.reduceSub,Nat.reduceAdd]
  (try simp only [LN])
  clear hmade hdist hph;refine effc_mem (by rfl) (fun K hK=>?_);go_simp;refine hK _ _ (Upd.keeps (Keeps.refl _ _) hup) (fun u4 hu4=>?_);clear hK K;refine effc_nil ?_
  (try simp only [LN])
  have hw4:Below w.heap.size w u4:=(Upd.below hw1 hup aS).trans (hu4.mono (Upd.below hw1 hup aS).size);clear hup hu4;go_wp2;go_ret;refine ⟨?_,hw4⟩;have e3:=HOK.out;unfold goodQ at e3;rw [decide_eq_true HQ0.out,Bool.true_and,HGF.out.1] at e3;have e4:(r==0)=(g==1):=by
   rw [<- HR.out];rcases Nat.lt_trichotomy g 1 with h | h | h
   ·obtain rfl:g=0:=aO
    rfl
   ·rw [h]; rfl
   ·rw [ordI_gt aO];exact (beq_eq_false_iff_ne.2 (show g≠1 by omega)).symm
  show Ending.returned (.bool (r==0))=_;rw [e4,e3]
theorem RatAt.below {w w':World} {v:Value} {p q:Int} (h:RatAt w v p q) (hb:Below w.heap.size w w'):RatAt w' v p q:=by
 obtain ⟨s1,A1,n1,c1,s2,A2,n2,c2,e,h1,h2⟩:=h;exact ⟨s1,A1,n1,c1,s2,A2,n2,c2,e,h1.below hb,h2.below hb⟩
theorem ratio_Sign {w:World} {v1:Value} {p q:Int} (h:RatAt w v1 p q) (hg:goodQ p q=true):Calls Tryz.prog 37 #[v1] w fun r w'=>r = .returned (.int .i64 (ordI p 0))/\Below w.heap.size w w':=by
 obtain ⟨o,ho⟩:=Zx (ordI p 0);rw [ho];have H:=Zh h;obtain ⟨s1,A1,n1,c1,s2,A2,n2,c2,rfl,h1,h2⟩:=h;have G1:=Zh h1;have HO:=Zh (Zi ho hg);clear h1 h2 ho hg;have hW:=(Zb w.heap.size w).alloc (Zr _) (.cells #[.bool s1,.slice A1 n1 c1,.bool s2,.slice A2 n2 c2] 42);have o1:Own (w.alloc (.cells #[.bool s1,.slice A1 n1 c1,.bool s2,.slice A2 n2 c2] 42)) w.heap.size #[.bool s1,.slice A1 n1 c1,.bool s2,.slice A2 n2 c2]:=aOwn;go_enter Tryz.func37,Tryz.ntmps37;go_wp2_with fail;generalize (w.alloc (.cells #[.bool s1,.slice A1 n1 c1,.bool s2,.slice A2 n2 c2] 42))=W0 at *;have qq:=ratio_Right (H.out.below hW);rw [HO.out.2] at qq;refine Zd qq ?_;clear qq;rintro e u1 ⟨rfl,hb⟩;have hw1:=hW.trans (hb.mono hW.size);have o2:=o1.below hb;have K1:=Zh (G1.out.below hw1);clear hb o1 hW;go_wp2;refine region_late 4 [] aK aK (by rfl) ?_;apply Zs;refine ⟨fun v hv hne=>?_,fun u hu=>?_⟩
 ·simp only [TK];have d1:=fun y=>(o2.later (v:=v) (T:=[]) aS y).cell
  have L1:=fun x:Later [] u1 v=>NumAt.keeps K1.out x.h
  repeat (go_big_quiet_step (first | (go_at_call 108; with_reducible exact lateB ratio_zero) | (go_at_call 107; with_reducible exact lateB (cmp_zero HO.out.1 (L1 _)))))
  refine wpQuiet_nil ?_;exact rfl
 simp only [TK];refine late_mem (fun K hK=>?_);go_simp;refine hK _ _ (Keeps.of_below hu) (fun u3 hu3=>?_);clear hK K;refine late_nil ?_
 (try simp only [LN])
 have hw3:=(hw1.trans (hu.mono hw1.size)).trans (hu3.mono (by have:=hu.size; have:=hw1.size; omega));go_wp2;go_ret;exact ⟨rfl,hw3⟩
end Go.Proofs.YtflolbnnkbdmfaaGreat
