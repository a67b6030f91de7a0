import Derived.Test.YtflgngjocgiojaaGreatNumU
set_option linter.all false
namespace Go.Proofs.YtflgngjocgiojaaGreat
open Go.RowKit
set_option maxHeartbeats 8000000
set_option maxRecDepth 100000
def digOf:Option Value->Nat
 | some (.int .u32 d)=>d.toNat
 | _=>0
def slVal (w:World):Value->Nat
 | .slice (some a) n _=>vD ((List.range n).map fun i=>digOf (w.cell? ⟨a.block,a.off+i,none⟩))
 | _=>0
theorem SlD.val {w:World} {v:Value} {M:Nat} (h:SlD w v M):slVal w v=M:=by
 obtain ⟨A,n,c,rfl,h1,h2,h3⟩:=h;rcases Nat.eq_zero_or_pos n with h0 | h0
 ·subst h0;have e:digs M=[]:=List.eq_nil_of_length_eq_zero h3.len;rw [digs_nil.1 e];cases A <;> rfl
 ·obtain ⟨b,off,rfl,hb,hc⟩:=h3.row h0;unfold slVal;have e:((List.range n).map fun i=>digOf (w.cell? ⟨b,off+i,none⟩))=digs M:=by
   refine List.ext_getElem (by simp [h3.len]) (fun i g1 g2=>?_);simp at g1;rw [List.getElem_map,List.getElem_range,hc i g1,<- dAt_in g2];simp [digOf]
  show vD ((List.range n).map fun i=>digOf (w.cell? ⟨b,off+i,none⟩))=M;rw [e,digs_val]
theorem num_Gcd {w:World} {v1 v2:Value} {z1 z2:Int} (h1:NumAt w v1 z1) (h2:NumAt w v2 z2):Calls Tryz.prog 23 #[v1,v2] w (RetN w (Nat.gcd z1.natAbs z2.natAbs:Nat)):=by
 obtain ⟨z,hz⟩:=Zx (((Nat.gcd z1.natAbs z2.natAbs:Nat):Int));rw [hz];obtain ⟨r1,k1⟩:=h1.raw;obtain ⟨r2,k2⟩:=h2.raw;obtain ⟨A1,n1,c1,rfl,hc1,hm1,hl1,d1⟩:=h1;obtain ⟨A2,n2,c2,rfl,hc2,hm2,hl2,d2⟩:=h2;obtain ⟨s1,hs1⟩:=Zx (decide (z1<0));obtain ⟨s2,hs2⟩:=Zx (decide (z2<0));rw [hs1] at r1 k1 ⊢;rw [hs2] at r2 k2 ⊢;have H:=Zh (Zi hz (Zi hs1 hs2));have D1:=Zh d1;have D2:=Zh d2;have R1:=Zh (Zi r1 k1);have R2:=Zh (Zi r2 k2);clear hz hs1 hs2 d1 d2 r1 k1 r2 k2;go_enter Tryz.func23,Tryz.ntmps23;have hW:=((((Zb w.heap.size w).alloc (Zr _) (.cells #[.bool s1,.slice A1 n1 c1] 35)).alloc aS (.cells #[.bool s2,.slice A2 n2 c2] 35)).alloc aT (.cells nz1 35));go_wp2_with fail;have o3:Own (((w.alloc (.cells #[.bool s1,.slice A1 n1 c1] 35)).alloc (.cells #[.bool s2,.slice A2 n2 c2] 35)).alloc (.cells nz1 35)) w.heap.size #[.bool s1,.slice A1 n1 c1]:=aOwn;have o4:Own (((w.alloc (.cells #[.bool s1,.slice A1 n1 c1] 35)).alloc (.cells #[.bool s2,.slice A2 n2 c2] 35)).alloc (.cells nz1 35)) (w.heap.size+1) #[.bool s2,.slice A2 n2 c2]:=aOwn;have o6:Own (((w.alloc (.cells #[.bool s1,.slice A1 n1 c1] 35)).alloc (.cells #[.bool s2,.slice A2 n2 c2] 35)).alloc (.cells nz1 35)) (w.heap.size+1+1) nz1:=aOwn;generalize (((w.alloc (.cells #[.bool s1,.slice A1 n1 c1] 35)).alloc (.cells #[.bool s2,.slice A2 n2 c2] 35)).alloc (.cells nz1 35))=W0 at *;refine Zd (right_ok ⟨R1.out.1.below hW,R1.out.2⟩) ?_;rintro e u1 ⟨rfl,hb1⟩;have hz0:=hW.size;have hW1:=hW.trans (hb1.mono hz0);have p3:=o3.below hb1;have p4:=o4.below hb1;have p6:=o6.below hb1;clear o3 o4 o6 hb1;have p4c:=p4.cell;go_wp2_with fail;refine Zd (right_ok ⟨R2.out.1.below hW1,R2.out.2⟩) ?_;rintro e u2 ⟨rfl,hb2⟩;have hz1:=hW1.size;have hWW:=hW1.trans (hb2.mono hz1);replace p3:=p3.below hb2;replace p4:=p4.below hb2;replace p6:=p6.below hb2;clear p4c hb2 hW1;have X1:=Zh (D1.out.below hWW);have X2:=Zh (D2.out.below hWW);have hzW:=hWW.size;clear D1 D2 R1 R2 hz0 hz1 hW;go_wp2;refine region_late 4 [] aK aK (by rfl) ?_;apply Zs;refine ⟨fun v hv hne=>?_,fun u hu=>?_⟩
 ·simp only [TK];have d3:=fun y=>(p3.later (v:=v) (T:=[]) aS y).cell
  have d4:=fun y=>(p4.later (v:=v) (T:=[]) aS y).cell
  exact qz
 simp only [TK];refine late_mem (fun K hK=>?_);go_simp;refine hK _ _ (Keeps.of_below hu) (fun u3 hu3=>?_);clear hK K;replace hu:=hu.trans (hu3.mono hu.size);clear hu3;refine late_mem (fun K hK=>?_);go_simp;refine hK _ _ (Keeps.of_below hu) (fun u4 hu4=>?_);clear hK K;replace hu:=hu.trans (hu4.mono hu.size);replace hWW:=hWW.trans (hu.mono hzW);replace p6:=p6.below hu;have S1:SlD u4 (.slice A1 n1 c1) z1.natAbs:=⟨A1,n1,c1,rfl,hc1,hm1,X1.out.below hu⟩;have S2:SlD u4 (.slice A2 n2 c2) z2.natAbs:=⟨A2,n2,c2,rfl,hc2,hm2,X2.out.below hu⟩;obtain ⟨z1a,hz1a⟩:=Zx (z1.natAbs);obtain ⟨z2a,hz2a⟩:=Zx (z2.natAbs);have hB1:z1a<4294967296^64:=by rw [<- hz1a]; exact digs_len.1 (by rw [X1.out.len]; exact hl1)
 have hB2:z2a<4294967296^64:=by rw [<- hz2a]; exact digs_len.1 (by rw [X2.out.len]; exact hl2)
 have HH:=H.out.1;rw [hz1a] at S1 HH;rw [hz2a] at S2 HH;have HG:=Zh (Zi HH (Zi hB1 hB2));clear hz1a hz2a HH hB1 hB2 H X1 X2 hu hu4 p3 p4;generalize Value.slice A1 n1 c1=V1 at *;generalize Value.slice A2 n2 c2=V2 at *;refine late_nil ?_
 (try simp only [LN])
 go_wp2;go_loopw [6,7] (fun x y wr=>∃ (a b:Nat),((Nat.gcd a b:Nat):Int)=z/\a<4294967296^64/\b<4294967296^64/\SlD wr x a/\SlD wr y b/\Below w.heap.size w wr/\Own wr (w.heap.size+1+1) nz1) (fun _ y wr=>slVal wr y)
 case atStart=>exact ⟨z1a,z2a,HG.out.1,HG.out.2.1,HG.out.2.2,S1,S2,hWW,p6⟩
 case round =>
  clear hWW p6 S1 S2 HG;obtain ⟨a,b,hg,ha,hb,hx,hy,hW5,q6⟩:=hrel;have HY:=Zh hy;obtain ⟨A7,n7,c7,rfl,l7,m7,d7⟩:=hx;obtain ⟨A8,n8,c8,rfl,l8,m8,d8⟩:=hy;have hn7:n7<=64:=by rw [<- d7.len]; exact digs_len.2 ha
  have hn8:n8<=64:=by rw [<- d8.len]; exact digs_len.2 hb
  have D7:=Zh d7;have D8:=Zh d8;have HG:=Zh (Zi hg (Zi ha hb));have hz5:=hW5.size;have q6z:=q6.lt;clear hg ha hb d7 d8;obtain ⟨mx,hmx⟩:∃ mx:Nat,max n7 n8=mx:=⟨_,rfl⟩;have hmxi:max (n7:Int) (n8:Int)=(mx:Int):=aO
  have HMX:=Zh hmx;clear hmx;rcases Nat.eq_zero_or_pos n8 with h0 | h0
  ·subst h0;have HZ:Hid (z=sg false a):=Zh (by
    have e:b=0:=digs_nil.1 (List.eq_nil_of_length_eq_zero D8.out.len);rw [<- HG.out.1,e,Nat.gcd_zero_right];rfl)
   by_cases hm2:2<mx
   ·go_wp2_with fail;refine Zd (D7.out.number (z:=z) c7 l7 m7 (by rw [digs_val]; exact HZ.out.symm)) ?_;rintro e w9 ⟨⟨b9,rfl,hb1,hb2,hb3⟩,hb4⟩;have hbB:=hW5.trans (hb4.mono hz5);have r6:=q6.below hb4;have r6c:=r6.cell;have r6f:=r6.thaw;have HB:=Zh (Zi hb1 (Zi hb2 hb3));clear q6 hb1 hb2 hb3 hb4;obtain ⟨A9,n9,c9,hsl⟩:=slN_form z b9;simp only [numV];rw [hsl];have HSL:=Zh hsl;clear hsl;go_wp2;refine retC (b:=w.heap.size+1+1) (v:= .tuple #[.agg #[.bool (sgnN z),.slice A9 n9 c9],.bool (fits z)]) ((r6.set 0 _).set 1 _) (fun w' hw'=>by simp [results,Tryz.results23,go_sem,hw']) rfl ⟨⟨b9,by rw [numV,HSL.out],Zm hz5 HB.out.1,by simp; exact HB.out.2.1,(HB.out.2.2.far (by simp; have:=HB.out.1; omega) _).far (by simp; have:=HB.out.1; omega) _⟩,(hbB.setCell aT _).setCell aT _⟩
   ·go_wp2_with fail;refine Zd (D7.out.number (z:=z) c7 l7 m7 (by rw [digs_val]; exact HZ.out.symm)) ?_;rintro e w9 ⟨⟨b9,rfl,hb1,hb2,hb3⟩,hb4⟩;have hbB:=hW5.trans (hb4.mono hz5);have r6:=q6.below hb4;have r6c:=r6.cell;have r6f:=r6.thaw;have HB:=Zh (Zi hb1 (Zi hb2 hb3));clear q6 hb1 hb2 hb3 hb4;obtain ⟨A9,n9,c9,hsl⟩:=slN_form z b9;simp only [numV];rw [hsl];have HSL:=Zh hsl;clear hsl;go_wp2;refine retC (b:=w.heap.size+1+1) (v:= .tuple #[.agg #[.bool (sgnN z),.slice A9 n9 c9],.bool (fits z)]) ((r6.set 0 _).set 1 _) (fun w' hw'=>by simp [results,Tryz.results23,go_sem,hw']) rfl ⟨⟨b9,by rw [numV,HSL.out],Zm hz5 HB.out.1,by simp; exact HB.out.2.1,(HB.out.2.2.far (by simp; have:=HB.out.1; omega) _).far (by simp; have:=HB.out.1; omega) _⟩,(hbB.setCell aT _).setCell aT _⟩
  ·have h0n:¬ (n8:Int)=0:=aO
   by_cases hm2:2<mx
   ·have hm2i:(2:Int)<(mx:Int):=aO
    have hb0:0<b:=by
     apply Classical.byContradiction;intro h;have e:b=0:=aO
     have:=D8.out.len;rw [e] at this;simp [digs_zero] at this;omega
    have HB0:=Zh hb0;clear hb0;go_wp2_with fail;refine Zd (mag_over c7 c8 D7.out D8.out aO aO l7 m7 HB0.out) ?_;rintro e w5 ⟨⟨x1,x2,rfl,e1,e2⟩,hb5⟩;have hY5:=Zh (HY.out.below hb5);have hW6:=hW5.trans (hb5.mono hz5);have q7:=q6.below hb5;have E2:=Zh e2;clear e1 e2;go_wp2;go_roundw
    case rel=>exact ⟨b,a%b,by rw [<- HG.out.1,Nat.gcd_comm b (a%b),<- Nat.gcd_rec,Nat.gcd_comm],HG.out.2.2,Nat.lt_trans (Nat.mod_lt _ HB0.out) HG.out.2.2,hY5.out,E2.out,hW6,q7⟩
    case measure=>rw [E2.out.val,HY.out.val]; exact Nat.mod_lt _ HB0.out
   ·have hm2i:¬ (2:Int)<(mx:Int):=aO
    have hs7:n7<=2:=by have:=HMX.out; omega
    have hs8:n8<=2:=by have:=HMX.out; omega
    have ha2:a<18446744073709551616:=by
     have:=digs_len.1 (show (digs a).length<=2 by rw [D7.out.len]; exact hs7);omega
    have hb2:b<18446744073709551616:=by
     have:=digs_len.1 (show (digs b).length<=2 by rw [D8.out.len]; exact hs8);omega
    have HAB:=Zh (Zi ha2 hb2);clear ha2 hb2;go_wp2_with fail;have qq:=mag_word (w:=wr) c7 D7.out hs7 l7 m7;rw [digs_val] at qq;refine Zd qq ?_;clear qq;rintro e w5 ⟨rfl,hb5⟩;have D8b:=Zh (D8.out.below hb5);go_wp2_with fail;have qq:=mag_word (w:=w5) c8 D8b.out hs8 l8 m8;rw [digs_val] at qq;refine Zd qq ?_;clear qq;rintro e w6 ⟨rfl,hb6⟩;have hW6:=(hW5.trans (hb5.mono hz5)).trans (hb6.mono (by have:=hb5.size; omega));have r6:=(q6.below hb5).below hb6;clear hb5 hb6 q6 q6z hW5 hz5 HY D7 D8 D8b hm2 hm2i h0 h0n hmxi HMX l7 m7 l8 m8 hn7 hn8 hs7 hs8;generalize Value.slice A7 n7 c7=V7 at *;generalize Value.slice A8 n8 c8=V8 at *;go_wp2;go_loopw [10,11] (fun x y wr=>∃ (n m:Nat),x = .int .u64 n/\y = .int .u64 m/\((Nat.gcd n m:Nat):Int)=z/\n<18446744073709551616/\m<18446744073709551616/\Below w.heap.size w wr/\Own wr (w.heap.size+1+1) nz1) (fun _ y _=>(intOf y).toNat)
    case atStart=>exact ⟨a,b,rfl,rfl,HG.out.1,HAB.out.1,HAB.out.2,hW6,r6⟩
    case round =>
     clear hW6 r6 HG HAB;obtain ⟨n,m,rfl,rfl,hg,hn,hm,hW7,q7⟩:=hrel;have HG:=Zh hg;have hz7:=hW7.size;clear hg;rcases Nat.eq_zero_or_pos m with h0 | h0
     ·subst h0;obtain ⟨lo,hlo⟩:=Zx (n%4294967296);obtain ⟨hi,hhi⟩:=Zx (n / 4294967296);have hlo1:lo<4294967296:=aO
      have hhi1:hi<4294967296:=aO
      have hc1:IntKind.u32.wrap (n:Int)=(lo:Int):=by rw [IntKind.wrap_u32]; omega
      have hc2:(n:Int) / 4294967296=(hi:Int):=aO
      have hc3:IntKind.u32.wrap (hi:Int)=(hi:Int):=by rw [IntKind.wrap_u32]; omega
      have hbA:=(Zb wr.heap.size wr).alloc (Zr _) (.cells #[.int .u32 lo,.int .u32 hi] 97);have hW5:=hW7.trans (hbA.mono hz7);have q6:=q7.below hbA;have oD:OwnD (wr.alloc (.cells #[.int .u32 lo,.int .u32 hi] 97)) wr.heap.size [lo,hi]:=Own.new rfl;have hD:=oD.digs (fun d hd=>by
       simp at hd;rcases hd with rfl | rfl <;> assumption)
      have HD:=Zh hD;have HZ:Hid (sg false (vD [lo,hi])=z):=Zh (by
       rw [vD_cons,vD_cons,vD_nil,Nat.mul_zero,Nat.add_zero,<- HG.out,Nat.gcd_zero_right];unfold sg;simp;omega)
      have hz5:=hW5.size;have q6z:=q6.lt;clear oD hD hlo hhi hbA;go_wp2_with fail;generalize (wr.alloc (.cells #[.int .u32 lo,.int .u32 hi] 97))=W9 at *;refine Zd (HD.out.number (z:=z) 2 (Zr _) aO HZ.out) ?_;rintro e w9 ⟨⟨b9,rfl,hb1,hb2,hb3⟩,hb4⟩;have hbB:=hW5.trans (hb4.mono hz5);have r6:=q6.below hb4;have r6c:=r6.cell;have r6f:=r6.thaw;have HB:=Zh (Zi hb1 (Zi hb2 hb3));clear q6 hb1 hb2 hb3 hb4;obtain ⟨A9,n9,c9,hsl⟩:=slN_form z b9;simp only [numV];rw [hsl];have HSL:=Zh hsl;clear hsl;go_wp2;refine retC (b:=w.heap.size+1+1) (v:= .tuple #[.agg #[.bool (sgnN z),.slice A9 n9 c9],.bool (fits z)]) ((r6.set 0 _).set 1 _) (fun w' hw'=>by simp [results,Tryz.results23,go_sem,hw']) rfl ⟨⟨b9,by rw [numV,HSL.out],Zm hz5 HB.out.1,by simp; exact HB.out.2.1,(HB.out.2.2.far (by simp; have:=HB.out.1; omega) _).far (by simp; have:=HB.out.1; omega) _⟩,(hbB.setCell aT _).setCell aT _⟩
     ·obtain ⟨r,hr⟩:=Zx (n%m);have hr1:Int.tmod (n:Int) (m:Int)=(r:Int):=by rw [<- hr]; exact (Int.ofNat_tmod n m).symm
      have hr2:(n:Int)%(m:Int)=(r:Int):=by rw [<- hr]; exact (Int.natCast_emod n m).symm
      have hrm:r<m:=by rw [<- hr]; exact Nat.mod_lt _ h0
      have HR:=Zh hr;clear hr;go_wp2;refine region_late 4 [] aK aK (by rfl) ?_;apply Zs;refine ⟨fun v hv hne=>?_,fun u hu=>?_⟩
      ·simp only [TK];exact qz
      simp only [TK];refine late_mem (fun K hK=>?_);go_simp;refine hK _ _ (Keeps.of_below hu) (fun u3 hu3=>?_);clear hK K;replace hu:=hu.trans (hu3.mono hu.size);clear hu3;refine late_mem (fun K hK=>?_);go_simp;refine hK _ _ (Keeps.of_below hu) (fun u4 hu4=>?_);clear hK K;replace hu:=hu.trans (hu4.mono hu.size);have hW8:=hW7.trans (hu.mono hz7);have q8:=q7.below hu;refine late_nil ?_
      (try simp only [LN])
      go_wp2;go_roundw
      case rel=>exact ⟨m,r,rfl,rfl,by rw [<- HG.out,<- HR.out,Nat.gcd_comm m (n%m),<- Nat.gcd_rec,Nat.gcd_comm],hm,aO,hW8,q8⟩
      case measure=>simp [intOf]; omega
theorem ref1_trim {w:World} {A:Option Addr} {n:Nat} {D:List Nat} (c:Nat) (hv:DigsAt w A n D) (hnc:n<=c) (hc:c<=9223372036854775807) :
 Calls Tryz.prog 136 #[.slice A n c] w fun e w'=>e = .returned (.slice A (trimN D n) c)/\Below w.heap.size w w':=by
 have HV:=Zh hv;clear hv;go_enter Tryz.func136,Tryz.ntmps136;go_wp2;have hw:=Zb w.heap.size w;go_loopw [3] (fun s wr=>∃ k:Nat,k<=n/\s = .int .i64 k/\trimN D k=trimN D n/\Below w.heap.size w wr) (fun s _=>(intOf s).toNat)
 case atStart=>exact ⟨n,Zr _,rfl,rfl,hw⟩
 case round =>
  clear hw;obtain ⟨k,hk,rfl,ht,hw⟩:=hrel;have HT:=Zh ht;clear ht;have hkm:(k:Int)<=9223372036854775807:=aO
  by_cases hk0:k=0
  ·subst hk0;go_wp2;go_ret;exact ⟨by rw [<- HT.out,trimN_zero]; rfl,hw⟩
  ·obtain ⟨j,hj⟩:∃ j,j+1=k:=⟨k - 1,aO⟩;have HJ:=Zh hj;have hj1:(0:Int)<(k:Int):=aO
   have hj2:(k:Int) - 1=(j:Int):=aO
   have hj3:(j:Int)<(n:Int):=aO
   have hkc:(k:Int)<=(c:Int):=aO
   obtain ⟨d,hd⟩:=Zx (dAt D j);obtain ⟨b,off,hA,hb,a1⟩:=(HV.out.below hw).cells (show j<n by omega) hd;subst hA
   by_cases h0:d=0
   ·subst h0;have HT2:=Zh (show trimN D j=trimN D n by rw [<- HT.out,<- hj,trimN_yes hd]);clear hd HT hj hk0;go_wp2;go_roundw
    case rel=>exact ⟨j,by have:=HJ.out; omega,rfl,HT2.out,hw⟩
    case measure=>have:=HJ.out; simp [intOf]; omega
   ·have hdi:¬ (d:Int)=0:=aO
    have HT2:=Zh (show k=trimN D n by rw [<- HT.out,<- hj,trimN_no (by rw [hd]; exact h0)]);clear hd HT h0 hj hk0;go_wp2;go_ret;exact ⟨by rw [<- HT2.out]; rfl,hw⟩
theorem ref1_Right {w:World} {v:Value} {neg:Bool} {D:List Nat} (hv:RawAt w v neg D) :
 Calls Tryz.prog 88 #[v] w fun r w'=>r = .returned (.bool (rightN neg D))/\Below w.heap.size w w':=by
 obtain ⟨ok,hok⟩:=Zx (rightN neg D);rw [hok];obtain ⟨A,n,c,rfl,h1,h2,h4⟩:=hv;unfold rightN at hok;rw [h4.len] at hok;have hW:=(Zb w.heap.size w).alloc (Zr _) (.cells #[.bool neg,.slice A n c] 35);have HV:=Zh (Zi h4 hok);clear h4 hok
 by_cases h0:n=0
 ·subst h0;have hok:=HV.out.2;rw [if_pos rfl] at hok;subst hok;clear HV;go_enter Tryz.func88,Tryz.ntmps88;cases neg
  ·go_wp2;go_ret;exact ⟨rfl,hW⟩
  ·go_wp2;go_ret;exact ⟨rfl,hW⟩
 ·obtain ⟨p,hp⟩:=Zx (n - 1);have hpi:(n:Int) - 1=(p:Int):=aO
  have hpl:(p:Int)<(n:Int):=aO
  obtain ⟨d,hd⟩:=Zx (dAt D p);obtain ⟨b,off,hA,hb,a1⟩:=(HV.out.1.below hW).cells (k:=p) aO hd;subst hA;have hok:=HV.out.2;rw [if_neg h0,hp,hd] at hok
  by_cases h64:n<=64
  ·have h64i:(n:Int)<=(64:Int):=aO
   have hok2:decide (d≠0)=ok:=by rw [<- hok]; simp [h64]
   have HOK:=Zh hok2;clear hok hok2 hd HV;go_enter Tryz.func88,Tryz.ntmps88;go_wp2;go_ret;exact ⟨by rw [<- HOK.out]; exact congrArg (fun b=>Ending.returned (.bool b)) (by
    rcases Nat.eq_zero_or_pos d with h | h
    ·subst h; rfl
    ·have e1:d≠0:=aO
     have e2:(d:Int)≠0:=aO
     rw [decide_eq_true e1];exact bne_iff_ne.2 e2),hW⟩
  ·have h64i:¬ (n:Int)<=(64:Int):=aO
   have hok2:ok=false:=by rw [<- hok]; simp; omega
   subst hok2;clear hok hd HV a1;go_enter Tryz.func88,Tryz.ntmps88;go_wp2;go_ret;exact ⟨rfl,hW⟩
theorem ref1_at {w:World} {A:Option Addr} {n:Nat} {D:List Nat} (c k:Nat) (hv:DigsAt w A n D) (hk:k<=1000000000) :
 Calls Tryz.prog 142 #[.slice A n c,.int .i64 k] w fun r w'=>r = .returned (.int .u64 (dAt D k:Nat))/\w=w':=by
 obtain ⟨d,hd⟩:=Zx (dAt D k);rw [hd];have hd1:d<4294967296:=by rw [<- hd]; exact hv.dg.at_ k
 by_cases h:k<n
 ·have hi:(k:Int)<(n:Int):=aO
  obtain ⟨b,off,hA,hb,a1⟩:=hv.cells h hd;subst hA;clear hd hv;go_enter Tryz.func142,Tryz.ntmps142;go_wp2;go_ret;exact ⟨rfl,rfl⟩
 ·have hi:¬ (k:Int)<(n:Int):=aO
  rw [dAt_out (by rw [hv.len]; omega)] at hd;subst hd;clear hv;go_enter Tryz.func142,Tryz.ntmps142;go_wp2;go_ret;exact ⟨rfl,rfl⟩
theorem ref1_digits {w:World} (m:Nat) (hm:m<18446744073709551616) :
 Calls Tryz.prog 116 #[.int .u64 m] w fun r w'=>NewD w m r w'/\Below w.heap.size w w':=by
 obtain ⟨lo,hlo⟩:=Zx (m%4294967296);obtain ⟨hi,hhi⟩:=Zx (m / 4294967296);have hlo1:lo<4294967296:=aO
 have hhi1:hi<4294967296:=aO
 have hc1:IntKind.u32.wrap (m:Int)=(lo:Int):=by rw [IntKind.wrap_u32]; omega
 have hc2:(m:Int) / 4294967296=(hi:Int):=aO
 have hc3:IntKind.u32.wrap (hi:Int)=(hi:Int):=by rw [IntKind.wrap_u32]; omega
 have HM:=Zh (Zi hlo hhi);have hW:=(Zb w.heap.size w).alloc (Zr _) (.cells #[.int .u32 lo,.int .u32 hi] 97);have oD:OwnD (w.alloc (.cells #[.int .u32 lo,.int .u32 hi] 97)) w.heap.size [lo,hi]:=Own.new aS;have hD:=oD.digs (fun d hd=>by
  simp at hd;rcases hd with rfl | rfl <;> assumption)
 have HT:=Zh (ref1_trim 2 hD (Zr _) aO);have HD:=Zh hD;clear oD hD hlo hhi;go_enter Tryz.func116,Tryz.ntmps116;go_wp2_with fail;generalize (w.alloc (.cells #[.int .u32 lo,.int .u32 hi] 97))=W0 at *;refine Zd HT.out ?_;rintro e w2 ⟨rfl,hb⟩;have hw:=hW.trans (hb.mono hW.size);have hd:=HD.out.below hb;have hlt:=Zl (by obtain ⟨b,off,e,h,_⟩:=HD.out.row aS; cases e; exact h) hb.size;have HH:=Zh (Zi hd hlt);clear HT HD hb hd hlt;go_wp2;go_ret;exact ⟨NewD.of HH.out.1 aS (by rw [vD_cons,vD_cons,vD_nil]; have:=HM.out; omega) HH.out.2,hw⟩
theorem ref1_compare {w:World} {A1 A2:Option Addr} {n1 n2 M N:Nat} (c1 c2:Nat) (h1:DigsAt w A1 n1 (digs M)) (h2:DigsAt w A2 n2 (digs N)) (hm1:n1<=2000) (hm2:n2<=2000) :
 Calls Tryz.prog 89 #[.slice A1 n1 c1,.slice A2 n2 c2] w fun r w'=>r = .returned (.int .i64 (ordI (M:Nat) (N:Nat)))/\Below w.heap.size w w':=by
 obtain ⟨o,ho⟩:=Zx (ordI (M:Nat) (N:Nat));rw [ho];have hl1:=h1.len;have hl2:=h2.len
 by_cases hne:n1=n2
 ·subst hne;have hself:¬ (n1:Int)<(n1:Int):=aO
  have H1:=Zh h1;have H2:=Zh h2;have HO:=Zh ho;have HL:=Zh (Zi hl1 hl2);clear h1 h2 ho hl1 hl2 hm2;go_enter Tryz.func89,Tryz.ntmps89;go_wp2;have hw:=Zb w.heap.size w;go_loopw [5] (fun i wr=>∃ k:Nat,k<=n1/\i = .int .i64 ((k:Int) - 1)/\(∀ i,k<=i->i<n1->dAt (digs M) i=dAt (digs N) i)/\Below w.heap.size w wr) (fun i _=>(intOf i+1).toNat)
  case atStart=>exact ⟨n1,Zr _,rfl,fun i a b=>aO,hw⟩
  case round =>
   clear hw;obtain ⟨k,hk,rfl,hall,hw⟩:=hrel;have HA:=Zh hall;clear hall
   by_cases hk0:k=0
   ·subst hk0;have hneg:((0:Nat):Int) - 1=-1:=rfl;rw [hneg];have ho:o=0:=by
     have e:digs M=digs N:=eq_of_dAt (by rw [HL.out.1,HL.out.2]) (fun i hi=>HA.out i (Nat.zero_le _) (by rw [HL.out.1] at hi; exact hi));have e2:=congrArg vD e;rw [digs_val,digs_val] at e2;rw [<- HO.out,e2,ordI_eq]
    subst ho;go_wp2;go_ret;exact ⟨rfl,hw⟩
   ·obtain ⟨j,rfl⟩:∃ j,k=j+1:=⟨k - 1,aO⟩;have hj:((j+1:Nat):Int) - 1=(j:Int):=aO
    rw [hj];have hj0:(0:Int)<=(j:Int):=aO
    have hjn:(j:Int)<(n1:Int):=aO
    obtain ⟨d,hd⟩:=Zx (dAt (digs M) j);obtain ⟨e,he⟩:=Zx (dAt (digs N) j);obtain ⟨b,off,hA,hb,a1⟩:=(H1.out.below hw).cells (show j<n1 by omega) hd;obtain ⟨b2,off2,hA2,hb2,a2⟩:=(H2.out.below hw).cells (show j<n1 by omega) he;subst hA;subst hA2;have HS:Hid (d≠e->ordI (d:Nat) (e:Nat)=o):=Zh (fun hne=>by
     rw [<- HO.out,<- digs_val M,<- digs_val N,digs_val M,digs_val N];have q:=vD_ord (digs_dg M) (digs_dg N) (by rw [HL.out.1,HL.out.2]) (k:=j) (by rw [HL.out.1]; omega) (by rw [hd,he]; exact hne) (fun i a b=>HA.out i aO (by rw [HL.out.1] at b; exact b));rw [hd,he,digs_val,digs_val] at q;exact q)
    have HE:Hid (d=e->∀ i,j<=i->i<n1->dAt (digs M) i=dAt (digs N) i):=Zh (fun heq i a b=>by
     rcases Nat.eq_or_lt_of_le a with h | h
     ·rw [<- h,hd,he,heq]
     ·exact HA.out i aO b)
    clear hd he HA hk0 hj;go_wp2
    by_cases hlt:d<e
    ·have hlti:(d:Int)<(e:Int):=aO
     refine region_late 9 [] aK aK (by rfl) ?_;apply Zs;refine ⟨fun v hv hne=>?_,fun u hu=>?_⟩
     ·simp only [TK];have f1:=fun x:Later [] wr v=>(x.cell b (off+j) hb aS).trans a1
      have f2:=fun x:Later [] wr v=>(x.cell b2 (off2+j) hb2 aS).trans a2
      exact qz
     ·simp only [TK];refine late_nil ?_
      (try simp only [LN])
      have hw2:=hw.trans (hu.mono hw.size);have ho:=HS.out aO;rw [ordI_lt hlti] at ho;subst ho;clear HS HE HO;go_wp2;go_ret;exact ⟨rfl,hw2⟩
    ·have hlti:¬ (d:Int)<(e:Int):=aO
     refine region_late 9 [] aK aK (by rfl) ?_;apply Zs;refine ⟨fun v hv hne=>?_,fun u hu=>?_⟩
     ·simp only [TK];have f1:=fun x:Later [] wr v=>(x.cell b (off+j) hb aS).trans a1
      have f2:=fun x:Later [] wr v=>(x.cell b2 (off2+j) hb2 aS).trans a2
      exact qz
     ·simp only [TK];refine late_nil ?_
      (try simp only [LN])
      have hw2:=hw.trans (hu.mono hw.size);replace a1:=(hu.cell (p:=⟨b,off+j,none⟩) hb).trans a1;replace a2:=(hu.cell (p:=⟨b2,off2+j,none⟩) hb2).trans a2;replace hb:=Zl hb hu.size;replace hb2:=Zl hb2 hu.size;go_wp2
      by_cases hgt:e<d
      ·have hgti:(e:Int)<(d:Int):=aO
       refine region_late 9 [] aK aK (by rfl) ?_;apply Zs;refine ⟨fun v hv hne=>?_,fun u3 hu3=>?_⟩
       ·simp only [TK];have f1:=fun x:Later [] u v=>(x.cell b (off+j) hb aS).trans a1
        have f2:=fun x:Later [] u v=>(x.cell b2 (off2+j) hb2 aS).trans a2
        exact qz
       ·simp only [TK];refine late_nil ?_
        (try simp only [LN])
        have hw3:=hw2.trans (hu3.mono hw2.size);have ho:=HS.out aO;rw [ordI_gt hgti] at ho;subst ho;clear HS HE HO;go_wp2;go_ret;exact ⟨rfl,hw3⟩
      ·have hgti:¬ (e:Int)<(d:Int):=aO
       refine region_late 9 [] aK aK (by rfl) ?_;apply Zs;refine ⟨fun v hv hne=>?_,fun u3 hu3=>?_⟩
       ·simp only [TK];have f1:=fun x:Later [] u v=>(x.cell b (off+j) hb aS).trans a1
        have f2:=fun x:Later [] u v=>(x.cell b2 (off2+j) hb2 aS).trans a2
        exact qz
       ·simp only [TK];refine late_nil ?_
        (try simp only [LN])
        have hw3:=hw2.trans (hu3.mono hw2.size);have HEE:=Zh (HE.out aO);clear HS HE;go_wp2;go_roundw
        case rel=>exact ⟨j,aO,by first | rfl | (congr 1),HEE.out,hw3⟩
        case measure=>simp [intOf]
 ·have ho2:o=if n1<n2 then -1 else 1:=by
   have q:=digs_ord (M:=M) (N:=N) (by rw [hl1,hl2]; exact hne);rw [hl1,hl2,ho] at q;rw [<- q]
   by_cases h:n1<n2
   ·rw [if_pos h,ordI_lt aO]
   ·rw [if_neg h,ordI_gt aO]
  clear ho h1 h2 hl1 hl2
  by_cases h:n1<n2
  ·have hi:(n1:Int)<(n2:Int):=aO
   rw [if_pos h] at ho2;subst ho2;go_enter Tryz.func89,Tryz.ntmps89;go_wp2;go_ret;exact ⟨rfl,Zb _ _⟩
  ·have hi:¬ (n1:Int)<(n2:Int):=aO
   have hi2:(n2:Int)<(n1:Int):=aO
   rw [if_neg h] at ho2;subst ho2;go_enter Tryz.func89,Tryz.ntmps89;go_wp2;go_ret;exact ⟨rfl,Zb _ _⟩
theorem sameRaw {s1 s2:Bool} {D1 D2:List Nat} (h:¬ (s1=s2/\D1.length=D2.length)):decide (s1=s2/\D1=D2)=false:=
 decide_eq_false fun ⟨a,b⟩=>h ⟨a,by rw [b]⟩
theorem ref1_Same {w:World} {v1 v2:Value} {s1 s2:Bool} {D1 D2:List Nat} (h1:RawAt w v1 s1 D1) (h2:RawAt w v2 s2 D2) :
 Calls Tryz.prog 77 #[v1,v2] w fun r w'=>r = .returned (.bool (decide (s1=s2/\D1=D2)))/\Below w.heap.size w w':=by
 obtain ⟨A1,n1,c1,rfl,hc1,hm1,d1⟩:=h1;obtain ⟨A2,n2,c2,rfl,hc2,hm2,d2⟩:=h2;have hl1:=d1.len;have hl2:=d2.len;have hW:=(((Zb w.heap.size w).alloc (Zr _) (.cells #[.bool s1,.slice A1 n1 c1] 35)).alloc aS (.cells #[.bool s2,.slice A2 n2 c2] 35));have o2:Own ((w.alloc (.cells #[.bool s1,.slice A1 n1 c1] 35)).alloc (.cells #[.bool s2,.slice A2 n2 c2] 35)) w.heap.size #[.bool s1,.slice A1 n1 c1]:=aOwn;have o3:Own ((w.alloc (.cells #[.bool s1,.slice A1 n1 c1] 35)).alloc (.cells #[.bool s2,.slice A2 n2 c2] 35)) (w.heap.size+1) #[.bool s2,.slice A2 n2 c2]:=aOwn
 by_cases hs:s1=s2
 ·by_cases hn:n1=n2
  ·subst hs;subst hn;have hsb:(s1==s1)=true:=by cases s1 <;> rfl
   obtain ⟨o,ho⟩:=Zx (decide (s1=s1/\D1=D2));rw [ho];have hnm:(n1:Int)<=9223372036854775807:=aO
   have HL:=Zh (Zi hl1 (Zi hl2 ho));have H1:=Zh d1;have H2:=Zh d2;clear d1 d2 hl1 hl2 ho;go_enter Tryz.func77,Tryz.ntmps77;go_wp2;generalize ((w.alloc (.cells #[.bool s1,.slice A1 n1 c1] 35)).alloc (.cells #[.bool s1,.slice A2 n1 c2] 35))=W0 at *;go_loopw [5] (fun i wr=>∃ k:Nat,k<=n1/\i = .int .i64 k/\(∀ i,i<k->dAt D1 i=dAt D2 i)/\Below w.heap.size w wr/\Own wr w.heap.size #[.bool s1,.slice A1 n1 c1]/\Own wr (w.heap.size+1) #[.bool s1,.slice A2 n1 c2]) (fun i _=>n1 - (intOf i).toNat)
   case atStart=>exact ⟨0,Nat.zero_le _,rfl,fun i a=>aO,hW,o2,o3⟩
   case round =>
    clear hW o2 o3;obtain ⟨k,hk,rfl,hall,hw,o2,o3⟩:=hrel;have HA:=Zh hall;clear hall;have o2c:=o2.cell
    by_cases hkn:k<n1
    ·have hkni:(k:Int)<(n1:Int):=aO
     obtain ⟨d,hd⟩:=Zx (dAt D1 k);obtain ⟨e,he⟩:=Zx (dAt D2 k);obtain ⟨b,off,hA,hb,a1⟩:=(H1.out.below hw).cells hkn hd;obtain ⟨b2,off2,hA2,hb2,a2⟩:=(H2.out.below hw).cells hkn he;subst hA;subst hA2;have HD:=Zh (Zi hd he);clear hd he;go_wp2
     by_cases heq:d=e
     ·subst heq;refine region_late 11 [] aK aK (by rfl) ?_;apply Zs;refine ⟨fun v hv hne=>?_,fun u hu=>?_⟩
      ·simp only [TK];have f1:=fun x:Later [] wr v=>(x.cell b (off+k) hb aS).trans a1
       have f2:=fun x:Later [] wr v=>(x.cell b2 (off2+k) hb2 aS).trans a2
       have g1:=fun x=>(o2.later (v:=v) (T:=[]) aS x).cell
       have g2:=fun x=>(o3.later (v:=v) (T:=[]) aS x).cell
       exact qz
      ·simp only [TK];refine late_nil ?_
       (try simp only [LN])
       have hw2:=hw.trans (hu.mono hw.size);have p2:=o2.below hu;have p3:=o3.below hu;clear o2 o3 o2c;go_wp2;go_roundw
       case rel=>exact ⟨k+1,aO,by go_num,fun i a=>by
        rcases Nat.eq_or_lt_of_le (Nat.lt_succ_iff.1 a) with h | h
        ·rw [h,HD.out.1,HD.out.2]
        ·exact HA.out i h,hw2,p2,p3⟩
       case measure=>simp [intOf]; omega
     ·have hbe:((d:Int)==(e:Int))=false:=aT
      have hof:o=false:=by
       rw [<- HL.out.2.2];refine decide_eq_false fun ⟨_,h⟩=>heq ?_
       rw [<- HD.out.1,<- HD.out.2,h]
      subst hof;refine region_late 11 [] aK aK (by rfl) ?_;apply Zs;refine ⟨fun v hv hne=>?_,fun u hu=>?_⟩
      ·simp only [TK];have f1:=fun x:Later [] wr v=>(x.cell b (off+k) hb aS).trans a1
       have f2:=fun x:Later [] wr v=>(x.cell b2 (off2+k) hb2 aS).trans a2
       have g1:=fun x=>(o2.later (v:=v) (T:=[]) aS x).cell
       have g2:=fun x=>(o3.later (v:=v) (T:=[]) aS x).cell
       exact qz
      ·simp only [TK];refine late_nil ?_
       (try simp only [LN])
       have hw2:=hw.trans (hu.mono hw.size);go_wp2;go_ret;exact ⟨rfl,hw2⟩
    ·obtain rfl:k=n1:=aO
     have hkni:¬ (k:Int)<(k:Int):=aO
     have hot:o=true:=by
      rw [<- HL.out.2.2];exact decide_eq_true ⟨by first | trivial | rfl,eq_of_dAt (by rw [HL.out.1,HL.out.2.1]) (fun i hi=>HA.out i (by rw [HL.out.1] at hi; exact hi))⟩
     subst hot;go_wp2;go_ret;exact ⟨rfl,hw⟩
  ·rw [sameRaw (by rw [hl1,hl2]; exact fun h=>hn h.2)];subst hs;have hni:¬ (n1:Int)=(n2:Int):=aO
   clear d1 d2 hl1 hl2;go_enter Tryz.func77,Tryz.ntmps77;go_wp2;go_ret;exact ⟨rfl,hW⟩
 ·rw [sameRaw fun h=>hs h.1];clear d1 d2 hl1 hl2;go_enter Tryz.func77,Tryz.ntmps77;cases s1 <;> cases s2
  ·exact absurd rfl hs
  ·go_wp2;go_ret;exact ⟨rfl,hW⟩
  ·go_wp2;go_ret;exact ⟨rfl,hW⟩
  ·exact absurd rfl hs
theorem ref1_word {w:World} {A:Option Addr} {n:Nat} {D:List Nat} (c:Nat) (hv:DigsAt w A n D) (hn:n<=2) :
 Calls Tryz.prog 137 #[.slice A n c] w fun r w'=>r = .returned (.int .u64 (vD D:Nat))/\Below w.heap.size w w':=by
 obtain ⟨o,ho⟩:=Zx (vD D);rw [ho];have hl:=hv.len;have HV:=Zh hv;have HO:=Zh (Zi hl ho);clear hv ho hl;have hw:=Zb w.heap.size w;go_enter Tryz.func137,Tryz.ntmps137;go_wp2;go_loopw [3,4] (fun s i wr=>∃ k:Nat,k<=n/\i = .int .i64 k/\s = .int .u64 (vD (D.take k):Nat)/\Below w.heap.size w wr) (fun _ i _=>n - (intOf i).toNat)
 case atStart=>exact ⟨0,Nat.zero_le _,rfl,rfl,hw⟩
 case round =>
  clear hw;obtain ⟨k,hk,rfl,rfl,hw⟩:=hrel
  by_cases hkn:k<n
  ·obtain ⟨d,hd⟩:=Zx (dAt D k);obtain ⟨b,off,hA,hb,a1⟩:=(HV.out.below hw).cells hkn hd;subst hA;have hd1:d<4294967296:=by rw [<- hd]; exact HV.out.dg.at_ k
   have hlt:=vD_lt (HV.out.dg.take k);have hlk:(D.take k).length=k:=by rw [List.length_take,HO.out.1]; omega
   rw [hlk] at hlt;have hstep:vD (D.take (k+1))=vD (D.take k)+4294967296^k*d:=by rw [vD_take',hd]
   have HN:∃ s',vD (D.take (k+1))=s':=⟨_,rfl⟩;obtain ⟨s',hs'⟩:=HN;rw [hs'] at hstep;obtain ⟨s,hs⟩:=Zx (vD (D.take k));rw [hs] at hstep hlt ⊢;have HS:=Zh hs';clear hs hs' hd hlk;have hk2:k=0\/k=1:=aO
   rcases hk2 with rfl | rfl
   ·have h1:s=0:=by simpa using hlt
    subst h1;have h2:s'=d:=by simpa using hstep
    subst h2;clear hstep hlt;rw [Nat.add_zero] at a1;have hu:IntKind.u64.wrap (s':Int)=(s':Int):=by rw [IntKind.wrap_u64]; omega
    go_wp2;go_roundw
    case rel=>exact ⟨1,aO,rfl,by rw [HS.out],hw⟩
    case measure=>simp [intOf]; omega
   ·have hu:IntKind.u64.wrap ((d:Int)*4294967296)=(d:Int)*4294967296:=by rw [IntKind.wrap_u64]; omega
    have hu2:(s:Int)+(d:Int)*4294967296=(s':Int):=aO
    have hu3:(s':Int)<=18446744073709551615:=aO
    clear hstep hlt;go_wp2;go_roundw
    case rel=>exact ⟨2,aO,rfl,by rw [HS.out],hw⟩
    case measure=>simp [intOf]; omega
  ·obtain rfl:k=n:=aO
   have hkni:¬ (k:Int)<(k:Int):=aO
   have e:vD (D.take k)=o:=by rw [List.take_of_length_le (by rw [HO.out.1]; exact Zr _),HO.out.2]
   rw [e];clear HV HO e;go_wp2;go_ret;exact ⟨rfl,hw⟩
theorem dAt_div (D:List Nat) (h:Dg D):∀ i,dAt D i=vD D / 4294967296^i%4294967296:=fun i=>by
 rcases Nat.lt_or_ge i D.length with hi | hi
 ·have e:=vD_split D i hi;have h1:=vD_lt (h.take i);rw [List.length_take,Nat.min_eq_left aO] at h1;have h2:=h.at_ i;have p:=Nat.pow_pos (n:=i) (show 0<4294967296 by omega);rw [e,Nat.pow_succ,Nat.mul_assoc,Nat.add_assoc,<- Nat.mul_add,Nat.add_mul_div_left _ _ p,Nat.div_eq_of_lt h1,Nat.zero_add,Nat.add_mul_mod_self_left,Nat.mod_eq_of_lt h2]
 ·rw [dAt_out hi];have h1:=vD_lt h;have h2:=Nat.pow_le_pow_right (n:=4294967296) aO hi;rw [Nat.div_eq_of_lt aO]
theorem bit_val (D:List Nat) (h:Dg D) (k:Nat):dAt D (k / 32) / 2^(k%32)%2=vD D / 2^k%2:=by
 rw [dAt_div D h];generalize vD D=X;have e1:(4294967296:Nat)^(k / 32)=2^(32*(k / 32)):=by rw [Nat.pow_mul]
 have e2:k=32*(k / 32)+k%32:=(Nat.div_add_mod k 32).symm;have e3:X / 2^k=X / 4294967296^(k / 32) / 2^(k%32):=by
  rw [Nat.div_div_eq_div_mul,e1,<- Nat.pow_add,<- e2]
 rw [e3];generalize X / 4294967296^(k / 32)=Y;generalize k%32=s at *;have e4:(4294967296:Nat)=2^s*2^(32 - s):=by rw [<- Nat.pow_add,show s+(32 - s)=32 by omega]
 rw [e4,Nat.mod_mul_right_div_self];have e5:(2:Nat)^(32 - s)=2*2^(32 - s - 1):=by rw [<- Nat.pow_add_one']; congr 1; omega
 rw [e5,Nat.mod_mul_right_mod]
theorem and_one (x:Nat) (h:x<4294967296):bits .and .u32 (x:Int) 1=((x%2:Nat):Int):=by
 have q:=u32_and_nat x 1 h aO;rw [Nat.and_one_is_mod] at q;exact q
theorem ref1_bit {w:World} {A:Option Addr} {n:Nat} {D:List Nat} (c k:Nat) (hv:DigsAt w A n D) (hn:n<=2000) (hk:k<32*n) :
 Calls Tryz.prog 141 #[.slice A n c,.int .i64 k] w fun r w'=>r = .returned (.int .u32 (vD D / 2^k%2:Nat))/\w=w':=by
 obtain ⟨o,ho⟩:=Zx (vD D / 2^k%2);rw [ho];rw [<- bit_val D hv.dg k] at ho;obtain ⟨i,hi⟩:=Zx (k / 32);obtain ⟨s,hs⟩:=Zx (k%32);obtain ⟨d,hd⟩:=Zx (dAt D i);rw [hi,hs,hd] at ho;have hd1:d<4294967296:=by rw [<- hd]; exact hv.dg.at_ i
 obtain ⟨b,off,hA,hb,a1⟩:=hv.cells (show i<n by omega) hd;subst hA;have hin:(i:Int)<(n:Int):=aO
 have e1:(k:Int).tdiv 32=(i:Int):=by rw [Int.tdiv_eq_ediv_of_nonneg aO]; omega
 have e2:(k:Int).tmod 32=(s:Int):=by rw [Int.tmod_eq_emod_of_nonneg aO]; omega
 have hs1:s<32:=aO
 obtain ⟨y,hy⟩:=Zx (d / 2^s);have hy1:y<4294967296:=by rw [<- hy]; exact Nat.lt_of_le_of_lt (Nat.div_le_self _ _) hd1
 have e3:(d:Int) / 2^s=(y:Int):=by rw [<- hy]; simp
 have e4:=and_one y hy1;rw [hy] at ho;rw [ho] at e4;clear hd hi hs hy ho hv;go_enter Tryz.func141,Tryz.ntmps141;go_wp2;go_ret;exact ⟨rfl,rfl⟩
end Go.Proofs.YtflgngjocgiojaaGreat
