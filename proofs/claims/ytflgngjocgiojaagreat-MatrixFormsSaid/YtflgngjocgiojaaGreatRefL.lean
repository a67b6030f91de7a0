import Derived.Test.YtflgngjocgiojaaGreatRefKM
set_option linter.all false
namespace Go.Proofs.YtflgngjocgiojaaGreat
open Go.RowKit
theorem info_u32:∃ i,Tryz.prog.info? 97=some i/\i.zero=some (.int .u32 0)/\i.size=1/\i.bytes=4:=infoU_parts
def SlN (base:Nat) (w:World) (v:Value) (N:Nat):Prop:=∃ A n c,v = .slice A n c/\n<=c/\c<=9223372036854775807/\DigsAt w A n (digs N)/\∀ b off,A=some ⟨b,off,none⟩->base<=b
theorem SlN.sl {base:Nat} {w:World} {v:Value} {N:Nat} (h:SlN base w v N):SlD w v N:=by
 obtain ⟨A,n,c,h1,h2,h3,h4,_⟩:=h;exact ⟨A,n,c,h1,h2,h3,h4⟩
theorem SlN.below {base:Nat} {w w':World} {v:Value} {N:Nat} (h:SlN base w v N) (hb:Below w.heap.size w w'):SlN base w' v N:=by
 obtain ⟨A,n,c,h1,h2,h3,h4,h5⟩:=h;exact ⟨A,n,c,h1,h2,h3,h4.below hb,h5⟩
theorem SlN.le {base base':Nat} {w:World} {v:Value} {N:Nat} (h:SlN base w v N) (hb:base'<=base):SlN base' w v N:=by
 obtain ⟨A,n,c,h1,h2,h3,h4,h5⟩:=h;exact ⟨A,n,c,h1,h2,h3,h4,fun b off e=>Zm hb (h5 b off e)⟩
theorem GrowD.sl {w:World} {base:Nat} {v:Value} {k:Nat} {R:List Nat} (h:GrowD w base v k R):∃ A c,v = .slice A k c/\k<=c/\c<=9223372036854775807/\DigsAt w A k R/\∀ b off,A=some ⟨b,off,none⟩->base<=b:=by
 obtain ⟨A,c,e,h1,h2,h3,h4⟩:=h.slice;refine ⟨A,c,e,h1,h2,h3,fun b off e2=>?_⟩;subst e2;exact ownBlock_ge h.row (by rw [e]; rfl)
theorem trim_slN {base:Nat} {w:World} {A:Option Addr} {n c:Nat} {D:List Nat} (h:DigsAt w A n D) (hc:n<=c) (hm:c<=9223372036854775807) (hb:∀ b off,A=some ⟨b,off,none⟩->base<=b):SlN base w (.slice A (trimN D n) c) (vD D):=by
 obtain ⟨A',n',c',e,h1,h2,h3⟩:=trim_sl h hc hm;simp only [Value.slice.injEq] at e;obtain ⟨rfl,rfl,rfl⟩:=e;exact ⟨A,_,c,rfl,h1,h2,h3,hb⟩
set_option maxRecDepth 100000 in
set_option maxHeartbeats 4000000 in
theorem ref1_without {w:World} {A:Option Addr} {n M:Nat} (c s:Nat) (hv:DigsAt w A n (digs M)) (hn:n<=2000) (hs:s<=32*n) :
 Calls Tryz.prog 139 #[.slice A n c,.int .i64 s] w fun r w'=>(∃ v,r = .returned v/\SlN w.heap.size w' v (M / 2^s))/\Below w.heap.size w w':=by
 obtain ⟨i0,hi,hz0,hz1,hz2⟩:=info_u32;obtain ⟨Y,hY⟩:=Zx (M / 2^s);rw [hY];obtain ⟨q,hq⟩:=Zx (s / 32);obtain ⟨t,ht⟩:=Zx (s%32);have hqn:q<=n:=aO
 have ht1:t<32:=aO
 have hst:s=32*q+t:=aO
 have hni:(n:Int)<=2000:=aO
 have hsi:(s:Int)<=64000:=aO
 have e1:(s:Int).tdiv 32=(q:Int):=by rw [Int.tdiv_eq_ediv_of_nonneg aO]; omega
 have e2:(s:Int).tmod 32=(t:Int):=by rw [Int.tmod_eq_emod_of_nonneg aO]; omega
 have hl:=hv.len;have HV:=Zh hv;have HY:=Zh (Zi hY hst);have HL:=Zh hl;have hw:=Zb w.heap.size w;clear hv hY hq ht hl hst;go_enter Tryz.func139,Tryz.ntmps139;go_wp2;go_loopw [5,6] (fun u i wr=>∃ (j:Nat) (R:List Nat),q+j<=n/\i = .int .i64 (q+j:Nat)/\Below w.heap.size w wr/\GrowD wr w.heap.size u j R/\vD R=Y%4294967296^j) (fun _ i _=>n - (intOf i).toNat)
 case atStart=>exact ⟨0,[],aO,rfl,hw,GrowD.start _ _,by simp [vD_nil,Nat.mod_one]⟩
 case round =>
  clear hw;obtain ⟨j,R,hj,rfl,hw,hG,hval⟩:=hrel;obtain ⟨k,hk⟩:=Zx (q+j);rw [hk] at hj ⊢;have HG:=Zh hG;have HR:=Zh (Zi hk hval);clear hG hval hk
  by_cases hkn:k<n
  ·have hkni:(k:Int)<(n:Int):=aO
   have q1:=ref1_at (w:=wr) c k (HV.out.below hw) aO;have q2:=ref1_at (w:=wr) c (k+1) (HV.out.below hw) aO;have hst:=without_step (digs M) (digs_dg M) k t ht1;obtain ⟨d,hd⟩:=Zx (dAt (digs M) k);obtain ⟨e,he⟩:=Zx (dAt (digs M) (k+1));have hd1:d<4294967296:=by rw [<- hd]; exact (digs_dg M).at_ _
   have he1:e<4294967296:=by rw [<- he]; exact (digs_dg M).at_ _
   rw [hd] at q1 hst;rw [he] at q2 hst;rw [digs_val] at hst;have hcast:((k+1:Nat):Int)=(k:Int)+1:=aO
   rw [hcast] at q2;have hu:IntKind.u64.wrap ((e:Int)*4294967296)=(e:Int)*4294967296:=by rw [IntKind.wrap_u64]; omega
   obtain ⟨x,hx⟩:=Zx (d+e*4294967296);rw [hx] at hst;have hxi:(d:Int)+(e:Int)*4294967296=(x:Int):=aO
   have hx1:x<18446744073709551616:=aO
   have hxu:IntKind.u64.wrap (x:Int)=(x:Int):=by rw [IntKind.wrap_u64]; omega
   obtain ⟨y,hy⟩:=Zx (x / 2^t);have hyi:(x:Int) / 2^t=(y:Int):=by rw [<- hy]; simp
   have hy1:y<18446744073709551616:=by rw [<- hy]; exact Nat.lt_of_le_of_lt (Nat.div_le_self _ _) hx1
   rw [hy] at hst;obtain ⟨r,hr⟩:=Zx (y%4294967296);rw [hr] at hst;have hr1:r<4294967296:=aO
   have hri:IntKind.u32.wrap (y:Int)=(r:Int):=by rw [IntKind.wrap_u32]; omega
   have hYr:Y / 4294967296^j%4294967296=r:=by
    rw [<- HY.out.1,HY.out.2,hst,Nat.div_div_eq_div_mul];have e1:(4294967296:Nat)^j=2^(32*j):=by rw [Nat.pow_mul]
    rw [e1,<- Nat.pow_add,show 32*q+t+32*j=32*k+t by have:=HR.out.1; omega]
   have HS:=Zh (mod_snoc Y j r hYr);have Q1:=Zh q1;have Q2:=Zh q2;have hjn:j<=2000:=by have:=HR.out.1; omega
   have OL:Hid (∀ b,u5.ownBlock=some b->b<wr.heap.size):=Zh (fun b hb=>ownBlock_lt HG.out.row hb);have hwz:=hw.size;clear hd he hst hx hy hr hYr q1 q2 hcast;go_wp2_with fail;refine Zd Q1.out ?_;rintro e w2 ⟨rfl,rfl⟩;go_wp2_with fail;refine Zd Q2.out ?_;rintro e w3 ⟨rfl,rfl⟩;go_wp2_with (at_builtin; refine wpList_append_lies _ rfl _ _ _ (by rfl) w.heap.size 97 i0 (.int .u32 0) 1 4 Tryz.underlying33 hi hz0 hz1 hz2 rfl aO _ j (encR R) (by rfl) (HG.out.row.alloc _) ⟨wr.heap.size,0,none⟩ 1 1 [.int .u32 (r:Nat)] (by rfl) rfl ?a1 ?a2 aO ?a3 ?a4 ?a5 (wr.heap.size+1) aS ?_)
   case a1=>exact World.news_of_block (heap_alloc_new wr _)
   case a2=>intro u hu; simp at hu; subst hu; rfl
   case a3=>unfold maxLen; omega
   case a4=>omega
   case a5=>simp; omega
   intro ga ca w6 hoa hga hata hlta;rw [encR_snoc] at hoa;have B6:=Zh (Below.grown (hw.alloc aO (.cells #[.int .u32 (r:Nat)] 97)) hga aT (fun b hb=>ownBlock_ge HG.out.row hb));have H6:Hid (GrowD w6 w.heap.size (.slice (some ⟨ga,0,none⟩) (j+1) ca) (j+1) (R++[r])/\vD (R++[r])=Y%4294967296^(j+1)):=Zh ⟨⟨hoa,by rw [List.length_append,HG.out.len]; rfl,HG.out.dg.append (Dg.one hr1)⟩,by rw [vD_snoc,HG.out.len,HR.out.2,HS.out]⟩;clear hoa hga hata hlta;go_wp2;go_roundw
   case rel=>exact ⟨j+1,_,by have:=HR.out.1; omega,by have e:=HR.out.1; rw [<- e]; go_num,B6.out,H6.out.1,H6.out.2⟩
   case measure=>simp [intOf]; omega
  ·obtain rfl:k=n:=aO
   have hkni:¬ (k:Int)<(k:Int):=aO
   obtain ⟨A2,c2,rfl,g1,g2,g3,g4⟩:=HG.out.sl;have hvv:vD R=Y:=by
    rw [HR.out.2,Nat.mod_eq_of_lt];have h1:=vD_lt (digs_dg M);rw [HL.out,digs_val] at h1;rw [<- HY.out.1,HY.out.2];have e1:(4294967296:Nat)^j=2^(32*j):=by rw [Nat.pow_mul]
    have e2:(4294967296:Nat)^k=2^(32*k):=by rw [Nat.pow_mul]
    rw [e1,Nat.div_lt_iff_lt_mul (Nat.two_pow_pos _),<- Nat.pow_add];rw [e2] at h1;exact Zl h1 (Nat.pow_le_pow_right aO (by have:=HR.out.1; omega))
   have HT:=Zh (ref1_trim c2 g3 g1 g2);have HS:Hid (SlN w.heap.size wr (.slice A2 (trimN R j) c2) Y):=Zh (by rw [<- hvv]; exact trim_slN g3 g1 g2 g4);clear hvv g1 g2 g3 g4;go_wp2_with fail;refine Zd HT.out ?_;rintro e w2 ⟨rfl,hb⟩;have HW:=Zh (Zi (hw.trans (hb.mono hw.size)) (HS.out.below hb));clear hb;go_wp2;go_ret;exact ⟨⟨_,rfl,HW.out.2⟩,HW.out.1⟩
set_option maxRecDepth 100000 in
set_option maxHeartbeats 4000000 in
theorem ref1_twiceN {w:World} {A:Option Addr} {n M b0:Nat} (c:Nat) (hv:DigsAt w A n (digs M)) (hn:n<=2000) (hb0:b0<=1) :
 Calls Tryz.prog 140 #[.slice A n c,.int .u32 (b0:Nat)] w fun r w'=>NewR w (2*M+b0) r w'/\Below w.heap.size w w':=by
 obtain ⟨i0,hi,hz0,hz1,hz2⟩:=info_u32;have hni:(n:Int)<=2000:=aO
 have hl:=hv.len;have HV:=Zh hv;have HL:=Zh hl;have hw:=Zb w.heap.size w;clear hv hl;go_enter Tryz.func140,Tryz.ntmps140;go_wp2;go_loopw [1,5,6] (fun bv u i wr=>∃ (j b:Nat) (R:List Nat),j<=n/\i = .int .i64 j/\bv = .int .u32 (b:Nat)/\b<=1/\Below w.heap.size w wr/\GrowD wr w.heap.size u j R/\vD R+4294967296^j*b=2*(M%4294967296^j)+b0) (fun _ _ i _=>n - (intOf i).toNat)
 case atStart=>exact ⟨0,b0,[],aO,rfl,rfl,hb0,hw,GrowD.start _ _,by simp [vD_nil,Nat.mod_one]⟩
 case round =>
  clear hw;obtain ⟨j,b,R,hj,rfl,rfl,hb1,hw,hG,hval⟩:=hrel;have HG:=Zh hG;have HR:=Zh hval;have hwz:=hw.size;clear hG hval
  by_cases hjn:j<n
  ·have hjni:(j:Int)<(n:Int):=aO
   obtain ⟨d,hd⟩:=Zx (dAt (digs M) j);have hd1:d<4294967296:=by rw [<- hd]; exact (digs_dg M).at_ _
   obtain ⟨bb,off,hA,hbl,a1⟩:=(HV.out.below hw).cells hjn hd;subst hA;obtain ⟨h1,h2,h3⟩:=half_word d hd1 b hb1;obtain ⟨y,hy⟩:=Zx (d / 2147483648);have hyi:(d:Int) / 2147483648=(y:Int):=aO
   obtain ⟨x,hx⟩:=Zx (d*2%4294967296);have hxi:IntKind.u32.wrap ((d:Int)*2)=(x:Int):=by rw [IntKind.wrap_u32]; omega
   have hor:bits .or .u32 (x:Int) (b:Int)=((x+b:Nat):Int):=by
    have:=shl_or (d:=d) (c:=b) (t:=0) 1 aO aO;simpa [hx] using this
   rw [hy,hx] at h1;rw [hx] at h2;rw [hy] at h3;obtain ⟨r,hr⟩:=Zx (x+b);rw [hr] at hor h1 h2;have HRB:=Zh h2;have HS:=Zh (two_step HG.out.len HR.out (by rw [hd]; exact h1));have OL:Hid (∀ b,u5.ownBlock=some b->b<wr.heap.size):=Zh (fun b hb=>ownBlock_lt HG.out.row hb);have HD:=Zh hd;clear hd h1 h2 hy hx hr;go_wp2_with (at_builtin; refine wpList_append_lies _ rfl _ _ _ (by rfl) w.heap.size 97 i0 (.int .u32 0) 1 4 Tryz.underlying33 hi hz0 hz1 hz2 rfl aO _ j (encR R) (by rfl) (HG.out.row.alloc _) ⟨wr.heap.size,0,none⟩ 1 1 [.int .u32 (r:Nat)] (by rfl) rfl (World.news_of_block (heap_alloc_new wr _)) (fun u hu=>by simp at hu; subst hu; rfl) aO (by unfold maxLen; omega) aO aT (wr.heap.size+1) aS ?_);intro ga ca wa hoa hga hata hlta;rw [encR_snoc] at hoa;have Ba:=Zh (Below.grown (hw.alloc aO (.cells #[.int .u32 (r:Nat)] 97)) hga aT (fun b hb=>ownBlock_ge HG.out.row hb));have Ga:Hid (GrowD wa w.heap.size (.slice (some ⟨ga,0,none⟩) (j+1) ca) (j+1) (R++[r])):=Zh ⟨hoa,by rw [List.length_append,HG.out.len]; rfl,HG.out.dg.append (Dg.one HRB.out)⟩;clear hoa hga hata hlta;obtain ⟨bb2,off2,e2,_,a2⟩:=(HV.out.below Ba.out).cells hjn HD.out;cases e2;go_wp2;go_roundw
   case rel=>exact ⟨j+1,y,_,aO,by go_num,rfl,h3,Ba.out,Ga.out,HS.out⟩
   case measure=>simp [intOf]; omega
  ·obtain rfl:j=n:=aO
   have hjni:¬ (j:Int)<(j:Int):=aO
   have HRB:Hid (b<4294967296):=Zh aO;have hval:=HR.out;rw [mod_all (by rw [HL.out]; exact Zr _),<- vD_app R b HG.out.len] at hval;have HVL:=Zh hval;have OL:Hid (∀ b,u5.ownBlock=some b->b<wr.heap.size):=Zh (fun b hb=>ownBlock_lt HG.out.row hb);clear hval;go_wp2_with (at_builtin; refine wpList_append_lies _ rfl _ _ _ (by rfl) w.heap.size 97 i0 (.int .u32 0) 1 4 Tryz.underlying33 hi hz0 hz1 hz2 rfl aO _ j (encR R) (by rfl) (HG.out.row.alloc _) ⟨wr.heap.size,0,none⟩ 1 1 [.int .u32 (b:Nat)] (by rfl) rfl (World.news_of_block (heap_alloc_new wr _)) (fun u hu=>by simp at hu; subst hu; rfl) aO (by unfold maxLen; omega) aO aT (wr.heap.size+1) aS ?_);intro gz cz wz hoz hgz hatz hltz;rw [encR_snoc] at hoz;have Bz:=Zh (Below.grown (hw.alloc aO (.cells #[.int .u32 (b:Nat)] 97)) hgz aT (fun b hb=>ownBlock_ge HG.out.row hb));have Gz:Hid (GrowD wz w.heap.size (.slice (some ⟨gz,0,none⟩) (j+1) cz) (j+1) (R++[b])):=Zh ⟨hoz,by rw [List.length_append,HG.out.len]; rfl,HG.out.dg.append (Dg.one HRB.out)⟩;clear hoz hgz hatz hltz;have hval:=HVL.out;obtain ⟨Az,cy,e2,g1,g2,g3,g4⟩:=Gz.out.slice;simp only [Value.slice.injEq] at e2;obtain ⟨rfl,_,rfl⟩:=e2;obtain ⟨g5,e5,g6,g7⟩:=g4 aO;cases e5;have HT:=Zh (ref1_trim cz g3 g1 g2);have HS:=Zh (Zi hval (Zi g1 (Zi g2 (Zi g3 (Zi g6 g7)))));clear hval g1 g2 g3 g4 g6 g7;go_wp2_with fail;refine Zd HT.out ?_;rintro e w2 ⟨rfl,hb⟩;have HW:=Zh (Zi (Bz.out.trans (hb.mono Bz.out.size)) (NewR.of (w:=w) (HS.out.2.2.2.1.below hb) HS.out.2.1 HS.out.2.2.1 HS.out.1 HS.out.2.2.2.2.1 (Zl HS.out.2.2.2.2.2 hb.size)));clear hb;go_wp2;go_ret;exact ⟨HW.out.2,HW.out.1⟩
theorem NewR.slN {w w':World} {N:Nat} {r:Ending} (h:NewR w N r w'):∃ v,r = .returned v/\SlN w.heap.size w' v N:=by
 obtain ⟨b,C,rfl,h1,h2,h3,h4,h5⟩:=h;exact ⟨_,rfl,_,_,C,rfl,h1,h2,h3,fun b' off e=>by cases e; exact h4⟩
theorem ref1_twice {w:World} {A:Option Addr} {n M b0:Nat} (c:Nat) (hv:DigsAt w A n (digs M)) (hn:n<=2000) (hb0:b0<=1) :
 Calls Tryz.prog 140 #[.slice A n c,.int .u32 (b0:Nat)] w fun r w'=>(∃ v,r = .returned v/\SlN w.heap.size w' v (2*M+b0))/\Below w.heap.size w w':=
 (ref1_twiceN c hv hn hb0).mono fun _ _ h=>⟨h.1.slN,h.2⟩
set_option maxRecDepth 100000 in
set_option maxHeartbeats 4000000 in
theorem ref1_plusN {w:World} {A1 A2:Option Addr} {n1 n2 M N:Nat} (c1 c2:Nat) (hv1:DigsAt w A1 n1 (digs M)) (hv2:DigsAt w A2 n2 (digs N)) (hn1:n1<=2000) (hn2:n2<=2000) :
 Calls Tryz.prog 118 #[.slice A1 n1 c1,.slice A2 n2 c2] w fun r w'=>NewR w (M+N) r w'/\Below w.heap.size w w':=by
 obtain ⟨i0,hi,hz0,hz1,hz2⟩:=info_u32;obtain ⟨n,hn⟩:=Zx (max n1 n2);have hni:(n:Int)<=2000:=aO
 have hl1:=hv1.len;have hl2:=hv2.len;have HV1:=Zh hv1;have HV2:=Zh hv2;have HL:=Zh (Zi (show (digs M).length<=n by omega) (show (digs N).length<=n by omega));have hw:=Zb w.heap.size w;clear hv1 hv2 hl1 hl2;go_enter Tryz.func118,Tryz.ntmps118;go_wp2;go_loopw [5,6,7] (fun u cv i wr=>∃ (j b:Nat) (R:List Nat),j<=n/\i = .int .i64 j/\cv = .int .u64 (b:Nat)/\b<=1/\Below w.heap.size w wr/\GrowD wr w.heap.size u j R/\vD R+4294967296^j*b=M%4294967296^j+N%4294967296^j) (fun _ _ i _=>n - (intOf i).toNat)
 case atStart=>exact ⟨0,0,[],aO,rfl,rfl,aO,hw,GrowD.start _ _,by simp [vD_nil,Nat.mod_one]⟩
 case round =>
  clear hw;obtain ⟨j,b,R,hj,rfl,rfl,hb1,hw,hG,hval⟩:=hrel;have HG:=Zh hG;have HR:=Zh hval;have hwz:=hw.size;clear hG hval
  by_cases hjn:j<n
  ·obtain ⟨d,hd⟩:=Zx (dAt (digs M) j);obtain ⟨e,he⟩:=Zx (dAt (digs N) j);have hd1:d<4294967296:=by rw [<- hd]; exact (digs_dg M).at_ _
   have he1:e<4294967296:=by rw [<- he]; exact (digs_dg N).at_ _
   have q1:=ref1_at (w:=wr) c1 j (HV1.out.below hw) aO;have q2:=ref1_at (w:=wr) c2 j (HV2.out.below hw) aO;rw [hd] at q1;rw [he] at q2;have Q1:=Zh q1;have Q2:=Zh q2;have hs1:IntKind.u64.wrap ((b:Int)+(d:Int))=(b:Int)+(d:Int):=by rw [IntKind.wrap_u64]; omega
   have hs2:IntKind.u64.wrap ((b:Int)+(d:Int)+(e:Int))=(b:Int)+(d:Int)+(e:Int):=by rw [IntKind.wrap_u64]; omega
   obtain ⟨s,hs⟩:=Zx (b+d+e);have hsi:(b:Int)+(d:Int)+(e:Int)=(s:Int):=aO
   obtain ⟨r,hr⟩:=Zx (s%4294967296);obtain ⟨y,hy⟩:=Zx (s / 4294967296);have hri:IntKind.u32.wrap (s:Int)=(r:Int):=by rw [IntKind.wrap_u32]; omega
   have hyi:(s:Int) / 4294967296=(y:Int):=aO
   have h3:y<=1:=aO
   have HRB:Hid (r<4294967296):=Zh aO;have HS:=Zh (plus_step HG.out.len HR.out (show b+dAt (digs M) j+dAt (digs N) j=r+4294967296*y by rw [hd,he]; omega));have OL:Hid (∀ b,u5.ownBlock=some b->b<wr.heap.size):=Zh (fun b hb=>ownBlock_lt HG.out.row hb);clear hd he hs hr hy q1 q2;have hcond:(j:Int)<(n1:Int)\/(¬ (j:Int)<(n1:Int)/\(j:Int)<(n2:Int)):=aO
   have HC:=Zh hcond;clear hcond;rcases HC.out with hc1 | ⟨hc1,hc2⟩
   ·go_wp2_with fail;refine Zd Q1.out ?_;rintro e2 w2 ⟨rfl,rfl⟩;go_wp2_with fail;refine Zd Q2.out ?_;rintro e2 w3 ⟨rfl,rfl⟩;go_wp2_with (at_builtin; refine wpList_append_lies _ rfl _ _ _ (by rfl) w.heap.size 97 i0 (.int .u32 0) 1 4 Tryz.underlying33 hi hz0 hz1 hz2 rfl aO _ j (encR R) (by rfl) (HG.out.row.alloc _) ⟨wr.heap.size,0,none⟩ 1 1 [.int .u32 (r:Nat)] (by rfl) rfl (World.news_of_block (heap_alloc_new wr _)) (fun u hu=>by simp at hu; subst hu; rfl) aO (by unfold maxLen; omega) aO aT (wr.heap.size+1) aS ?_);intro ga ca wa hoa hga hata hlta;rw [encR_snoc] at hoa;have Ba:=Zh (Below.grown (hw.alloc aO (.cells #[.int .u32 (r:Nat)] 97)) hga aT (fun b hb=>ownBlock_ge HG.out.row hb));have Ga:Hid (GrowD wa w.heap.size (.slice (some ⟨ga,0,none⟩) (j+1) ca) (j+1) (R++[r])):=Zh ⟨hoa,by rw [List.length_append,HG.out.len]; rfl,HG.out.dg.append (Dg.one HRB.out)⟩;clear hoa hga hata hlta;go_wp2;go_roundw
    case rel=>exact ⟨j+1,y,_,aO,by go_num,rfl,h3,Ba.out,Ga.out,HS.out⟩
    case measure=>simp [intOf]; omega
   ·go_wp2_with fail;refine Zd Q1.out ?_;rintro e2 w2 ⟨rfl,rfl⟩;go_wp2_with fail;refine Zd Q2.out ?_;rintro e2 w3 ⟨rfl,rfl⟩;go_wp2_with (at_builtin; refine wpList_append_lies _ rfl _ _ _ (by rfl) w.heap.size 97 i0 (.int .u32 0) 1 4 Tryz.underlying33 hi hz0 hz1 hz2 rfl aO _ j (encR R) (by rfl) (HG.out.row.alloc _) ⟨wr.heap.size,0,none⟩ 1 1 [.int .u32 (r:Nat)] (by rfl) rfl (World.news_of_block (heap_alloc_new wr _)) (fun u hu=>by simp at hu; subst hu; rfl) aO (by unfold maxLen; omega) aO aT (wr.heap.size+1) aS ?_);intro ga ca wa hoa hga hata hlta;rw [encR_snoc] at hoa;have Ba:=Zh (Below.grown (hw.alloc aO (.cells #[.int .u32 (r:Nat)] 97)) hga aT (fun b hb=>ownBlock_ge HG.out.row hb));have Ga:Hid (GrowD wa w.heap.size (.slice (some ⟨ga,0,none⟩) (j+1) ca) (j+1) (R++[r])):=Zh ⟨hoa,by rw [List.length_append,HG.out.len]; rfl,HG.out.dg.append (Dg.one HRB.out)⟩;clear hoa hga hata hlta;go_wp2;go_roundw
    case rel=>exact ⟨j+1,y,_,aO,by go_num,rfl,h3,Ba.out,Ga.out,HS.out⟩
    case measure=>simp [intOf]; omega
  ·obtain rfl:j=n:=aO
   have hc1:¬ (j:Int)<(n1:Int):=aO
   have hc2:¬ (j:Int)<(n2:Int):=aO
   have HRB:Hid (b<4294967296):=Zh aO;have hbw:IntKind.u32.wrap (b:Int)=(b:Int):=by rw [IntKind.wrap_u32]; omega
   have hval:=HR.out;rw [mod_all HL.out.1,mod_all HL.out.2,<- vD_app R b HG.out.len] at hval;have HVL:=Zh hval;have OL:Hid (∀ b,u5.ownBlock=some b->b<wr.heap.size):=Zh (fun b hb=>ownBlock_lt HG.out.row hb);clear hval;go_wp2_with (at_builtin; refine wpList_append_lies _ rfl _ _ _ (by rfl) w.heap.size 97 i0 (.int .u32 0) 1 4 Tryz.underlying33 hi hz0 hz1 hz2 rfl aO _ j (encR R) (by rfl) (HG.out.row.alloc _) ⟨wr.heap.size,0,none⟩ 1 1 [.int .u32 (b:Nat)] (by rfl) rfl (World.news_of_block (heap_alloc_new wr _)) (fun u hu=>by simp at hu; subst hu; rfl) aO (by unfold maxLen; omega) aO aT (wr.heap.size+1) aS ?_);intro gz cz wz hoz hgz hatz hltz;rw [encR_snoc] at hoz;have Bz:=Zh (Below.grown (hw.alloc aO (.cells #[.int .u32 (b:Nat)] 97)) hgz aT (fun b hb=>ownBlock_ge HG.out.row hb));have Gz:Hid (GrowD wz w.heap.size (.slice (some ⟨gz,0,none⟩) (j+1) cz) (j+1) (R++[b])):=Zh ⟨hoz,by rw [List.length_append,HG.out.len]; rfl,HG.out.dg.append (Dg.one HRB.out)⟩;clear hoz hgz hatz hltz;have hval:=HVL.out;obtain ⟨Az,cy,e2,g1,g2,g3,g4⟩:=Gz.out.slice;simp only [Value.slice.injEq] at e2;obtain ⟨rfl,_,rfl⟩:=e2;obtain ⟨g5,e5,g6,g7⟩:=g4 aO;cases e5;have HT:=Zh (ref1_trim cz g3 g1 g2);have HS:=Zh (Zi hval (Zi g1 (Zi g2 (Zi g3 (Zi g6 g7)))));clear hval g1 g2 g3 g4 g6 g7;go_wp2_with fail;refine Zd HT.out ?_;rintro e w2 ⟨rfl,hb⟩;have HW:=Zh (Zi (Bz.out.trans (hb.mono Bz.out.size)) (NewR.of (w:=w) (HS.out.2.2.2.1.below hb) HS.out.2.1 HS.out.2.2.1 HS.out.1 HS.out.2.2.2.2.1 (Zl HS.out.2.2.2.2.2 hb.size)));clear hb;go_wp2;go_ret;exact ⟨HW.out.2,HW.out.1⟩
set_option maxRecDepth 100000 in
set_option maxHeartbeats 4000000 in
theorem ref1_minusN {w:World} {A1 A2:Option Addr} {n1 n2 M N:Nat} (c1 c2:Nat) (hv1:DigsAt w A1 n1 (digs M)) (hv2:DigsAt w A2 n2 (digs N)) (hn1:n1<=2000) (hn2:n2<=n1) (hle:N<=M) :
 Calls Tryz.prog 119 #[.slice A1 n1 c1,.slice A2 n2 c2] w fun r w'=>((∃ v,r = .returned v/\SlN w.heap.size w' v (M - N))/\(0<n1->NewR w (M - N) r w'))/\Below w.heap.size w w':=by
 obtain ⟨i0,hi,hz0,hz1,hz2⟩:=info_u32;have hn:=hn1;have hni:(n1:Int)<=2000:=aO
 have hl1:=hv1.len;have hl2:=hv2.len;have HV1:=Zh hv1;have HV2:=Zh hv2;have HL:=Zh (Zi (show (digs M).length<=n1 by omega) (show (digs N).length<=n1 by omega));have hw:=Zb w.heap.size w;clear hv1 hv2 hl1 hl2;go_enter Tryz.func119,Tryz.ntmps119;go_wp2;go_loopw [5,6,7] (fun u cv i wr=>∃ (j b:Nat) (R:List Nat),j<=n1/\i = .int .i64 j/\cv = .int .u64 (b:Nat)/\b<=1/\Below w.heap.size w wr/\GrowD wr w.heap.size u j R/\vD R+N%4294967296^j=M%4294967296^j+4294967296^j*b) (fun _ _ i _=>n1 - (intOf i).toNat)
 case atStart=>exact ⟨0,0,[],aO,rfl,rfl,aO,hw,GrowD.start _ _,by simp [vD_nil,Nat.mod_one]⟩
 case round =>
  clear hw;obtain ⟨j,b,R,hj,rfl,rfl,hb1,hw,hG,hval⟩:=hrel;have HG:=Zh hG;have HR:=Zh hval;have hwz:=hw.size;clear hG hval
  by_cases hjn:j<n1
  ·obtain ⟨d,hd⟩:=Zx (dAt (digs M) j);obtain ⟨e,he⟩:=Zx (dAt (digs N) j);have hd1:d<4294967296:=by rw [<- hd]; exact (digs_dg M).at_ _
   have he1:e<4294967296:=by rw [<- he]; exact (digs_dg N).at_ _
   have q1:=ref1_at (w:=wr) c1 j (HV1.out.below hw) aO;have q2:=ref1_at (w:=wr) c2 j (HV2.out.below hw) aO;rw [hd] at q1;rw [he] at q2;have Q1:=Zh q1;have Q2:=Zh q2;obtain ⟨s,hs⟩:=Zx (4294967296+d - e - b);have hs1:IntKind.u64.wrap (4294967296+(d:Int))=4294967296+(d:Int):=by rw [IntKind.wrap_u64]; omega
   have hs2:IntKind.u64.wrap (4294967296+(d:Int) - (e:Int))=4294967296+(d:Int) - (e:Int):=by rw [IntKind.wrap_u64]; omega
   have hs3:IntKind.u64.wrap (4294967296+(d:Int) - (e:Int) - (b:Int))=(s:Int):=by rw [IntKind.wrap_u64]; omega
   obtain ⟨r,hr⟩:=Zx (s%4294967296);obtain ⟨t,ht⟩:=Zx (s / 4294967296);have hri:IntKind.u32.wrap (s:Int)=(r:Int):=by rw [IntKind.wrap_u32]; omega
   have hti:(s:Int) / 4294967296=(t:Int):=aO
   obtain ⟨y,hy⟩:=Zx (1 - t);have hyi:IntKind.u64.wrap (1 - (t:Int))=(y:Int):=by rw [IntKind.wrap_u64]; omega
   have h3:y<=1:=aO
   have HRB:Hid (r<4294967296):=Zh aO;have HS:=Zh (minus_step HG.out.len HR.out (show r+dAt (digs N) j+b=dAt (digs M) j+4294967296*y by rw [hd,he]; omega));have OL:Hid (∀ b,u5.ownBlock=some b->b<wr.heap.size):=Zh (fun b hb=>ownBlock_lt HG.out.row hb);have hc1:(j:Int)<(n1:Int):=aO
   clear hd he hs hr hy ht q1 q2
   ·go_wp2_with fail;refine Zd Q1.out ?_;rintro e2 w2 ⟨rfl,rfl⟩;go_wp2_with fail;refine Zd Q2.out ?_;rintro e2 w3 ⟨rfl,rfl⟩;go_wp2_with (at_builtin; refine wpList_append_lies _ rfl _ _ _ (by rfl) w.heap.size 97 i0 (.int .u32 0) 1 4 Tryz.underlying33 hi hz0 hz1 hz2 rfl aO _ j (encR R) (by rfl) (HG.out.row.alloc _) ⟨wr.heap.size,0,none⟩ 1 1 [.int .u32 (r:Nat)] (by rfl) rfl (World.news_of_block (heap_alloc_new wr _)) (fun u hu=>by simp at hu; subst hu; rfl) aO (by unfold maxLen; omega) aO aT (wr.heap.size+1) aS ?_);intro ga ca wa hoa hga hata hlta;rw [encR_snoc] at hoa;have Ba:=Zh (Below.grown (hw.alloc aO (.cells #[.int .u32 (r:Nat)] 97)) hga aT (fun b hb=>ownBlock_ge HG.out.row hb));have Ga:Hid (GrowD wa w.heap.size (.slice (some ⟨ga,0,none⟩) (j+1) ca) (j+1) (R++[r])):=Zh ⟨hoa,by rw [List.length_append,HG.out.len]; rfl,HG.out.dg.append (Dg.one HRB.out)⟩;clear hoa hga hata hlta;go_wp2;go_roundw
    case rel=>exact ⟨j+1,y,_,aO,by go_num,rfl,h3,Ba.out,Ga.out,HS.out⟩
    case measure=>simp [intOf]; omega
  ·obtain rfl:j=n1:=aO
   have hc1:¬ (j:Int)<(j:Int):=aO
   have hval:=minus_end HG.out.len HG.out.dg HL.out.1 HL.out.2 hle HR.out;obtain ⟨Az,cz,e2,g1,g2,g3,g4⟩:=HG.out.slice;obtain ⟨Ay,cy,e3,_,_,_,g5⟩:=HG.out.sl;have e4:=e2.symm.trans e3;simp only [Value.slice.injEq] at e4;obtain ⟨rfl,_,rfl⟩:=e4;subst e2;have HT:=Zh (ref1_trim cz g3 g1 g2);have HS:=Zh (Zi hval (Zi g1 (Zi g2 (Zi g3 (Zi g4 g5)))));clear hval g1 g2 g3 g4 g5 e3;go_wp2_with fail;refine Zd HT.out ?_;rintro e w2 ⟨rfl,hb⟩;have HW:Hid (Below w.heap.size w w2/\SlN w.heap.size w2 (.slice Az (trimN R j) cz) (M - N)/\(0<j->NewR w (M - N) (.returned (.slice Az (trimN R j) cz)) w2)):=Zh ⟨hw.trans (hb.mono hw.size),by rw [<- HS.out.1]; exact (trim_slN HS.out.2.2.2.1 HS.out.2.1 HS.out.2.2.1 HS.out.2.2.2.2.2).below hb,fun h=>by
    obtain ⟨g,e,g6,g7⟩:=HS.out.2.2.2.2.1 h;have h4:=HS.out.2.2.2.1;subst e;exact NewR.of (h4.below hb) HS.out.2.1 HS.out.2.2.1 HS.out.1 g6 (Zl g7 hb.size)⟩
   clear hb HS;go_wp2;go_ret;exact ⟨⟨⟨_,rfl,HW.out.2.1⟩,HW.out.2.2⟩,HW.out.1⟩
theorem ref1_minus {w:World} {A1 A2:Option Addr} {n1 n2 M N:Nat} (c1 c2:Nat) (hv1:DigsAt w A1 n1 (digs M)) (hv2:DigsAt w A2 n2 (digs N)) (hn1:n1<=2000) (hn2:n2<=n1) (hle:N<=M) :
 Calls Tryz.prog 119 #[.slice A1 n1 c1,.slice A2 n2 c2] w fun r w'=>(∃ v,r = .returned v/\SlN w.heap.size w' v (M - N))/\Below w.heap.size w w':=
 (ref1_minusN c1 c2 hv1 hv2 hn1 hn2 hle).mono fun _ _ h=>⟨h.1.1,h.2⟩
theorem vD_put:∀ {L:List Nat} {i r:Nat},i<L.length->vD (L.set i r)+4294967296^i*dAt L i=vD L+4294967296^i*r
 | [],i,r,h=>by simp at h
 | d::L,0,r,_=>by
  rw [List.set_cons_zero,vD_cons,vD_cons];show r+_+4294967296^0*d=_;omega
 | d::L,i+1,r,h=>by
  rw [List.set_cons_succ,vD_cons,vD_cons];have e:=vD_put (L:=L) (i:=i) (r:=r) (by simpa using h);have e2:dAt (d::L) (i+1)=dAt L i:=rfl;have e3:=congrArg (4294967296*·) e;simp only [Nat.mul_add] at e3;rw [e2,Nat.pow_succ,Nat.mul_comm (4294967296^i) 4294967296,Nat.mul_assoc,Nat.mul_assoc];omega
theorem dAt_put {L:List Nat} {i r k:Nat} (h:i≠k):dAt (L.set i r) k=dAt L k:=by
 unfold dAt;rw [Ze,Ze,List.getElem?_set,if_neg h]
structure TimAt (M N n2 nn i k c:Nat) (L:List Nat):Prop where
 len:L.length=nn
 dg:Dg L
 val:vD L+4294967296^(i+k)*c=(M%4294967296^i)*N+4294967296^i*(dAt (digs M) i*(N%4294967296^k))
 zero:∀ q,i+n2<=q->dAt L q=0
theorem TimAt.start {M N n2 nn i:Nat} {L:List Nat} (h1:L.length=nn) (h2:Dg L) (h3:vD L=(M%4294967296^i)*N) (h4:∀ q,i+n2<=q->dAt L q=0):TimAt M N n2 nn i 0 0 L:=
 ⟨h1,h2,by rw [h3]; simp [Nat.mod_one],h4⟩
theorem TimAt.step {M N n2 nn i k c r c':Nat} {L:List Nat} (h:TimAt M N n2 nn i k c L) (hk:k<n2) (hp:i+k<nn) (hr:r<4294967296) (hs:c+dAt L (i+k)+dAt (digs M) i*dAt (digs N) k=r+4294967296*c'):TimAt M N n2 nn i (k+1) c' (L.set (i+k) r):=by
 refine ⟨by rw [List.length_set,h.len],h.dg.set _ _ hr,?_,fun q hq=>by rw [dAt_put aO]; exact h.zero q hq⟩;have e:=vD_put (L:=L) (i:=i+k) (r:=r) (by rw [h.len]; exact hp);have hv:=h.val;rw [mod_dig N k,show i+(k+1)=i+k+1 by omega,Nat.pow_succ];have e2:=congrArg (4294967296^(i+k)*·) hs;simp only [Nat.mul_add] at e2;have e3:4294967296^(i+k)*(dAt (digs M) i*dAt (digs N) k)=4294967296^i*(dAt (digs M) i*(4294967296^k*dAt (digs N) k)):=by rw [Nat.pow_add]; simp only [Nat.mul_assoc,Nat.mul_left_comm]
 rw [Nat.mul_add,Nat.mul_add,<- e3,Nat.mul_assoc];omega
theorem TimAt.done {M N n2 nn i c:Nat} {L:List Nat} (h:TimAt M N n2 nn i n2 c L) (hN:(digs N).length<=n2) (hp:i+n2<nn) (hc:c<4294967296):(L.set (i+n2) c).length=nn/\Dg (L.set (i+n2) c)/\vD (L.set (i+n2) c)=(M%4294967296^(i+1))*N/\∀ q,i+1+n2<=q->dAt (L.set (i+n2) c) q=0:=by
 refine ⟨by rw [List.length_set,h.len],h.dg.set _ _ hc,?_,fun q hq=>by rw [dAt_put aO]; exact h.zero q aO⟩;have e:=vD_put (L:=L) (i:=i+n2) (r:=c) (by rw [h.len]; exact hp);rw [h.zero _ (Zr _),Nat.mul_zero,Nat.add_zero] at e;rw [e,h.val,mod_all hN,mod_dig,Nat.add_mul,Nat.mul_assoc]
theorem times_word {c x a b:Nat} (hc:c<4294967296) (hx:x<4294967296) (ha:a<4294967296) (hb:b<4294967296):c+x+a*b<18446744073709551616/\a*b<18446744073709551616:=by
 have:a*b<=4294967295*4294967295:=Nat.mul_le_mul aO aO;omega
set_option maxRecDepth 100000 in
set_option maxHeartbeats 4000000 in
theorem ref1_timesN {w:World} {A1 A2:Option Addr} {n1 n2 M N:Nat} (c1 c2:Nat) (hv1:DigsAt w A1 n1 (digs M)) (hv2:DigsAt w A2 n2 (digs N)) (hn1:n1<=2000) (hn2:n2<=2000) :
 Calls Tryz.prog 120 #[.slice A1 n1 c1,.slice A2 n2 c2] w fun r w'=>NewR w (M*N) r w'/\Below w.heap.size w w':=by
 obtain ⟨nn,hnn⟩:=Zx (n1+n2);have hnni:(n1:Int)+(n2:Int)=(nn:Int):=aO
 have hmk:=make_u32s nn aO;have hl1:=hv1.len;have hl2:=hv2.len;have HV1:=Zh hv1;have HV2:=Zh hv2;have HL:=Zh (Zi hl1 hl2);have hW:=(Zb w.heap.size w).alloc (Zr _) (.cells (encU (List.replicate nn 0)) 97);have o5:OwnD (w.alloc (.cells (encU (List.replicate nn 0)) 97)) w.heap.size (List.replicate nn 0):=OwnD.new _ _;clear hv1 hv2 hl1 hl2;go_enter Tryz.func120,Tryz.ntmps120;go_wp2;generalize (w.alloc (.cells (encU (List.replicate nn 0)) 97))=W0 at *;obtain ⟨bo,hbo⟩:=Zx (w.heap.size);have hboW:bo<W0.heap.size:=by rw [<- hbo]; exact Own.lt o5
 have HV1':=Zh (HV1.out.below hW);have HV2':=Zh (HV2.out.below hW);have hA1:∀ b off,A1=some ⟨b,off,none⟩->0<n1->b<bo:=fun b off e h=>by rw [<- hbo]; exact HV1.out.under b off e h
 have hA2:∀ b off,A2=some ⟨b,off,none⟩->0<n2->b<bo:=fun b off e h=>by rw [<- hbo]; exact HV2.out.under b off e h
 have HA:=Zh (Zi hA1 hA2);rw [hbo] at o5 ⊢;have HO5:=Zh o5;have HBO:=Zh hbo;have HWW:=Zh hW;clear hA1 hA2 hmk o5 hbo hW HV1 HV2;go_loopw [6] (fun iv wr=>∃ (i:Nat) (L:List Nat),i<=n1/\iv = .int .i64 i/\Upd [bo] W0 wr/\OwnD wr bo L/\(L.length=nn/\Dg L/\vD L=(M%4294967296^i)*N/\∀ q,i+n2<=q->dAt L q=0)) (fun iv _=>n1 - (intOf iv).toNat)
 case atStart=>exact ⟨0,_,aO,rfl,Upd.refl _ _,HO5.out,List.length_replicate,Dg.zeros _,by rw [vD_zeros]; simp [Nat.mod_one],fun q _=>dAt_zeros _ _⟩
 case round =>
  obtain ⟨i,L,hi,rfl,hU,hO,hT⟩:=hrel;have HT:=Zh hT;have HO:=Zh hO;clear hT hO HO5
  by_cases hi1:i<n1
  ·have hii:(i:Int)<(n1:Int):=aO
   obtain ⟨a,ha⟩:=Zx (dAt (digs M) i);have ha1:a<4294967296:=by rw [<- ha]; exact (digs_dg M).at_ _
   obtain ⟨bb,off,hA,hbl,x1⟩:=HV1'.out.cells hi1 ha;subst hA;have hbb:=HA.out.1 bb off rfl aO;have HAA:=Zh ha;clear ha;go_wp2;go_loopw [7,8] (fun cv kv wr=>∃ (k c:Nat) (L:List Nat),k<=n2/\kv = .int .i64 k/\cv = .int .u64 (c:Nat)/\c<4294967296/\Upd [bo] W0 wr/\OwnD wr bo L/\TimAt M N n2 nn i k c L) (fun _ kv _=>n2 - (intOf kv).toNat)
   case atStart=>exact ⟨0,0,L,aO,rfl,rfl,aO,hU,HO.out,TimAt.start HT.out.1 HT.out.2.1 HT.out.2.2.1 HT.out.2.2.2⟩
   case round =>
    clear hU HO HT;obtain ⟨k,c,L,hk,rfl,rfl,hc,hU,hO,hT⟩:=hrel;have HT:=Zh hT;have oL:=hO;have hUz:=hU.size;clear hT hO
    by_cases hk2:k<n2
    ·have hki:(k:Int)<(n2:Int):=aO
     obtain ⟨b,hb⟩:=Zx (dAt (digs N) k);have hb1:b<4294967296:=by rw [<- hb]; exact (digs_dg N).at_ _
     obtain ⟨b2,of2,hA,hbl2,x2⟩:=HV2'.out.cells hk2 hb;subst hA;have hb2o:=HA.out.2 b2 of2 rfl aO;obtain ⟨p,hp⟩:=Zx (i+k);have hpi:(i:Int)+(k:Int)=(p:Int):=aO
     have hpn:(p:Int)<(nn:Int):=aO
     obtain ⟨x,hx⟩:=Zx (dAt L p);have hx1:x<4294967296:=by rw [<- hx]; exact HT.out.dg.at_ _
     have x0:=oL.cell (show p<L.length by rw [HT.out.len]; omega) hx;have x3:=(Zc (w:=W0) (a:=⟨bb,off+i,none⟩) (hU.block bb hbl aT)).trans x1;have x4:=(Zc (w:=W0) (a:=⟨b2,of2+k,none⟩) (hU.block b2 hbl2 aT)).trans x2;obtain ⟨h1,h2⟩:=times_word hc hx1 ha1 hb1;obtain ⟨ab,hab⟩:=Zx (a*b);rw [hab] at h1 h2;have habi:(a:Int)*(b:Int)=(ab:Int):=by rw [<- hab]; simp
     have hw1:IntKind.u64.wrap (ab:Int)=(ab:Int):=by rw [IntKind.wrap_u64]; omega
     have hw2:IntKind.u64.wrap ((c:Int)+(x:Int))=(c:Int)+(x:Int):=by rw [IntKind.wrap_u64]; omega
     have hw3:IntKind.u64.wrap ((c:Int)+(x:Int)+(ab:Int))=(c:Int)+(x:Int)+(ab:Int):=by rw [IntKind.wrap_u64]; omega
     obtain ⟨s,hs⟩:=Zx (c+x+ab);have hsi:(c:Int)+(x:Int)+(ab:Int)=(s:Int):=aO
     obtain ⟨r,hr⟩:=Zx (s%4294967296);obtain ⟨y,hy⟩:=Zx (s / 4294967296);have hri:IntKind.u32.wrap (s:Int)=(r:Int):=by rw [IntKind.wrap_u32]; omega
     have hyi:(s:Int) / 4294967296=(y:Int):=aO
     have hy1:y<4294967296:=aO
     have hst:=HT.out.step (r:=r) (c':=y) hk2 aO aO (by rw [hp,hx,HAA.out,hb,hab,hs]; omega);rw [hp] at hst;have HS:=Zh hst;have hpl:p<L.length:=by rw [HT.out.len]; omega
     have hblw:bb<wr.heap.size:=Zl hbl hUz;have hbl2w:b2<wr.heap.size:=Zl hbl2 hUz;have hlo:=Own.lt oL;clear hb hp hx hab hs hr hy hst h1 h2 hx1 HT;go_wp2;refine region_late 21 [] aK aK (by rfl) ?_;apply Zs;refine ⟨fun v hv hne=>?_,fun u hu=>?_⟩
     ·simp only [List.take_succ_cons,List.take_zero];have d0:=fun y:Later [] wr v=>(y.cell bo p hlo aS).trans x0
      have d1:=fun y:Later [] wr v=>(y.cell bb (off+i) hblw aS).trans x3
      have d2:=fun y:Later [] wr v=>(y.cell b2 (of2+k) hbl2w aS).trans x4
      repeat (go_big_quiet_step (fail))
      refine wpQuiet_nil ?_;exact rfl
     simp only [List.drop_succ_cons,List.drop_zero];refine late_mem (fun K hK=>?_);go_simp;refine hK _ _ (Keeps.of_below hu) (fun u2 hu2=>?_);clear hK K;refine late_nil ?_
     (try simp only [LN])
     have oL2:=(oL.below hu).below hu2;have hU2:=(hU.hop hu).hop hu2;have x5:=(Zc (w:=u) (a:=⟨bo,p,none⟩) (hu2.block bo (Own.lt (oL.below hu)))).trans ((Zc (w:=wr) (a:=⟨bo,p,none⟩) (hu.block bo hlo)).trans x0);have f5:=Own.thaw oL2;clear oL hU hu hu2 x0 x3 x4 hUz hlo hblw hbl2w;go_wp2;go_roundw
     case rel=>exact ⟨k+1,y,_,aO,by go_num,rfl,hy1,hU2.set (p:=⟨bo,p,none⟩) aS _,oL2.set rfl,HS.out⟩
     case measure=>simp [intOf]; omega
    ·obtain rfl:k=n2:=aO
     have hki:¬ (k:Int)<(k:Int):=aO
     obtain ⟨p,hp⟩:=Zx (i+k);have hpi:(i:Int)+(k:Int)=(p:Int):=aO
     have hpn:(p:Int)<(nn:Int):=aO
     obtain ⟨x,hx⟩:=Zx (dAt L p);have x0:=oL.cell (show p<L.length by rw [HT.out.len]; omega) hx;have f0:=Own.thaw oL;have hcw:IntKind.u32.wrap (c:Int)=(c:Int):=by rw [IntKind.wrap_u32]; omega
     have hdn:=HT.out.done (by rw [HL.out.2]; exact Zr _) aO hc;rw [hp] at hdn;have HD:=Zh hdn;have HOL:=Zh oL;clear hdn hp hx HT oL;go_wp2;go_roundw
     case rel=>exact ⟨i+1,_,aO,by go_num,hU.set (p:=⟨bo,p,none⟩) aS _,HOL.out.set rfl,HD.out⟩
     case measure=>simp [intOf]; omega
  ·obtain rfl:i=n1:=aO
   have hii:¬ (i:Int)<(i:Int):=aO
   have hv:=HT.out.2.2.1;rw [mod_all (by rw [HL.out.1]; exact Zr _)] at hv;have hd:DigsAt wr (some ⟨bo,0,none⟩) nn L:=by
    have h:=HO.out.digs HT.out.2.1;rw [HT.out.1] at h;exact h
   have HT2:=Zh (ref1_trim nn hd (Zr _) aO);have HS:=Zh (Zi hd (Zi hv (Own.lt HO.out)));have hwr:Below w.heap.size w wr:=Upd.below HWW.out hU (fun b hb=>by have:=List.mem_singleton.1 hb; have:=HBO.out; omega);clear hv hd HT HO hU;go_wp2_with fail;refine Zd HT2.out ?_;rintro e w2 ⟨rfl,hb⟩;have HW:=Zh (Zi (hwr.trans (hb.mono hwr.size)) (NewR.of (w:=w) (HS.out.1.below hb) (Zr _) aO HS.out.2.1 (by rw [HBO.out]; exact Zr _) (Zl HS.out.2.2 hb.size)));clear hb;go_wp2;go_ret;exact ⟨HW.out.2,HW.out.1⟩
end Go.Proofs.YtflgngjocgiojaaGreat
