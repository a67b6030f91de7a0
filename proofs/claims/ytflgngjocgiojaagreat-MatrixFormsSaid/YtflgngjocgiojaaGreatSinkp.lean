import Derived.Test.YtflgngjocgiojaaGreatRefB
set_option linter.all false
namespace Go.Proofs.YtflgngjocgiojaaGreat
open Go.RowKit
set_option maxHeartbeats 8000000
set_option maxRecDepth 100000
def RetV (w:World) (z:Int) (r:Ending) (w':World):Prop:=(∃ b,r = .returned (numV z b)/\NumO w' b z/\w.heap.size<=b/\b<w'.heap.size)/\Below w.heap.size w w'
theorem of_val {w:World} (n:Int) (h1:-9223372036854775808<=n) (h2:n<=9223372036854775807):Calls Tryz.prog 21 #[.int .i64 n] w (RetV w n):=num_Of n h1 h2
theorem ratio_zero {w:World}:Calls Tryz.prog 63 #[] w fun r w'=>r = .returned zeroN/\Below w.heap.size w w':=by
 have hW:=(Zb w.heap.size w).alloc (Zr _) (.cells nz1 35);have o2:Own (w.alloc (.cells nz1 35)) w.heap.size nz1:=aOwn;have hz:=hW.size;go_enter Tryz.func63,Tryz.ntmps63;go_wp2_with fail;refine Zd (num_Of 0 aO aO) ?_;rintro e u1 ⟨⟨b,rfl,_,_,_⟩,hb⟩;have e0:numV 0 b = .agg nz1:=rfl;rw [e0];have hw:=hW.trans (hb.mono hz);have p2:=o2.below hb;have p2c:=p2.cell;have p2f:=p2.thaw;clear e0 hb;go_wp2;refine retC (b:=w.heap.size) (v:=zeroN) ((p2.set 0 _).set 1 _) (fun w' hw'=>by simp [results,Tryz.results63,go_sem,hw',zeroN]) rfl ⟨rfl,(hw.setCell aS _).setCell aS _⟩
theorem ratio_one {w:World}:Calls Tryz.prog 69 #[] w (RetV w 1):=by
 have hW:=(Zb w.heap.size w).alloc (Zr _) (.cells nz1 35);have o2:Own (w.alloc (.cells nz1 35)) w.heap.size nz1:=aOwn;have hz:=hW.size;go_enter Tryz.func69,Tryz.ntmps69;go_wp2_with fail;refine Zd (num_Of 1 aO aO) ?_;rintro e u1 ⟨⟨b,rfl,h1,h2,h3⟩,hb⟩;have hw:=hW.trans (hb.mono hz);have p2:=o2.below hb;have p2c:=p2.cell;have p2f:=p2.thaw;have HB:=Zh (Zi (Zl o2.lt h2) (Zi h3 h1));clear hb h1 h2 h3;obtain ⟨A9,n9,c9,hsl⟩:=slN_form 1 b;simp only [numV];rw [hsl];have HSL:=Zh hsl;clear hsl;go_wp2;refine retC (b:=w.heap.size) (v:= .agg #[.bool (sgnN 1),.slice A9 n9 c9]) ((p2.set 0 _).set 1 _) (fun w' hw'=>by simp [results,Tryz.results69,go_sem,hw']) rfl ⟨⟨b,by rw [numV,HSL.out],(HB.out.2.2.far (by simp; have:=HB.out.1; omega) _).far (by simp; have:=HB.out.1; omega) _,by have:=HB.out.1; omega,by simp; exact HB.out.2.1⟩,(hw.setCell aS _).setCell aS _⟩
theorem ratio_quotient {w:World} {v1 v2:Value} {z1 z2:Int} (h1:NumAt w v1 z1) (h2:NumAt w v2 z2) (h0:z2≠0):Calls Tryz.prog 65 #[v1,v2] w (RetV w (z1 / z2)):=by
 obtain ⟨z,hz⟩:=Zx (z1 / z2);rw [hz];have G1:=Zh h1;have G2:=Zh h2;obtain ⟨r1,k1⟩:=h1.raw;obtain ⟨r2,k2⟩:=h2.raw;obtain ⟨A1,n1,c1,rfl,hc1,hm1,hl1,d1⟩:=h1;obtain ⟨A2,n2,c2,rfl,hc2,hm2,hl2,d2⟩:=h2;obtain ⟨s1,hs1⟩:=Zx (decide (z1<0));obtain ⟨s2,hs2⟩:=Zx (decide (z2<0));rw [hs1] at r1 k1 G1 ⊢;rw [hs2] at r2 k2 G2 ⊢;have H:=Zh (Zi hz (Zi hs1 hs2));clear hz hs1 hs2 d1 d2 r1 k1 r2 k2;go_enter Tryz.func65,Tryz.ntmps65;have hW:=((((Zb w.heap.size w).alloc (Zr _) (.cells #[.bool s1,.slice A1 n1 c1] 35)).alloc aS (.cells #[.bool s2,.slice A2 n2 c2] 35)).alloc aT (.cells nz1 35));go_wp2_with fail;have o6:Own (((w.alloc (.cells #[.bool s1,.slice A1 n1 c1] 35)).alloc (.cells #[.bool s2,.slice A2 n2 c2] 35)).alloc (.cells nz1 35)) (w.heap.size+1+1) nz1:=aOwn;generalize (((w.alloc (.cells #[.bool s1,.slice A1 n1 c1] 35)).alloc (.cells #[.bool s2,.slice A2 n2 c2] 35)).alloc (.cells nz1 35))=W0 at *;have q:=num_Div (G1.out.below hW) (G2.out.below hW) h0;rw [H.out.1] at q;refine Zd q ?_;rintro e u1 ⟨⟨b,b2,rfl,g1,g2,g3,g4,g5,g6⟩,hb⟩;obtain ⟨A9,n9,c9,hsl⟩:=slN_form z b;obtain ⟨A0,n0,c0,hsl2⟩:=slN_form (z1%z2) b2;simp only [numV];rw [hsl,hsl2];obtain ⟨s9,hs9⟩:=Zx (sgnN (z1%z2));rw [hs9];have HSL:=Zh hsl;have hk:=((Zb u1.heap.size u1).alloc (Zr _) (.cells #[.bool (sgnN z),.slice A9 n9 c9] 35)).alloc aS (.cells #[.bool s9,.slice A0 n0 c0] 35);have hbz:=hb.size;have HB:=Zh (Zi (Zl o6.lt g3) (Zi g5 (g1.below hk)));have hw:=hW.trans ((hb.trans (hk.mono hbz)).mono hW.size);have p2:=(o6.below hb).below hk;have p2c:=p2.cell;have p2f:=p2.thaw;clear hsl hsl2 hs9 g1 g2 g3 g4 g5 g6 hk hb;go_wp2;refine retC (b:=w.heap.size+1+1) (v:= .agg #[.bool (sgnN z),.slice A9 n9 c9]) ((p2.set 0 _).set 1 _) (fun w' hw'=>by simp [results,Tryz.results65,go_sem,hw']) rfl ⟨⟨b,by rw [numV,HSL.out],(HB.out.2.2.far (by simp; have:=HB.out.1; omega) _).far (by simp; have:=HB.out.1; omega) _,by have:=HB.out.1; omega,by have:=HB.out.2.1; simp; omega⟩,(hw.setCell aT _).setCell aT _⟩
theorem NumAt.keeps {w u:World} {v:Value} {z:Int} (h:NumAt w v z) (hk:Keeps [] w u):NumAt u v z:=by
 obtain ⟨A,n,c,e,h1,h2,h3,h4⟩:=h;exact ⟨A,n,c,e,h1,h2,h3,h4.keeps hk⟩
theorem ratio_minus {w:World} {v1:Value} {z1:Int} (h1:NumAt w v1 z1):Calls Tryz.prog 64 #[v1] w (RetV w (-z1)):=by
 obtain ⟨z,hz⟩:=Zx (-z1);rw [hz];have G1:=Zh h1;have HZ:=Zh hz;obtain ⟨A1,n1,c1,rfl,hc1,hm1,hl1,d1⟩:=h1;obtain ⟨s1,hs1⟩:=Zx (decide (z1<0));rw [hs1] at G1 ⊢;clear hz hs1 d1;have hW:=((Zb w.heap.size w).alloc (Zr _) (.cells #[.bool s1,.slice A1 n1 c1] 35)).alloc aS (.cells nz1 35);have o1:Own ((w.alloc (.cells #[.bool s1,.slice A1 n1 c1] 35)).alloc (.cells nz1 35)) w.heap.size #[.bool s1,.slice A1 n1 c1]:=aOwn;have o2:Own ((w.alloc (.cells #[.bool s1,.slice A1 n1 c1] 35)).alloc (.cells nz1 35)) (w.heap.size+1) nz1:=aOwn;go_enter Tryz.func64,Tryz.ntmps64;go_wp2;generalize ((w.alloc (.cells #[.bool s1,.slice A1 n1 c1] 35)).alloc (.cells nz1 35))=W0 at *;have o2l:=o2.lt;refine region_gen (T:=[]) [.make 2 [] (numB _ z),.need 3 [2],.need 5 [],.make 6 [] (ownB [] nz1 (fun p=>.pointer (some ⟨p,0,none⟩)))] 7 0 40 (fun _ _=>True) (fun _ _ _ _ _=>trivial) trivial aK aK (by rfl) ?_;unfold genWalk;apply Zs;apply Zi
 ·apply Piece.mk
  ·intro f v hv hr hne;simp only [TK,Nat.reduceSub,Nat.reduceAdd];have d1:=fun y=>(o1.later (v:=v) (T:=[]) aS y).cell
   repeat (go_big_quiet_step ((go_at_call 63; with_reducible exact lateB ratio_zero)))
   refine wpQuiet_nil ?_;exact rfl
  ·intro f; kernel_rfl
  ·intro f f' hf; kernel_rfl
 refine one_of (by rfl) ⟨fun f=>⟨rfl,fun u hu _=>?_⟩,?_⟩
 ·refine make_call (f:=104) (args:=#[zeroN,.agg #[.bool s1,.slice A1 n1 c1]]) gA1 ?_;have q:=num_Sub (w:=u) (num_zero u) (G1.out.keeps (Keeps.of_below hW |>.more hu aS));rw [Int.zero_sub,HZ.out] at q;refine q.mono ?_;rintro e wx ⟨⟨b,rfl,q1,q2,q3⟩,hbx⟩;exact ⟨(b,0),rfl,q1,q2,hbx,aS,q3⟩
 unfold genWalk;refine ⟨_,pz6,?_⟩;unfold genWalk;refine ⟨_,pz6,?_⟩;unfold genWalk;refine ⟨_,pz6,?_⟩;refine one_of (by rfl) ⟨fun f=>⟨rfl,fun u hu _=>?_⟩,?_⟩
 ·refine make_own (e:=35) gA1 aS
 unfold genWalk;refine ⟨_,pz6,?_⟩;intro f u' hup hph hmade hdist;obtain ⟨⟨_,oN⟩,loN,hiN⟩:=hmade 2 aO rfl;obtain ⟨⟨_,o3⟩,lo3,hi3⟩:=hmade 6 aO rfl;have hne:=hdist 2 6 aO aO rfl rfl aO;replace oN:NumO u' (f 2).1 z:=oN;replace o3:Own u' (f 6).1 nz1:=o3;clear hmade hdist hph;simp only [TK,Nat.reduceSub,Nat.reduceAdd]
 (try simp only [LN])
 (try simp only [VB1])
 generalize (f 2).1=b9 at *;generalize (f 6).1=b3 at *;clear f;have hw1:Below w.heap.size w u':=Upd.below hW hup aS;have p2:=o2.upd hup aS;have hkT:=Upd.keeps (Keeps.refl _ _) hup;obtain ⟨A9,n9,c9,hsl⟩:=slN_form z b9;simp only [numV];rw [hsl];have HSL:=Zh hsl;clear hsl o1 o2;have o3c:=o3.cell;have o3f:=o3.thaw;refine effc_mem (by rfl) (fun K hK=>?_);go_simp;refine hK _ _ ((hkT.new lo3 _).new lo3 _) (fun u1 hu1=>?_);clear hK K;have hs1:=hu1.size;simp [World.setCell] at hs1;have hw2:=((hw1.setCell aT _).setCell aT _).trans (hu1.mono (by simp [World.setCell]; exact hw1.size));have k3:=((o3.set 0 (.bool (sgnN z))).set 1 (.slice A9 n9 c9)).below hu1;have k2:=((p2.far aT _).far aT _).below hu1;have N1:=Zh (Zi (Zl o2l loN) (Zi (Zl hiN hs1) (((oN.far aT _).far aT _).below hu1)));have hk1:=((hkT.new lo3 (.bool (sgnN z)) (p:=⟨b3,0,none⟩)).new lo3 (.slice A9 n9 c9) (p:=⟨b3,1,none⟩)).later hu1;clear o3c o3f o3 p2 oN hkT hu1;refine effc_mem (by rfl) (fun K hK=>?_);go_simp;refine hK _ _ hk1 (fun u2 hu2=>?_);clear hK K;refine effc_nil ?_
 (try simp only [LN])
 have hw3:=hw2.trans (hu2.mono hw2.size);have j3:=k3.below hu2;have j2:=k2.below hu2;have j3c:=j3.cell;have j2c:=j2.cell;have j2f:=j2.thaw;have N2:=Zh (Zi N1.out.1 (Zi (Zl N1.out.2.1 hu2.size) (N1.out.2.2.below hu2)));clear k3 k2 hk1 hu2 N1;go_wp2;refine retC (b:=w.heap.size+1) (v:= .agg #[.bool (sgnN z),.slice A9 n9 c9]) ((j2.set 0 _).set 1 _) (fun w' hw'=>by simp [results,Tryz.results64,go_sem,hw']) rfl ⟨⟨b9,by rw [numV,HSL.out],(N2.out.2.2.far (by simp; have:=N2.out.1; omega) _).far (by simp; have:=N2.out.1; omega) _,by have:=N2.out.1; omega,by have:=N2.out.2.1; simp; omega⟩,(hw3.setCell aS _).setCell aS _⟩
theorem ratio_right2 {w:World} {b:Nat} {s1 s2:Bool} {A1 A2:Option Addr} {n1 n2 c1 c2:Nat} {z1 z2:Int} (o:Own w b #[.bool s1,.slice A1 n1 c1,.bool s2,.slice A2 n2 c2]) (h1:NumAt w (.agg #[.bool s1,.slice A1 n1 c1]) z1) (h2:NumAt w (.agg #[.bool s2,.slice A2 n2 c2]) z2) :
 Calls Tryz.prog 62 #[.slice (some ⟨b,0,none⟩) 2 2] w fun r w'=>r = .returned (.bool true)/\Below w.heap.size w w':=by
 have G1:=Zh h1;have G2:=Zh h2;clear h1 h2;have hW:=Zb w.heap.size w;go_enter Tryz.func62,Tryz.ntmps62;go_wp2;go_loopw [7] (fun i wr=>∃ k:Nat,k<=2/\i = .int .i64 k/\Below w.heap.size w wr) (fun i _=>2 - (intOf i).toNat)
 case atStart=>exact ⟨0,aO,rfl,hW⟩
 case round =>
  clear hW;obtain ⟨k,hk,rfl,hW⟩:=hrel;have p:=o.below hW;have hz:=hW.size;have pc:=p.cell;have H1:=Zh (NumAt.below G1.out hW);have H2:=Zh (NumAt.below G2.out hW)
  by_cases h2:k=2
  ·subst h2;go_wp2;go_ret;exact ⟨rfl,hW⟩
  ·by_cases h0:k=0
   ·subst h0;have hA:=(Zb wr.heap.size wr).alloc (Zr _) (.cells #[.bool s1,.slice A1 n1 c1] 35);have hWA:=hW.trans (hA.mono hz);have R:=Zh (NumAt.raw (NumAt.below H1.out hA));go_wp2_with fail;have q:=num_Right R.out.1;rw [R.out.2] at q;refine Zd q ?_;clear q;rintro e u ⟨rfl,hb⟩;have hWB:=hWA.trans (hb.mono hWA.size);go_wp2;go_roundw
    case rel=>exact ⟨0+1,aO,by go_num,hWB⟩
    case measure=>simp [intOf]
   ·obtain rfl:k=1:=aO
    have hA:=(Zb wr.heap.size wr).alloc (Zr _) (.cells #[.bool s2,.slice A2 n2 c2] 35);have hWA:=hW.trans (hA.mono hz);have R:=Zh (NumAt.raw (NumAt.below H2.out hA));go_wp2_with fail;have q:=num_Right R.out.1;rw [R.out.2] at q;refine Zd q ?_;clear q;rintro e u ⟨rfl,hb⟩;have hWB:=hWA.trans (hb.mono hWA.size);go_wp2;go_roundw
    case rel=>exact ⟨1+1,aO,by go_num,hWB⟩
    case measure=>simp [intOf]
def RatAt (w:World) (v:Value) (p q:Int):Prop:=∃ s1 A1 n1 c1 s2 A2 n2 c2,v = .agg #[.bool s1,.slice A1 n1 c1,.bool s2,.slice A2 n2 c2]/\NumAt w (.agg #[.bool s1,.slice A1 n1 c1]) p/\NumAt w (.agg #[.bool s2,.slice A2 n2 c2]) q
def goodQ (p q:Int):Bool:=decide (0<q)&&(Nat.gcd p.natAbs q.natAbs==1)
theorem cmp_zero {w:World} {v1:Value} {z1 o:Int} (ho:ordI z1 0=o) (h1:NumAt w v1 z1):Calls Tryz.prog 26 #[v1,zeroN] w fun r w'=>r = .returned (.int .i64 o)/\Below w.heap.size w w':=by
 have q:=num_Cmp h1 (num_zero w);rw [ho] at q;exact q
theorem one_fits:fits 1=true:=fits_small (by decide)
theorem cmp_one {w:World} {v1 v2:Value} {z1 o:Int} (ho:ordI z1 1=o) (h1:NumAt w v1 z1) (h2:NumAt w v2 1):Calls Tryz.prog 26 #[v1,v2] w fun r w'=>r = .returned (.int .i64 o)/\Below w.heap.size w w':=by
 have q:=num_Cmp h1 h2;rw [ho] at q;exact q
def valB (T:List Nat) (z:Int):EBS T where
 val p:=numV z p.1
 R p u:=p.1∉T/\NumO u p.1 z
 st _ _ _ h k:=⟨h.1,fun h1 h2=>(h.2 h1 h2).upd k h.1⟩
theorem valB_val {T:List Nat} {z:Int} {p:Nat×Nat}:(valB T z).val p=numV z p.1:=rfl
theorem VB2:(∀ (T:List Nat) (z:Int) (p:Nat×Nat),(valB T z).val p=numV z p.1)/\(∀ (T:List Nat) (N:Nat) (p:Nat×Nat),(newB T N).val p = .slice (some ⟨p.1,0,none⟩) (digs N).length p.2)/\(∀ (T:List Nat) (z:Int) (p:Nat×Nat),(numB T z).val p = .tuple #[numV z p.1,.bool (fits z)])/\∀ (T:List Nat) (cs:Array Value) (v:Nat->Value) (p:Nat×Nat),(ownB T cs v).val p=v p.1:=⟨fun _ _ _=>rfl,VB1⟩
theorem ratio_Right {w:World} {v1:Value} {p q:Int} (h:RatAt w v1 p q):Calls Tryz.prog 25 #[v1] w fun r w'=>r = .returned (.bool (goodQ p q))/\Below w.heap.size w w':=by
 obtain ⟨ok,hok⟩:=Zx (goodQ p q);rw [hok];obtain ⟨s1,A1,n1,c1,s2,A2,n2,c2,rfl,h1,h2⟩:=h;have G1:=Zh h1;have G2:=Zh h2;have HOK:=Zh hok;clear h1 h2 hok;have hW:=(Zb w.heap.size w).alloc (Zr _) (.cells #[.bool s1,.slice A1 n1 c1,.bool s2,.slice A2 n2 c2] 37);have o1:Own (w.alloc (.cells #[.bool s1,.slice A1 n1 c1,.bool s2,.slice A2 n2 c2] 37)) w.heap.size #[.bool s1,.slice A1 n1 c1,.bool s2,.slice A2 n2 c2]:=aOwn;have hord:=ordI_range q 0;obtain ⟨o,ho⟩:=Zx (ordI q 0);rw [ho] at hord;have HO:=Zh (Zi ho hord);clear ho hord;go_enter Tryz.func25,Tryz.ntmps25;go_wp2;generalize (w.alloc (.cells #[.bool s1,.slice A1 n1 c1,.bool s2,.slice A2 n2 c2] 37))=W0 at *;refine region_gen (T:=[]) [.make 4 [] (ownB [] #[.bool s1,.slice A1 n1 c1,.bool s2,.slice A2 n2 c2] (fun p=>.slice (some ⟨p,0,none⟩) 2 2)),.need 5 [4],.need 6 []] 14 0 40 (fun _ _=>True) (fun _ _ _ _ _=>trivial) trivial aK aK (by rfl) ?_;have q_d1:=fun v y=>(o1.later (v:=v) (T:=[]) aS y).cell
 unfold genWalk;refine ⟨_,pz1,?_⟩;refine one_of (by rfl) ⟨fun f=>⟨rfl,fun u hu _=>?_⟩,?_⟩
 ·refine make_own (e:=35) gA1 aS
 unfold genWalk;refine ⟨_,pz6,?_⟩;unfold genWalk;apply Zs;apply Zi
 ·apply Piece.mk
  ·intro f v hv hr hne;simp only [TK,Nat.reduceSub,Nat.reduceAdd]
   (try simp only [LN])
   (try simp only [VB1])
   have h4:Own v (f 4).1 #[.bool s1,.slice A1 n1 c1,.bool s2,.slice A2 n2 c2]:=(hr 4 aS).2;have k4:=fun x:Later [] W0 v=>Own.below h4 x.g
   have L1:=fun x:Later [] W0 v=>NumAt.keeps (G1.out.below hW) x.h
   have L2:=fun x:Later [] W0 v=>NumAt.keeps (G2.out.below hW) x.h
   repeat (go_big_quiet_step ((go_at_call 62; with_reducible exact lateB (ratio_right2 (k4 _) (L1 _) (L2 _)))))
   refine wpQuiet_nil ?_;exact rfl
  ·intro f; kernel_rfl
  ·intro f f' hf; first | (simp; done) | (simp [hf 4 aS])
 unfold genWalk;apply Zs;apply Zi
 ·apply Piece.mk
  ·intro f v hv hr hne;simp only [TK,Nat.reduceSub,Nat.reduceAdd]
   (try simp only [LN])
   (try simp only [VB1])
   have d1:=fun y=>(o1.later (v:=v) (T:=[]) aS y).cell
   have L2:=fun x:Later [] W0 v=>NumAt.keeps (G2.out.below hW) x.h
   repeat (go_big_quiet_step (first | (go_at_call 63; with_reducible exact lateB ratio_zero) | (go_at_call 26; with_reducible exact lateB (cmp_zero HO.out.1 (L2 _)))))
   refine wpQuiet_nil ?_;exact rfl
  ·intro f; kernel_rfl
  ·intro f f' hf; simp
 intro f u' hup hph hmade hdist;refine effc_nil ?_;simp only [TK,Nat.reduceSub,Nat.reduceAdd]
 (try simp only [LN])
 (try simp only [VB1])
 clear hmade hdist hph;have hwU:Below w.heap.size w u':=Upd.below hW hup aS;have o9:=o1.upd hup aS;have M1:=Zh (NumAt.keeps (G1.out.below hW) (Upd.keeps (Keeps.refl _ _) hup));have M2:=Zh (NumAt.keeps (G2.out.below hW) (Upd.keeps (Keeps.refl _ _) hup));generalize (f 4).1=b4 at *;clear f hup o1 hW;have hzU:=hwU.size;have o9c:=o9.cell
 by_cases hle:o<=0
 ·go_wp2;go_ret;refine ⟨?_,hwU⟩;have e1:=HO.out.1;have e2:¬ 0<q:=fun h=>by rw [ordI_gt aO] at e1; omega
  have e3:=HOK.out;unfold goodQ at e3;rw [decide_eq_false e2] at e3;rw [<- e3];rfl
 ·go_wp2_with fail;have hq0:0<q:=by
   have e1:=HO.out.1;apply Classical.byContradiction;intro h;have e2:o<=0:=by
    rcases Int.lt_trichotomy q 0 with h2 | h2 | h2
    ·rw [ordI_lt h2] at e1; omega
    ·rw [h2,ordI_eq] at e1; omega
    ·exact absurd h2 h
   omega
  have HQ0:=Zh hq0;clear hq0;obtain ⟨g,hg⟩:∃ g:Nat,Nat.gcd p.natAbs q.natAbs=g:=⟨_,rfl⟩;have hgf:fits (g:Int)=true:=fits_le (b:=q) (by rw [<- hg]; exact Nat.le_of_dvd (by have:=HQ0.out; omega) (Nat.gcd_dvd_right _ _)) (NumAt.fits M2.out);have qq:=num_Gcd M1.out M2.out;rw [hg] at qq;have HGF:=Zh (Zi hg hgf);clear hg hgf;refine Zd qq ?_;clear qq;rintro e u1 ⟨⟨b,rfl,h1,h2,h3⟩,hb⟩;rw [HGF.out.2];have hk:=(Zb u1.heap.size u1).alloc (Zr _) (.cells #[.bool (sgnN g),slN g b] 35);have o3:Own (u1.alloc (.cells #[.bool (sgnN g),slN g b] 35)) u1.heap.size #[.bool (sgnN g),slN g b]:=Own.new rfl;have hw1:=hwU.trans ((hb.trans (hk.mono hb.size)).mono hzU);have N1:=Zh (NumO.at_ (NumO.below h3 hk) HGF.out.2);obtain ⟨A9,n9,c9,hsl⟩:=slN_form g b;simp only [numV] at N1 ⊢;rw [hsl] at o3 N1 hk hw1 ⊢;clear h1 h2 h3 hb hk hsl o9 o9c;go_wp2;generalize (u1.alloc (.cells #[.bool (sgnN (g:Int)),.slice A9 n9 c9] 35))=u2 at *;obtain ⟨r,hr⟩:=Zx (ordI (g:Int) 1);have HR:=Zh hr;clear hr;refine region_gen (T:=[]) [.make 1 [] (valB _ 1),.need 2 [1],.need 3 []] 4 0 40 (fun _ _=>True) (fun _ _ _ _ _=>trivial) trivial aK aK (by rfl) ?_;have q_d3:=fun v y=>(o3.later (v:=v) (T:=[]) aS y).cell
  unfold genWalk;refine ⟨_,pz1,?_⟩;refine one_of (by rfl) ⟨fun f=>⟨rfl,fun u hu _=>?_⟩,?_⟩
  ·refine make_call (f:=69) (args:=#[]) gA0 ?_;refine Zd (ratio_one (w:=u)) ?_;rintro e wx ⟨⟨b,rfl,q1,q2,q3⟩,hbx⟩;exact ⟨(b,0),rfl,q2,q3,hbx,aS,q1⟩
  unfold genWalk;refine ⟨_,pz19,?_⟩;unfold genWalk;apply Zs;apply Zi
  ·apply Piece.mk
   ·intro f v hv hr hne;simp only [TK,Nat.reduceSub,Nat.reduceAdd]
    (try simp only [LN])
    (try simp only [valB_val])
    have h1:NumO v (f 1).1 1:=(hr 1 aS).2;have k1:=fun x:Later [] u2 v=>NumO.at_ (NumO.below h1 x.g) one_fits
    have K1:=fun x:Later [] u2 v=>NumAt.keeps N1.out x.h
    repeat (go_big_quiet_step ((go_at_call 26; with_reducible exact lateB (cmp_one HR.out (K1 _) (k1 _)))))
    refine wpQuiet_nil ?_;exact rfl
   ·intro f; kernel_rfl
   ·intro f f' hf; first | (simp; done) | (simp [hf 1 aS])
  unfold genWalk;refine ⟨_,pz19,?_⟩;intro f u3 hup hph hmade hdist;simp only [TK,Nat.reduceSub,Nat.reduceAdd]
  (try simp only [LN])
  clear hmade hdist hph;refine effc_mem (by rfl) (fun K hK=>?_);go_simp;refine hK _ _ (Upd.keeps (Keeps.refl _ _) hup) (fun u4 hu4=>?_);clear hK K;refine effc_nil ?_
  (try simp only [LN])
  have hw4:Below w.heap.size w u4:=(Upd.below hw1 hup aS).trans (hu4.mono (Upd.below hw1 hup aS).size);clear hup hu4;go_wp2;go_ret;refine ⟨?_,hw4⟩;have e3:=HOK.out;unfold goodQ at e3;rw [decide_eq_true HQ0.out,Bool.true_and,HGF.out.1] at e3;have e4:(r==0)=(g==1):=by
   rw [<- HR.out];rcases Nat.lt_trichotomy g 1 with h | h | h
   ·obtain rfl:g=0:=aO
    rfl
   ·rw [h]; rfl
   ·rw [ordI_gt aO];exact (beq_eq_false_iff_ne.2 (show g≠1 by omega)).symm
  show Ending.returned (.bool (r==0))=_;rw [e4,e3]
theorem RatAt.below {w w':World} {v:Value} {p q:Int} (h:RatAt w v p q) (hb:Below w.heap.size w w'):RatAt w' v p q:=by
 obtain ⟨s1,A1,n1,c1,s2,A2,n2,c2,e,h1,h2⟩:=h;exact ⟨s1,A1,n1,c1,s2,A2,n2,c2,e,h1.below hb,h2.below hb⟩
theorem ratio_Sign {w:World} {v1:Value} {p q:Int} (h:RatAt w v1 p q) (hg:goodQ p q=true):Calls Tryz.prog 24 #[v1] w fun r w'=>r = .returned (.int .i64 (ordI p 0))/\Below w.heap.size w w':=by
 obtain ⟨o,ho⟩:=Zx (ordI p 0);rw [ho];have H:=Zh h;obtain ⟨s1,A1,n1,c1,s2,A2,n2,c2,rfl,h1,h2⟩:=h;have G1:=Zh h1;have HO:=Zh (Zi ho hg);clear h1 h2 ho hg;have hW:=(Zb w.heap.size w).alloc (Zr _) (.cells #[.bool s1,.slice A1 n1 c1,.bool s2,.slice A2 n2 c2] 37);have o1:Own (w.alloc (.cells #[.bool s1,.slice A1 n1 c1,.bool s2,.slice A2 n2 c2] 37)) w.heap.size #[.bool s1,.slice A1 n1 c1,.bool s2,.slice A2 n2 c2]:=aOwn;go_enter Tryz.func24,Tryz.ntmps24;go_wp2_with fail;generalize (w.alloc (.cells #[.bool s1,.slice A1 n1 c1,.bool s2,.slice A2 n2 c2] 37))=W0 at *;have qq:=ratio_Right (H.out.below hW);rw [HO.out.2] at qq;refine Zd qq ?_;clear qq;rintro e u1 ⟨rfl,hb⟩;have hw1:=hW.trans (hb.mono hW.size);have o2:=o1.below hb;have K1:=Zh (G1.out.below hw1);clear hb o1 hW;go_wp2;refine region_late 4 [] aK aK (by rfl) ?_;apply Zs;refine ⟨fun v hv hne=>?_,fun u hu=>?_⟩
 ·simp only [TK];have d1:=fun y=>(o2.later (v:=v) (T:=[]) aS y).cell
  have L1:=fun x:Later [] u1 v=>NumAt.keeps K1.out x.h
  repeat (go_big_quiet_step (first | (go_at_call 63; with_reducible exact lateB ratio_zero) | (go_at_call 26; with_reducible exact lateB (cmp_zero HO.out.1 (L1 _)))))
  refine wpQuiet_nil ?_;exact rfl
 simp only [TK];refine late_mem (fun K hK=>?_);go_simp;refine hK _ _ (Keeps.of_below hu) (fun u3 hu3=>?_);clear hK K;refine late_nil ?_
 (try simp only [LN])
 have hw3:=(hw1.trans (hu.mono hw1.size)).trans (hu3.mono (by have:=hu.size; have:=hw1.size; omega));go_wp2;go_ret;exact ⟨rfl,hw3⟩
def prodV (z:Int) (b:Nat):Value:= .agg #[.bool (sgnN z),slN z b,.bool (fits z)]
def RetP (w:World) (z:Int) (r:Ending) (w':World):Prop:=(∃ b,r = .returned (prodV z b)/\NumO w' b z/\w.heap.size<=b/\b<w'.heap.size)/\Below w.heap.size w w'
theorem ratio_times {w:World} {v1 v2:Value} {z1 z2:Int} (h1:NumAt w v1 z1) (h2:NumAt w v2 z2):Calls Tryz.prog 73 #[v1,v2] w (RetP w (z1*z2)):=by
 obtain ⟨z,hz⟩:=Zx (z1*z2);rw [hz];have G1:=Zh h1;have G2:=Zh h2;obtain ⟨r1,k1⟩:=h1.raw;obtain ⟨r2,k2⟩:=h2.raw;obtain ⟨A1,n1,c1,rfl,hc1,hm1,hl1,d1⟩:=h1;obtain ⟨A2,n2,c2,rfl,hc2,hm2,hl2,d2⟩:=h2;obtain ⟨s1,hs1⟩:=Zx (decide (z1<0));obtain ⟨s2,hs2⟩:=Zx (decide (z2<0));rw [hs1] at r1 k1 G1 ⊢;rw [hs2] at r2 k2 G2 ⊢;have H:=Zh (Zi hz (Zi hs1 hs2));clear hz hs1 hs2 d1 d2 r1 k1 r2 k2;go_enter Tryz.func73,Tryz.ntmps73;have hW:=((((Zb w.heap.size w).alloc (Zr _) (.cells #[.bool s1,.slice A1 n1 c1] 35)).alloc aS (.cells #[.bool s2,.slice A2 n2 c2] 35)).alloc aT (.cells #[.bool false,.slice none 0 0,.bool false] 113));go_wp2_with fail;have o6:Own (((w.alloc (.cells #[.bool s1,.slice A1 n1 c1] 35)).alloc (.cells #[.bool s2,.slice A2 n2 c2] 35)).alloc (.cells #[.bool false,.slice none 0 0,.bool false] 113)) (w.heap.size+1+1) #[.bool false,.slice none 0 0,.bool false]:=aOwn;generalize (((w.alloc (.cells #[.bool s1,.slice A1 n1 c1] 35)).alloc (.cells #[.bool s2,.slice A2 n2 c2] 35)).alloc (.cells #[.bool false,.slice none 0 0,.bool false] 113))=W0 at *;have q:=num_Mul (G1.out.below hW) (G2.out.below hW);rw [H.out.1] at q;refine Zd q ?_;rintro e u1 ⟨⟨b,rfl,g2,g3,g1⟩,hb⟩;obtain ⟨A9,n9,c9,hsl⟩:=slN_form z b;simp only [numV];rw [hsl];obtain ⟨ok,hok⟩:=Zx (fits z);rw [hok];have HSL:=Zh (Zi hsl hok);have hk:=(Zb u1.heap.size u1).alloc (Zr _) (.cells #[.bool (sgnN z),.slice A9 n9 c9] 35);have hbz:=hb.size;have HB:=Zh (Zi (Zl o6.lt g2) (Zi g3 (g1.below hk)));have hw:=hW.trans ((hb.trans (hk.mono hbz)).mono hW.size);have p2:=(o6.below hb).below hk;have p2c:=p2.cell;have p2f:=p2.thaw;clear hsl hok g1 g2 g3 hk hb;go_wp2;refine retC (b:=w.heap.size+1+1) (v:= .agg #[.bool (sgnN z),.slice A9 n9 c9,.bool ok]) (((p2.set 0 _).set 1 _).set 2 _) (fun w' hw'=>by simp [results,Tryz.results73,go_sem,hw']) rfl ⟨⟨b,by rw [prodV,HSL.out.1,HSL.out.2],((HB.out.2.2.far (by simp; have:=HB.out.1; omega) _).far (by simp; have:=HB.out.1; omega) _).far (by simp; have:=HB.out.1; omega) _,by have:=HB.out.1; omega,by have:=HB.out.2.1; simp; omega⟩,((hw.setCell aT _).setCell aT _).setCell aT _⟩
def rnE (σ:Nat->Nat) (e:Edge):Edge:={ e with on:=σ e.on }
def rnO (σ:Nat->Nat) (o:Oper):Oper:={ o with after:=o.after.map (rnE σ),guard:=o.guard.map fun g=>(σ g.1,g.2) }
section
variable {P:Program} {ops ops':Array Oper} {σ:Nat->Nat} {md:Region.Mode}
theorem wp_rn {Q:Exit->Act->World->Prop} {K:Act->World->Prop} {a:Act} {w:World} (o:Oper):(rnO σ o).wp P a w K Q=o.wp P a w K Q:=rfl
theorem mem_ready {listed:Array Bool} {i:Nat}:i∈Region.ready md ops listed↔listed.getD i true=false/\∃ o,ops[i]?=some o/\∀ e∈o.after,Region.binds md e=true->listed.getD e.on false=true:=by
 unfold Region.ready;rw [List.mem_filter,List.mem_range,Bool.and_eq_true];constructor
 ·rintro ⟨h1,h2,h3⟩;have ho:ops[i]?=some ops[i]:=Array.getElem?_eq_getElem h1;refine ⟨by simpa using h2,_,ho,fun e he hb=>?_⟩;rw [ho] at h3;simp only [Option.map_some,Option.getD_some] at h3;have q:=Array.all_eq_true'.1 h3 e he;simpa [hb] using q
 ·rintro ⟨h1,o,ho,h2⟩;refine ⟨(Zt.1 ho).1,by simpa using h1,?_⟩;rw [ho];simp only [Option.map_some,Option.getD_some];rw [Array.all_eq_true'];intro e he;cases hb:Region.binds md e with
  | false=>simp
  | true=>simpa using h2 e he hb
structure Perm (ops ops':Array Oper) (σ:Nat->Nat):Prop where
 size:ops'.size=ops.size
 lt:∀ i,i<ops.size->σ i<ops.size
 inj:∀ i j,i<ops.size->j<ops.size->σ i=σ j->i=j
 on:∀ j,j<ops.size->∃ i,i<ops.size/\σ i=j
 at_:∀ (i:Nat) (o:Oper),ops[i]?=some o->ops'[σ i]?=some (rnO σ o)
 edge:∀ (i:Nat) (o:Oper),ops[i]?=some o->∀ e∈o.after,e.on<ops.size
 guard:∀ (i:Nat) (o:Oper),ops[i]?=some o->∀ g,o.guard=some g->g.1<ops.size
theorem Perm.yielded (p:Perm ops ops' σ) {t:Array Value} {j:Nat} (hj:j<ops.size):yielded ops' t (σ j)=yielded ops t j:=by
 have ho:ops[j]?=some ops[j]:=Array.getElem?_eq_getElem hj;unfold Go.yielded;rw [p.at_ j _ ho,ho];rfl
theorem Perm.wanted (p:Perm ops ops' σ) {t:Array Value} {i:Nat} {o:Oper} (ho:ops[i]?=some o):Region.wanted (rnO σ o) (Go.yielded ops' t)=Region.wanted o (Go.yielded ops t):=by
 unfold Region.wanted rnO;cases hg:o.guard with
 | none=>rfl
 | some g =>
  obtain ⟨j,b⟩:=g;simp only [Option.map_some];rw [p.yielded (p.guard i o ho _ hg)]
theorem Perm.ready (p:Perm ops ops' σ) {listed listed':Array Bool} (h:∀ i,i<ops.size->listed'[σ i]?=listed[i]?) {i:Nat} (hi:i<ops.size) :
 σ i∈Region.ready md ops' listed'↔i∈Region.ready md ops listed:=by
 have ho:ops[i]?=some ops[i]:=Array.getElem?_eq_getElem hi;have gd:∀ j d,j<ops.size->listed'.getD (σ j) d=listed.getD j d:=fun j d hj=>by
  rw [Array.getD_eq_getD_getElem?,Array.getD_eq_getD_getElem?,h j hj]
 rw [mem_ready,mem_ready,gd i true hi];refine and_congr_right fun _=>?_
 constructor
 ·rintro ⟨o',ho',he⟩;rw [p.at_ i _ ho] at ho';cases ho';refine ⟨_,ho,fun e hm hb=>?_⟩;have q:=he (rnE σ e) (Array.mem_map.2 ⟨e,hm,rfl⟩) hb;exact (gd e.on false (p.edge i _ ho e hm)).symm.trans q
 ·rintro ⟨o,ho2,he⟩;refine ⟨_,p.at_ i o ho2,fun e' hm hb=>?_⟩;obtain ⟨e,hm2,rfl⟩:=Array.mem_map.1 hm;exact (gd e.on false (p.edge i o ho2 e hm2)).trans (he e hm2 hb)
theorem ready_lt {listed:Array Bool} {i:Nat} (h:i∈Region.ready md ops listed):i<ops.size:=by
 obtain ⟨_,o,ho,_⟩:=mem_ready.1 h;exact (Zt.1 ho).1
theorem Perm.empty (p:Perm ops ops' σ) {listed listed':Array Bool} (h:∀ i,i<ops.size->listed'[σ i]?=listed[i]?) :
 Region.ready md ops' listed'=[]↔Region.ready md ops listed=[]:=by
 constructor
 ·intro e;rw [List.eq_nil_iff_forall_not_mem];intro i hi;have:=(p.ready h (ready_lt hi)).2 hi;rw [e] at this;cases this
 ·intro e;rw [List.eq_nil_iff_forall_not_mem];intro j hj;have hl:=ready_lt hj;rw [p.size] at hl;obtain ⟨i,hi,rfl⟩:=p.on j hl;have:=(p.ready h hi).1 hj;rw [e] at this;cases this
theorem perm_main {Q:Exit->Act->World->Prop} (p:Perm ops ops' σ):∀ (fuel:Nat) (listed listed':Array Bool) (a:Act) (w:World),listed.size=ops.size->listed'.size=ops.size ->
 (∀ i,i<ops.size->listed'[σ i]?=listed[i]?)->wpAny P md ops' Q fuel listed' a w->wpAny P md ops Q fuel listed a w:=by
 intro fuel
 induction fuel with
 | zero =>
  intro listed listed' a w h1 h2 h hw;exact ⟨(p.empty h).1 hw.1,hw.2⟩
 | succ fuel ih =>
  intro listed listed' a w h1 h2 h hw;refine ⟨fun e=>hw.1 ((p.empty h).2 e),fun i hi=>?_⟩;have hil:=ready_lt hi;have ho:ops[i]?=some ops[i]:=Array.getElem?_eq_getElem hil;have q:=hw.2 (σ i) ((p.ready h hil).2 hi);have step:∀ a w,wpAny P md ops' Q fuel (listed'.setIfInBounds (σ i) true) a w->wpAny P md ops Q fuel (listed.setIfInBounds i true) a w:=fun a w hk =>
   ih _ _ a w (by simpa using h1) (by simpa using h2) (fun j hj=>by
    rw [Array.getElem?_setIfInBounds,Array.getElem?_setIfInBounds]
    by_cases e:i=j
    ·subst e;have:=p.lt i hj;rw [if_pos rfl,if_pos rfl,if_pos aO,if_pos aO]
    ·rw [if_neg (fun e2=>e (p.inj i j hil hj e2)),if_neg e];exact h j hj) hk
  unfold wpOp at q ⊢;rw [p.at_ i _ ho] at q;rw [ho];simp only [] at q ⊢;rw [p.wanted ho] at q
  by_cases hwt:Region.wanted ops[i] (Go.yielded ops a.tmps)=true
  ·rw [if_pos hwt] at q ⊢;rw [wp_rn] at q;rcases q with q | ⟨q1,q2⟩
   ·exact .inl (Oper.wp_mono step q)
   ·exact .inr ⟨q1,q2⟩
  ·rw [if_neg hwt] at q ⊢;exact step _ _ q
end
def noOper : Oper := { dst := none, op := .move (.const undef), type := 0, pos := "", after := #[], guard := none }
def tab (τ:List Nat) (j:Nat):Nat:=τ.getD j j
def pickO (σ:Nat->Nat):Option Oper->Oper
 | some o=>rnO σ o
 | none=>noOper
def permOps (l:List Oper) (π τ:List Nat):List Oper:=π.map fun i=>pickO (tab τ) l[i]?
def permFit (l:List Oper) (π τ:List Nat):Bool:=
 decide (π.length=l.length)&&decide (τ.length=l.length)&&((List.range l.length).all fun i=>decide (tab τ i<l.length)&&decide (π[tab τ i]?=some i)) &&
 ((List.range l.length).all fun j=>decide (π.getD j l.length<l.length)&&decide (tab τ (π.getD j l.length)=j)) &&
 (l.all fun o=>(o.after.all fun e=>decide (e.on<l.length))&&(match o.guard with | none=>true | some g=>decide (g.1<l.length)))
theorem perm_of {l:List Oper} {π τ:List Nat} (h:permFit l π τ=true):Perm l.toArray (permOps l π τ).toArray (tab τ):=by
 simp only [permFit,Bool.and_eq_true,decide_eq_true_eq,List.all_eq_true,List.mem_range] at h;obtain ⟨⟨⟨⟨h1,h2⟩,h3⟩,h4⟩,h5⟩:=h;refine ⟨by simp [permOps,h1],fun i hi=>by have:=h3 i (by simpa using hi); simpa using this.1,fun i j hi hj e=>?_,fun j hj=>?_,fun i o ho=>?_,fun i o ho e he=>?_,fun i o ho g hg=>?_⟩
 ·have q1:=(h3 i (by simpa using hi)).2;have q2:=(h3 j (by simpa using hj)).2;rw [e,q2] at q1;exact (Option.some.inj q1).symm
 ·have q:=h4 j (by simpa using hj);exact ⟨_,by simpa using q.1,q.2⟩
 ·have hi:i<l.length:=by have:=(Zt.1 ho).1; simpa using this
  have q:=(h3 i hi).2;have ho':l[i]?=some o:=by simpa using ho
  simp only [permOps,List.getElem?_toArray,List.getElem?_map,q,Option.map_some,ho',pickO]
 ·have ho':l[i]?=some o:=by simpa using ho
  have q:=(h5 o (List.mem_of_getElem? ho')).1;have:=Array.all_eq_true'.1 q e he;simpa using this
 ·have ho':l[i]?=some o:=by simpa using ho
  have q:=(h5 o (List.mem_of_getElem? ho')).2;rw [hg] at q;simpa using q
section
variable {P:Program} {T:List Nat} {w:World} {Q:Exit->Act->World->Prop}
end
section
variable {P:Program} {T:List Nat} {w:World} {Q:Exit->Act->World->Prop}
theorem region_sinkp {id:Nat} {a:Act} {l:List Oper} (π τ:List Nat) (l':List Oper) (hl:permOps l π τ=l') (hf:permFit l π τ=true) (n:Nat) (T:List Nat) (hm:P.follows .mixedOrders=true) (hB:lateFit l' n (l'.length - n)=true) (hp:placesFit (l'.take n) a.tmps.size=true)
 (h:∃ A,(∀ v,Keeps T w v->Nonempty (Later T w v)->wpQuiet P l'.toArray (fun w'=>∃ x:Later T w v,w'=x.u) (fun a'=>a'=A) (l'.take n) a) /\
  (∀ u,Below w.heap.size w u->wpSink P l'.toArray n true T w (Q .normal) (l'.drop n) A u)):(Code.region id l.toArray true).wp P Q a w:=by
 subst hl;have p:=perm_of hf;refine wp_region_any hm ?_;have hnl:n+((permOps l π τ).length - n)<=(permOps l π τ).length:=by simp only [lateFit,Bool.and_eq_true,decide_eq_true_eq] at hB; exact hB.2
 have e1:(permOps l π τ).drop (n+((permOps l π τ).length - n))=[]:=List.drop_eq_nil_of_le aO;have e2:((permOps l π τ).drop n).take ((permOps l π τ).length - n)=(permOps l π τ).drop n:=List.take_of_length_le aS;have e3:(n+((permOps l π τ).length - n)==(permOps l π τ).length)=true:=aT
 have q:=sink_any (P:=P) (w:=w) (Q:=Q) (a:=a) (l:=permOps l π τ) n ((permOps l π τ).length - n) T hB (by rw [e1,List.append_nil]; exact hp) (by rw [e1,List.append_nil,e2,e3]; exact h);rw [p.size] at q;refine perm_main p _ _ _ _ _ aS aS (fun i hi=>?_) q;have:=p.lt i hi;rw [Array.getElem?_replicate,Array.getElem?_replicate,if_pos this,if_pos hi]
end
end Go.Proofs.YtflgngjocgiojaaGreat
