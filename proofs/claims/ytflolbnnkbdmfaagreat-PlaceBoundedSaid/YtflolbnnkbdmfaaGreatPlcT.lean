import Derived.Test.YtflolbnnkbdmfaaGreatLaw20a
set_option linter.all false
namespace Go.Proofs.YtflolbnnkbdmfaaGreat
open Go.RowKit
set_option maxHeartbeats 8000000
set_option maxRecDepth 100000
def cornLo (a b:V3):V3:=⟨min (nearV a).x (nearV b).x,min (nearV a).y (nearV b).y,min (nearV a).z (nearV b).z⟩
def cornHi (a b:V3):V3:=⟨max (nearV a).x (nearV b).x,max (nearV a).y (nearV b).y,max (nearV a).z (nearV b).z⟩
theorem law20_corners (ax ay az bx by' bz:Int) (w:World):Calls Tryz.prog 31 #[.agg #[.int .i64 ax,.int .i64 ay,.int .i64 az,.int .i64 bx,.int .i64 by',.int .i64 bz]] w fun e w'=>e = .returned (.tuple #[V3.v (cornLo ⟨ax,ay,az⟩ ⟨bx,by',bz⟩),V3.v (cornHi ⟨ax,ay,az⟩ ⟨bx,by',bz⟩)])/\Below w.heap.size w w':=by
 obtain ⟨uax,hnax⟩:=Zx (ax%17 - 8);obtain ⟨uay,hnay⟩:=Zx (ay%17 - 8);obtain ⟨uaz,hnaz⟩:=Zx (az%17 - 8);obtain ⟨ubx,hnbx⟩:=Zx (bx%17 - 8);obtain ⟨uby,hnby⟩:=Zx (by'%17 - 8);obtain ⟨ubz,hnbz⟩:=Zx (bz%17 - 8);have hA:=fun W=>law20_near ax ay az W
 have hB:=fun W=>law20_near bx by' bz W
 simp only [cornLo,cornHi,nearV,hnax,hnay,hnaz,hnbx,hnby,hnbz] at hA hB ⊢;have HA:=Zh hA;have HB:=Zh hB;clear hA hB hnax hnay hnaz hnbx hnby hnbz;go_enter Tryz.func31,Tryz.ntmps31;go_wp2;have hw:=Zb w.heap.size w;have hz:=hw.size;have ob:Own ((((w.alloc (.cells #[.int .i64 ax,.int .i64 ay,.int .i64 az,.int .i64 bx,.int .i64 by',.int .i64 bz] 60)).alloc (.cells nv3 44)).alloc (.cells nv3 44))) (w.heap.size) #[.int .i64 ax,.int .i64 ay,.int .i64 az,.int .i64 bx,.int .i64 by',.int .i64 bz]:=aOwn;have o2:Own ((((w.alloc (.cells #[.int .i64 ax,.int .i64 ay,.int .i64 az,.int .i64 bx,.int .i64 by',.int .i64 bz] 60)).alloc (.cells nv3 44)).alloc (.cells nv3 44))) (w.heap.size+1) nv3:=aOwn;have o3:Own ((((w.alloc (.cells #[.int .i64 ax,.int .i64 ay,.int .i64 az,.int .i64 bx,.int .i64 by',.int .i64 bz] 60)).alloc (.cells nv3 44)).alloc (.cells nv3 44))) (w.heap.size+1+1) nv3:=aOwn;replace hw:Below w.heap.size w ((((w.alloc (.cells #[.int .i64 ax,.int .i64 ay,.int .i64 az,.int .i64 bx,.int .i64 by',.int .i64 bz] 60)).alloc (.cells nv3 44)).alloc (.cells nv3 44))):=aBel;generalize (((w.alloc (.cells #[.int .i64 ax,.int .i64 ay,.int .i64 az,.int .i64 bx,.int .i64 by',.int .i64 bz] 60)).alloc (.cells nv3 44)).alloc (.cells nv3 44))=w1 at *;have o3z:=o3.lt;have h3w:w.heap.size+1+1<w1.heap.size:=o3z;refine region_gen (T:=[]) [.make 6 [] (ownB [] nv3 (fun p=>.pointer (some ⟨p,0,none⟩))),.make 7 [] (ownB [] nv3 (fun p=>.pointer (some ⟨p,0,none⟩)))] 8 0 60 (fun _ _=>True) (fun _ _ _ _ _=>trivial) trivial aK aK (by rfl) ?_;unfold genWalk;apply Zs;apply Zi
 ·apply Piece.mk
  ·intro f v hv hr hne;simp only [TK,Nat.reduceSub,Nat.reduceAdd];have dob:=fun x=>(ob.later (v:=v) (T:=[]) (by first | (simp; done) | (simp; omega)) x).cell
   repeat (go_big_quiet_step ((first | (go_at_call 28; with_reducible exact lateB (HA.out _)) | (go_at_call 28; with_reducible exact lateB (HB.out _)))))
   refine wpQuiet_nil ?_;exact rfl
  ·intro f; kernel_rfl
  ·intro f f' hf; kernel_rfl
 refine one_of (by rfl) ⟨fun f=>⟨rfl,fun u hu _=>?_⟩,?_⟩
 ·refine make_own (e:=44) gA1 aS
 unfold genWalk;refine ⟨_,pz6,?_⟩;refine one_of (by rfl) ⟨fun f=>⟨rfl,fun u hu _=>?_⟩,?_⟩
 ·refine make_own (e:=44) gA1 aS
 unfold genWalk;refine ⟨_,pz6,?_⟩;intro f u1 hup hph hmade hdist;obtain ⟨⟨_,na⟩,nag,_⟩:=hmade 6 aO rfl;obtain ⟨⟨_,nb⟩,nbg,_⟩:=hmade 7 aO rfl;have nnanb:=hdist 6 7 aO aO rfl rfl aO;replace na:Own u1 (f 6).1 nv3:=na;replace nb:Own u1 (f 7).1 nv3:=nb;clear hmade hdist hph;simp only [TK,Nat.reduceSub,Nat.reduceAdd]
 (try simp only [LN])
 (try simp only [VB1])
 generalize (f 6).1=nab at *;generalize (f 7).1=nbb at *;clear f;have hk:Keeps [] w1 u1:=Upd.keeps (Keeps.refl _ _) hup;replace hw:=Upd.below hw hup aS;have huz:=hup.1;clear hup;have nay:w.heap.size<=nab:=aO
 have nby:w.heap.size<=nbb:=aO
 have nac:=na.cell;have naf:=na.thaw;have nnbna:nbb≠nab:=fun e=>nnanb e.symm
 refine effc_mem (by rfl) (fun K hK=>?_);go_simp;refine hK _ _ (((hk.new nag _).new nag _).new nag _) (fun u2 hun=>?_);clear hK K;replace hk:Keeps [] w1 u2:=(((hk.new nag _).new nag _).new nag _).later hun;replace na:Own u2 nab #[.int .i64 uax,.int .i64 uay,.int .i64 uaz]:=(((na.set 0 _).set 1 _).set 2 _).below hun;replace nb:=(((nb.far nnbna _).far nnbna _).far nnbna _).below hun;replace hw:=Below.hop (((hw.setCell nay _).setCell nay _).setCell nay _) hun;clear hun;replace nbc:=nb.cell;replace nbf:=nb.thaw;refine effc_mem (by rfl) (fun K hK=>?_);go_simp;refine hK _ _ (((hk.new nbg _).new nbg _).new nbg _) (fun u3 hun=>?_);clear hK K;replace hk:Keeps [] w1 u3:=(((hk.new nbg _).new nbg _).new nbg _).later hun;replace nb:Own u3 nbb #[.int .i64 ubx,.int .i64 uby,.int .i64 ubz]:=(((nb.set 0 _).set 1 _).set 2 _).below hun;replace na:=(((na.far nnanb _).far nnanb _).far nnanb _).below hun;replace hw:=Below.hop (((hw.setCell nby _).setCell nby _).setCell nby _) hun;clear hun;replace o2:Own u3 (w.heap.size+1) nv3:=o2.keeps hk aS;replace o3:Own u3 (w.heap.size+1+1) nv3:=o3.keeps hk aS;refine effc_nil ?_
 (try simp only [LN])
 clear hk huz;have hna3:w.heap.size+1+1<nab:=aO
 have hnb3:w.heap.size+1+1<nbb:=aO
 go_wp2;refine region_late 32 [w.heap.size+1,w.heap.size+1+1] aK aK (by rfl) ?_;apply Zs;refine ⟨fun v hv hne=>?_,fun v1 hu=>?_⟩
 ·simp only [TK];have dna:=fun x=>(na.later (v:=v) (T:=[w.heap.size+1,w.heap.size+1+1]) (by first | (simp; done) | (simp; omega)) x).cell
  have dnb:=fun x=>(nb.later (v:=v) (T:=[w.heap.size+1,w.heap.size+1+1]) (by first | (simp; done) | (simp; omega)) x).cell
  repeat (go_big_quiet_step ((first | (go_at_call 34; with_reducible exact lateB (law20_vec _ _ _ _)))))
  refine wpQuiet_nil ?_;exact rfl
 ·simp only [TK];have p2:=o2.below hu;have p3:=o3.below hu;have p2c:=p2.cell;have p2f:=p2.thaw;replace hw:=Below.hop hw hu;refine late_mem (fun K hK=>?_);go_simp;refine hK _ _ ((((Keeps.of_below (T:=[w.heap.size+1,w.heap.size+1+1]) hu).set aS _).set aS _).set aS _) (fun u5 hu5=>?_);clear hK K;have hk5:Keeps [w.heap.size+1,w.heap.size+1+1] u3 u5:=((((Keeps.of_below (T:=[w.heap.size+1,w.heap.size+1+1]) hu).set aS _).set aS _).set aS _).later hu5;have q2:Own u5 (w.heap.size+1) #[.int .i64 (min uax ubx),.int .i64 (min uay uby),.int .i64 (min uaz ubz)]:=(((p2.set 0 _).set 1 _).set 2 _).below hu5;have q3:Own u5 (w.heap.size+1+1) nv3:=(((p3.far aS _).far aS _).far aS _).below hu5;replace hw:Below w.heap.size w u5:=Below.hop (((hw.setCell aS _).setCell aS _).setCell aS _) hu5;clear hu hu5 p2 p3 p2c p2f o2 o3;have q3c:=q3.cell;have q3f:=q3.thaw;refine late_mem (fun K hK=>?_);go_simp;refine hK _ _ (((hk5.set aS _).set aS _).set aS _) (fun u6 hu6=>?_);clear hK K;replace q2:Own u6 (w.heap.size+1) #[.int .i64 (min uax ubx),.int .i64 (min uay uby),.int .i64 (min uaz ubz)]:=(((q2.far aS _).far aS _).far aS _).below hu6;replace q3:Own u6 (w.heap.size+1+1) #[.int .i64 (max uax ubx),.int .i64 (max uay uby),.int .i64 (max uaz ubz)]:=(((q3.set 0 _).set 1 _).set 2 _).below hu6;replace hw:Below w.heap.size w u6:=Below.hop (((hw.setCell aT _).setCell aT _).setCell aT _) hu6;refine late_nil ?_
  (try simp only [LN])
  have q2c:=q2.cell;have q3d:=q3.cell;clear q3c q3f hk5 na nb;go_wp2;refine bodyPost_ret (v:= .tuple #[_,_]) (by simp [results,Tryz.results31,go_sem,q2c,q3d]) rfl ⟨rfl,hw⟩
theorem ref3_SameR {w:World} {v1 v2:Value} {p q:Int} (h1:RatAt w v1 p q) (h2:RatAt w v2 p q):Calls Tryz.prog 151 #[v1,v2] w fun r w'=>r = .returned (.bool true)/\Below w.heap.size w w':=by
 have x:=ref3_Same h1 h2;simpa using x
theorem law20_ints {w:World} {a0 b0 c0 d0 a1 b1 c1 d1 a2 b2 c2 d2:Value} (x y z:Int) (hx:-9223372036854775808<=x/\x<=9223372036854775807) (hy:-9223372036854775808<=y/\y<=9223372036854775807) (hz:-9223372036854775808<=z/\z<=9223372036854775807)
 (h0:RatAt w (.agg #[a0,b0,c0,d0]) x 1) (h1:RatAt w (.agg #[a1,b1,c1,d1]) y 1) (h2:RatAt w (.agg #[a2,b2,c2,d2]) z 1):Calls Tryz.prog 75 #[.agg #[a0,b0,c0,d0,a1,b1,c1,d1,a2,b2,c2,d2],.int .i64 x,.int .i64 y,.int .i64 z] w fun e w'=>e = .returned (.bool true)/\Below w.heap.size w w':=by
 have Hx:=Zh (Zi hx.1 (Zi hx.2 (show fits x=true from fits_small aO)));have Hy:=Zh (Zi hy.1 (Zi hy.2 (show fits y=true from fits_small aO)));have Hz:=Zh (Zi hz.1 (Zi hz.2 (show fits z=true from fits_small aO)));have hw:Below w.heap.size w (w.alloc (.cells #[a0,b0,c0,d0,a1,b1,c1,d1,a2,b2,c2,d2] 48)):=(Zb _ _).alloc (Zr _) _;have HR0:=Zh (h0.below hw);have HR1:=Zh (h1.below hw);have HR2:=Zh (h2.below hw);have ob:Own (w.alloc (.cells #[a0,b0,c0,d0,a1,b1,c1,d1,a2,b2,c2,d2] 48)) w.heap.size #[a0,b0,c0,d0,a1,b1,c1,d1,a2,b2,c2,d2]:=Own.new rfl;clear hx hy hz h0 h1 h2;go_enter Tryz.func75,Tryz.ntmps75;go_wp2;have hws:=hw.size;generalize (w.alloc (.cells #[a0,b0,c0,d0,a1,b1,c1,d1,a2,b2,c2,d2] 48))=wb at *;obtain ⟨bb,hbb⟩:=Zx (w.heap.size);rw [hbb] at ob ⊢;clear hbb;refine region_gen (T:=[]) [.make 3 [] (ratCV [] wb.heap.size x 1),.need 4 [3],.make 9 [] (ratCV [] wb.heap.size y 1),.need 10 [9],.make 16 [] (ratCV [] wb.heap.size z 1),.need 17 [16]] 19 0 60 (fun _ _=>True) (fun _ _ _ _ _=>trivial) trivial aK aK (by rfl) ?_;have q_f0:=fun v x=>(ob.later (v:=v) (T:=[]) aS x).cell
 unfold genWalk;refine ⟨_,pz1,?_⟩;refine one_of (by rfl) ⟨fun f=>⟨rfl,fun u hu _=>?_⟩,?_⟩
 ·refine make_call (f:=152) (args:=#[.int .i64 x]) (by (try simp only [LN]); (try simp only [VB1,rightB_val,ratCV_val]); go_simp) ?_;refine (ref3_IntC (w:=u) x Hx.out.1 Hx.out.2.1).mono ?_;rintro e wx ⟨⟨b1,C1,b2,C2,rfl,q1,q2,q3,q4,q5,q6⟩,hbx⟩;obtain ⟨D1,k1,k2,k3⟩:=q1.cap;obtain ⟨D2,k4,k5,k6⟩:=q2.cap;obtain ⟨e1,e2,e3⟩:=un_pk (b2:=b2) k1 k4;refine ⟨(b1,pk3 D1 b2 D2),?_,q3,q4,hbx,aS,aS,?_,?_,?_,?_⟩
  ·rw [ratCV_val,ratC,ratC];simp only [e1,e2,e3];rw [k2,k5]
  ·simp only [e1]; exact k3
  ·simp only [e2,e3]; exact k6
  ·simp only [e3]; have:=hu.1; omega
  ·simp only [e3]; exact q6
 unfold genWalk;refine ⟨_,pz14,?_⟩;unfold genWalk;apply Zs;apply Zi
 ·apply Piece.mk
  ·intro f v hv hr hne;simp only [TK,Nat.reduceSub,Nat.reduceAdd]
   (try simp only [LN])
   (try simp only [VB1,rightB_val,ratCV_val])
   have f0:=fun x=>(ob.later (v:=v) (T:=[]) aS x).cell
   have h8:=(hr 3 aS).2.2;have k8:=fun x:Later [] wb v=>ratC_at (NumC.below h8.1 x.g) (NumC.below h8.2.1 x.g) Hx.out.2.2 fits1
   have L1:=fun x:Later [] wb v=>RatAt.keeps HR0.out x.h
   repeat (go_big_quiet_step ((go_at_call 151; with_reducible exact lateB (ref3_SameR (L1 _) (k8 _)))))
   refine wpQuiet_nil ?_;exact rfl
  ·intro f; kernel_rfl
  ·intro f f' hf; first | (simp; done) | (simp [hf 3 aS])
 refine one_of (by rfl) ⟨fun f=>⟨rfl,fun u hu _=>?_⟩,?_⟩
 ·refine make_call (f:=152) (args:=#[.int .i64 y]) (by (try simp only [LN]); (try simp only [VB1,rightB_val,ratCV_val]); go_simp) ?_;refine (ref3_IntC (w:=u) y Hy.out.1 Hy.out.2.1).mono ?_;rintro e wx ⟨⟨b1,C1,b2,C2,rfl,q1,q2,q3,q4,q5,q6⟩,hbx⟩;obtain ⟨D1,k1,k2,k3⟩:=q1.cap;obtain ⟨D2,k4,k5,k6⟩:=q2.cap;obtain ⟨e1,e2,e3⟩:=un_pk (b2:=b2) k1 k4;refine ⟨(b1,pk3 D1 b2 D2),?_,q3,q4,hbx,aS,aS,?_,?_,?_,?_⟩
  ·rw [ratCV_val,ratC,ratC];simp only [e1,e2,e3];rw [k2,k5]
  ·simp only [e1]; exact k3
  ·simp only [e2,e3]; exact k6
  ·simp only [e3]; have:=hu.1; omega
  ·simp only [e3]; exact q6
 unfold genWalk;refine ⟨_,pz14,?_⟩;unfold genWalk;apply Zs;apply Zi
 ·apply Piece.mk
  ·intro f v hv hr hne;simp only [TK,Nat.reduceSub,Nat.reduceAdd]
   (try simp only [LN])
   (try simp only [VB1,rightB_val,ratCV_val])
   have f0:=fun x=>(ob.later (v:=v) (T:=[]) aS x).cell
   have h8:=(hr 9 aS).2.2;have k8:=fun x:Later [] wb v=>ratC_at (NumC.below h8.1 x.g) (NumC.below h8.2.1 x.g) Hy.out.2.2 fits1
   have L1:=fun x:Later [] wb v=>RatAt.keeps HR1.out x.h
   repeat (go_big_quiet_step ((go_at_call 151; with_reducible exact lateB (ref3_SameR (L1 _) (k8 _)))))
   refine wpQuiet_nil ?_;exact rfl
  ·intro f; kernel_rfl
  ·intro f f' hf; first | (simp; done) | (simp [hf 9 aS])
 refine one_of (by rfl) ⟨fun f=>⟨rfl,fun u hu _=>?_⟩,?_⟩
 ·refine make_call (f:=152) (args:=#[.int .i64 z]) (by (try simp only [LN]); (try simp only [VB1,rightB_val,ratCV_val]); go_simp) ?_;refine (ref3_IntC (w:=u) z Hz.out.1 Hz.out.2.1).mono ?_;rintro e wx ⟨⟨b1,C1,b2,C2,rfl,q1,q2,q3,q4,q5,q6⟩,hbx⟩;obtain ⟨D1,k1,k2,k3⟩:=q1.cap;obtain ⟨D2,k4,k5,k6⟩:=q2.cap;obtain ⟨e1,e2,e3⟩:=un_pk (b2:=b2) k1 k4;refine ⟨(b1,pk3 D1 b2 D2),?_,q3,q4,hbx,aS,aS,?_,?_,?_,?_⟩
  ·rw [ratCV_val,ratC,ratC];simp only [e1,e2,e3];rw [k2,k5]
  ·simp only [e1]; exact k3
  ·simp only [e2,e3]; exact k6
  ·simp only [e3]; have:=hu.1; omega
  ·simp only [e3]; exact q6
 unfold genWalk;refine ⟨_,pz14,?_⟩;unfold genWalk;apply Zs;apply Zi
 ·apply Piece.mk
  ·intro f v hv hr hne;simp only [TK,Nat.reduceSub,Nat.reduceAdd]
   (try simp only [LN])
   (try simp only [VB1,rightB_val,ratCV_val])
   have h8:=(hr 16 aS).2.2;have k8:=fun x:Later [] wb v=>ratC_at (NumC.below h8.1 x.g) (NumC.below h8.2.1 x.g) Hz.out.2.2 fits1
   have L1:=fun x:Later [] wb v=>RatAt.keeps HR2.out x.h
   repeat (go_big_quiet_step ((go_at_call 151; with_reducible exact lateB (ref3_SameR (L1 _) (k8 _)))))
   refine wpQuiet_nil ?_;exact rfl
  ·intro f; kernel_rfl
  ·intro f f' hf; first | (simp; done) | (simp [hf 16 aS])
 intro f u' hup hph hmade hdist;have hwn:Below w.heap.size w u':=hw.trans ((Upd.below (Zb _ _) hup aS).mono hws);have hkT:=Upd.keeps (Keeps.refl _ _) hup;clear hmade hdist hph;refine effc_mem (by rfl) (fun K hK=>?_);go_simp;refine hK _ _ hkT (fun u2 hu2=>?_);have hwf:Below w.heap.size w u2:=hwn.trans (hu2.mono hwn.size);clear hK K hkT hup hu2;refine effc_nil ?_
 (try simp only [LN])
 (try simp only [VB1,rightB_val,ratCV_val])
 go_wp2;go_ret;exact ⟨rfl,hwf⟩
theorem law20_first {w:World} {A:Option Addr} {c:Nat} {X:Nat->Prop} (h:NumsX X w A 6 [1,0,0,0,0,0]):Calls Tryz.prog 74 #[.slice A 6 c] w fun e w'=>e = .returned (.bool true)/\Below w.heap.size w w':=by
 have HN:=Zh h;obtain ⟨b,off,rfl,hblt,_,_⟩:=h.row aO;clear h;have hw:=Zb w.heap.size w;go_enter Tryz.func74,Tryz.ntmps74;go_wp2;go_loopw [10] (fun i wr=>∃ k:Nat,k<=6/\i = .int .i64 k/\Below w.heap.size w wr) (fun i _=>6 - (intOf i).toNat)
 case atStart=>exact ⟨0,aO,rfl,hw⟩
 case round =>
  clear hw;obtain ⟨k,hk,rfl,hw⟩:=hrel
  by_cases hlt:k<6
  ·have hki:(k:Int)<6:=aO
   obtain ⟨_,s,B,m,d,a1,a2,hr⟩:=(HN.out.below hw).at_ hlt;have hb:b<wr.heap.size:=aO
   by_cases h0:k=0
   ·subst h0;rw [show zAt [1,0,0,0,0,0] 0=1 from rfl] at hr;have HR:=Zh hr;clear hr;simp only [Nat.zero_mul,Nat.add_zero] at a1 a2;go_wp2;refine region_gen (T:=[]) [.make 5 [] (numCB [] 1),.need 6 [5]] 8 0 40 (fun _ _=>True) (fun _ _ _ _ _=>trivial) trivial aK aK (by rfl) ?_;unfold genWalk;apply Zs;apply Zi
    ·apply Piece.mk
     ·intro f v hv hr hne;simp only [TK,Nat.reduceSub,Nat.reduceAdd];have f1:=fun x:Later [] wr v=>(x.cell b (off) hb aS).trans a1
      have f2:=fun x:Later [] wr v=>(x.cell b (off+1) hb aS).trans a2
      exact qz
     ·intro f; kernel_rfl
     ·intro f f' hf; kernel_rfl
    refine one_of (by rfl) ⟨fun f=>⟨rfl,fun u hu _=>?_⟩,?_⟩
    ·refine make_call (f:=47) (args:=#[.int .i64 1]) (by (try simp only [LN]); (try simp only [VB1,numCB_val]); go_simp) ?_;have q:=ref1_Of (w:=u) 1 aO aO;refine q.mono ?_;rintro e wx ⟨⟨b,C,rfl,q1,q2,q3⟩,hbx⟩;exact ⟨(b,C),rfl,q2,q3,hbx,aS,q1⟩
    unfold genWalk;refine ⟨_,pz8,?_⟩;unfold genWalk;apply Zs;apply Zi
    ·apply Piece.mk
     ·intro f v hv hr hne;simp only [TK,Nat.reduceSub,Nat.reduceAdd]
      (try simp only [LN])
      (try simp only [VB1,numCB_val])
      have h8:NumC v (f 5).1 (f 5).2 1:=(hr 5 aS).2;have k8:=fun x:Later [] wr v=>(h8.below x.g).at_ (show fits 1=true from fits_small aO)
      have L1:=fun x:Later [] wr v=>NumAt.keeps HR.out x.h
      repeat (go_big_quiet_step ((go_at_call 85; with_reducible exact lateB (num_sameR (L1 _) (k8 _)))))
      refine wpQuiet_nil ?_;exact rfl
     ·intro f; kernel_rfl
     ·intro f f' hf; first | (simp; done) | (simp [hf 5 aS])
    intro f u' hup hph hmade hdist;refine effc_nil ?_;simp only [TK,Nat.reduceSub,Nat.reduceAdd]
    (try simp only [LN])
    (try simp only [VB1,numCB_val])
    clear hmade hdist hph;have hw2:Below w.heap.size w u':=Upd.below hw hup aS;generalize numC 1 (f 5).1 (f 5).2=y8 at *;clear f hup a1 a2 hb;go_wp2;go_roundw
    case rel=>exact ⟨1,aO,by go_num,hw2⟩
    case measure=>simp [intOf]
   ·have hki0:¬ (k:Int)=0:=aO
    rw [show zAt [1,0,0,0,0,0] k=0 from by rcases (show k=1\/k=2\/k=3\/k=4\/k=5 by omega) with rfl | rfl | rfl | rfl | rfl <;> rfl] at hr;have HR:=Zh hr;clear hr;go_wp2;refine region_gen (T:=[]) [.make 5 [] (numCB [] 0),.need 6 [5]] 8 0 40 (fun _ _=>True) (fun _ _ _ _ _=>trivial) trivial aK aK (by rfl) ?_;unfold genWalk;apply Zs;apply Zi
    ·apply Piece.mk
     ·intro f v hv hr hne;simp only [TK,Nat.reduceSub,Nat.reduceAdd];have f1:=fun x:Later [] wr v=>(x.cell b (off+k*2) hb aS).trans a1
      have f2:=fun x:Later [] wr v=>(x.cell b (off+k*2+1) hb aS).trans a2
      exact qz
     ·intro f; kernel_rfl
     ·intro f f' hf; kernel_rfl
    refine one_of (by rfl) ⟨fun f=>⟨rfl,fun u hu _=>?_⟩,?_⟩
    ·refine make_call (f:=47) (args:=#[.int .i64 0]) (by (try simp only [LN]); (try simp only [VB1,numCB_val]); go_simp) ?_;have q:=ref1_Of (w:=u) 0 aO aO;refine q.mono ?_;rintro e wx ⟨⟨b,C,rfl,q1,q2,q3⟩,hbx⟩;exact ⟨(b,C),rfl,q2,q3,hbx,aS,q1⟩
    unfold genWalk;refine ⟨_,pz8,?_⟩;unfold genWalk;apply Zs;apply Zi
    ·apply Piece.mk
     ·intro f v hv hr hne;simp only [TK,Nat.reduceSub,Nat.reduceAdd]
      (try simp only [LN])
      (try simp only [VB1,numCB_val])
      have h8:NumC v (f 5).1 (f 5).2 0:=(hr 5 aS).2;have k8:=fun x:Later [] wr v=>(h8.below x.g).at_ (show fits 0=true from fits_small aO)
      have L1:=fun x:Later [] wr v=>NumAt.keeps HR.out x.h
      repeat (go_big_quiet_step ((go_at_call 85; with_reducible exact lateB (num_sameR (L1 _) (k8 _)))))
      refine wpQuiet_nil ?_;exact rfl
     ·intro f; kernel_rfl
     ·intro f f' hf; first | (simp; done) | (simp [hf 5 aS])
    intro f u' hup hph hmade hdist;refine effc_nil ?_;simp only [TK,Nat.reduceSub,Nat.reduceAdd]
    (try simp only [LN])
    (try simp only [VB1,numCB_val])
    clear hmade hdist hph;have hw2:Below w.heap.size w u':=Upd.below hw hup aS;generalize numC 0 (f 5).1 (f 5).2=y8 at *;clear f hup a1 a2 hb;go_wp2;go_roundw
    case rel=>exact ⟨k+1,aO,by go_num,hw2⟩
    case measure=>simp [intOf]; omega
  ·obtain rfl:k=6:=aO
   go_wp2;go_ret;exact ⟨rfl,hw⟩
theorem infoMot:(Tryz.prog.info? 50).map (fun i=>(i.zero,i.size,i.bytes))=some (some (.agg nz12),24,384):=aK
def MotsO (B:Nat) (w:World) (v:Value) (k:Nat) (xs:Nat->Nat->QI):Prop:=∃ cs,w.ownsRow B 50 24 v k cs/\RatC (fun b=>some b≠v.ownBlock) w cs (k*6) (fun i=>xs (i / 6) (i%6))
theorem MotsO.below {B:Nat} {w w':World} {v:Value} {k:Nat} {xs:Nat->Nat->QI} (h:MotsO B w v k xs) (hb:Below w.heap.size w w'):MotsO B w' v k xs:=by
 obtain ⟨cs,h1,h2⟩:=h;exact ⟨cs,ownsRow_stay h1 hb,h2.move hb.size fun b hlt hX=>⟨hb.block b hlt,hX⟩⟩
theorem RatC.six {X:Nat->Prop} {w:World} {cs:List Value} {k:Nat} {xs:Nat->Nat->QI} (h:RatC X w cs (k*6) (fun i=>xs (i / 6) (i%6))) {s0 t0:Bool} {A0 E0:Option Addr} {n0 c0 m0 d0:Nat} {s1 t1:Bool} {A1 E1:Option Addr} {n1 c1 m1 d1:Nat} {s2 t2:Bool} {A2 E2:Option Addr} {n2 c2 m2 d2:Nat} {s3 t3:Bool} {A3 E3:Option Addr} {n3 c3 m3 d3:Nat} {s4 t4:Bool} {A4 E4:Option Addr} {n4 c4 m4 d4:Nat} {s5 t5:Bool} {A5 E5:Option Addr} {n5 c5 m5 d5:Nat}
 (h0:RatX X w s0 A0 n0 c0 t0 E0 m0 d0 (xs k 0).1 (xs k 0).2) (h1:RatX X w s1 A1 n1 c1 t1 E1 m1 d1 (xs k 1).1 (xs k 1).2) (h2:RatX X w s2 A2 n2 c2 t2 E2 m2 d2 (xs k 2).1 (xs k 2).2) (h3:RatX X w s3 A3 n3 c3 t3 E3 m3 d3 (xs k 3).1 (xs k 3).2) (h4:RatX X w s4 A4 n4 c4 t4 E4 m4 d4 (xs k 4).1 (xs k 4).2) (h5:RatX X w s5 A5 n5 c5 t5 E5 m5 d5 (xs k 5).1 (xs k 5).2):RatC X w (cs++[.bool s0,.slice A0 n0 c0,.bool t0,.slice E0 m0 d0,.bool s1,.slice A1 n1 c1,.bool t1,.slice E1 m1 d1,.bool s2,.slice A2 n2 c2,.bool t2,.slice E2 m2 d2,.bool s3,.slice A3 n3 c3,.bool t3,.slice E3 m3 d3,.bool s4,.slice A4 n4 c4,.bool t4,.slice E4 m4 d4,.bool s5,.slice A5 n5 c5,.bool t5,.slice E5 m5 d5]) ((k+1)*6) (fun i=>xs (i / 6) (i%6)):=by
 have q0:=RatC.snoc h (show RatX X w s0 A0 n0 c0 t0 E0 m0 d0 (xs ((k*6) / 6) ((k*6)%6)).1 (xs ((k*6) / 6) ((k*6)%6)).2 from by rw [show (k*6) / 6=k by omega,show (k*6)%6=0 by omega]; exact h0);have q1:=RatC.snoc q0 (show RatX X w s1 A1 n1 c1 t1 E1 m1 d1 (xs ((k*6+1) / 6) ((k*6+1)%6)).1 (xs ((k*6+1) / 6) ((k*6+1)%6)).2 from by rw [show (k*6+1) / 6=k by omega,show (k*6+1)%6=1 by omega]; exact h1);have q2:=RatC.snoc q1 (show RatX X w s2 A2 n2 c2 t2 E2 m2 d2 (xs ((k*6+1+1) / 6) ((k*6+1+1)%6)).1 (xs ((k*6+1+1) / 6) ((k*6+1+1)%6)).2 from by rw [show (k*6+1+1) / 6=k by omega,show (k*6+1+1)%6=2 by omega]; exact h2);have q3:=RatC.snoc q2 (show RatX X w s3 A3 n3 c3 t3 E3 m3 d3 (xs ((k*6+1+1+1) / 6) ((k*6+1+1+1)%6)).1 (xs ((k*6+1+1+1) / 6) ((k*6+1+1+1)%6)).2 from by rw [show (k*6+1+1+1) / 6=k by omega,show (k*6+1+1+1)%6=3 by omega]; exact h3);have q4:=RatC.snoc q3 (show RatX X w s4 A4 n4 c4 t4 E4 m4 d4 (xs ((k*6+1+1+1+1) / 6) ((k*6+1+1+1+1)%6)).1 (xs ((k*6+1+1+1+1) / 6) ((k*6+1+1+1+1)%6)).2 from by rw [show (k*6+1+1+1+1) / 6=k by omega,show (k*6+1+1+1+1)%6=4 by omega]; exact h4);have q5:=RatC.snoc q4 (show RatX X w s5 A5 n5 c5 t5 E5 m5 d5 (xs ((k*6+1+1+1+1+1) / 6) ((k*6+1+1+1+1+1)%6)).1 (xs ((k*6+1+1+1+1+1) / 6) ((k*6+1+1+1+1+1)%6)).2 from by rw [show (k*6+1+1+1+1+1) / 6=k by omega,show (k*6+1+1+1+1+1)%6=5 by omega]; exact h5);rw [show (k+1)*6=k*6+1+1+1+1+1+1 by omega];simpa only [List.append_assoc,List.cons_append,List.nil_append] using q5
theorem unit_cells {W:World} {b k:Nat} (hk:k<6) (h:Own W b ([.int .i64 0,.int .i64 0,.int .i64 0,.int .i64 0,.int .i64 0,.int .i64 0].set k (.int .i64 1)).toArray):IntsAt W (some ⟨b,0,none⟩) 6 (unitB k):=by
 have hI:I64L (unitB k):=fun i hi=>by
  rw [unitB_len] at hi;rw [unitB_at k hi];split <;> omega
 refine ints_of_cells h (unitB_len k) hI (fun i hi=>?_);rw [unitB_at k hi];rcases (show k=0\/k=1\/k=2\/k=3\/k=4\/k=5 by omega) with rfl | rfl | rfl | rfl | rfl | rfl <;> rcases (show i=0\/i=1\/i=2\/i=3\/i=4\/i=5 by omega) with rfl | rfl | rfl | rfl | rfl | rfl <;> rfl
theorem plc_units {w:World} {A:Option Addr} {n:Nat} {L:List Loc} {xs:Nat->Nat->QI} (c:Nat) (h:LocsAt w A n L) (hC:locC L=0) (hf:∀ k,k<6->FineS (locM L) (unitB k) (xs k)) :
 Calls Tryz.prog 99 #[.slice A n c] w fun e w'=>(∃ v,e = .returned v/\MotsO w.heap.size w' v 6 xs)/\Below w.heap.size w w':=by
 obtain ⟨i0,hi0,hy0,hy1,hy2⟩:=info_parts infoMot;obtain rfl:n=6:=by rw [<- h.len]; exact (locC_zero hC).1
 have HL:=Zh h.len;have H:=Zh h;have HC:=Zh hC;have HF:=Zh hf;clear h hC hf;go_enter Tryz.func99,Tryz.ntmps99;go_wp2;go_loopw [3,10] (fun v i wr=>∃ k:Nat,k<=6/\i = .int .i64 k/\Below w.heap.size w wr/\MotsO w.heap.size wr v k xs) (fun _ i _=>6 - (intOf i).toNat)
 case atStart=>exact ⟨0,aO,rfl,Zb _ _,[],⟨rfl,.inl ⟨rfl,rfl⟩⟩,rfl,fun i hi=>aO⟩
 case round =>
  obtain ⟨k,hk,rfl,hW,cs,ho,hrc⟩:=hrel;have HO:=Zh ho;have HRC:=Zh hrc;have hws:=hW.size;clear ho hrc
  by_cases hkn:k<6
  ·have hkni:(k:Int)<6:=aO
   have hmk:∀ w,(Instr.makeSlice 22 (.int .i64 6) (.int .i64 6)).run Tryz.prog w = .ok (.slice (some ⟨w.heap.size,0,none⟩) 6 6) (w.alloc (.cells nv6 3)):=fun w=>aK
   have oz:Own (wr.alloc (.cells nv6 3)) wr.heap.size nv6:=Own.new rfl;have ozc:=oz.cell k;have ozf:=oz.thaw k;go_wp2_with fail;have oU:Own (wr.alloc (.cells ([.int .i64 0,.int .i64 0,.int .i64 0,.int .i64 0,.int .i64 0,.int .i64 0].set k (.int .i64 1)).toArray 3)) wr.heap.size ([.int .i64 0,.int .i64 0,.int .i64 0,.int .i64 0,.int .i64 0,.int .i64 0].set k (.int .i64 1)).toArray:=Own.new rfl;have hU:Below wr.heap.size wr (wr.alloc (.cells ([.int .i64 0,.int .i64 0,.int .i64 0,.int .i64 0,.int .i64 0,.int .i64 0].set k (.int .i64 1)).toArray 3)):=(Zb _ _).alloc (Zr _) _;have iU:=unit_cells hkn oU;have hU1:wr.heap.size+1<=(wr.alloc (.cells ([.int .i64 0,.int .i64 0,.int .i64 0,.int .i64 0,.int .i64 0,.int .i64 0].set k (.int .i64 1)).toArray 3)).heap.size:=aS
   clear oz ozc ozf hmk oU;generalize (wr.alloc (.cells ([.int .i64 0,.int .i64 0,.int .i64 0,.int .i64 0,.int .i64 0,.int .i64 0].set k (.int .i64 1)).toArray 3))=W5 at *;have hwU:=hW.trans (hU.mono hW.size);refine Zd (plc_rows c (H.out.below hwU) aO) ?_;rintro e w2 ⟨⟨v,rfl,hv⟩,hb2⟩;have hw2:=hwU.trans (hb2.mono hwU.size);have hr2:=hU.trans (hb2.mono hU.size);obtain ⟨g,c9,rfl,_,_,hR⟩:=hv.rows (n:=6) (by rw [locM_len]; exact HL.out) aO;have q2:=matrix_Solve c9 6 hR (iU.below hb2) (HF.out k hkn);rw [sol_zero HC.out (unitB_len k) (fun j hj=>by rw [unitB_at k hj]; split <;> omega)] at q2;have Q2:=Zh q2;have hs2:=hb2.size;clear hb2 hwU hU hv hR q2 iU;go_wp2_with fail;refine Zd Q2.out ?_;rintro e w3 ⟨⟨v,rfl,hv⟩,hb3⟩;have hw3:=hw2.trans (hb3.mono hw2.size);have hr3:=hr2.trans (hb3.mono hr2.size);clear hb3 hw2 Q2 hr2;rcases hv with ⟨h1,_⟩ | ⟨_,bk,rfl,hbk,hRO⟩
   ·exact absurd rfl h1
   obtain ⟨s0,t0,A0,E0,n0,c0,m0,d0,s1,t1,A1,E1,n1,c1,m1,d1,s2,t2,A2,E2,n2,c2,m2,d2,s3,t3,A3,E3,n3,c3,m3,d3,s4,t4,A4,E4,n4,c4,m4,d4,s5,t5,A5,E5,n5,c5,m5,d5,oR,r0,r1,r2,r3,r4,r5⟩:=rats_six hRO;have HRR:=Zh (Zi r0 (Zi r1 (Zi r2 (Zi r3 (Zi r4 r5)))));clear hRO r0 r1 r2 r3 r4 r5;have hov:∀ b,u3.ownBlock=some b->w.heap.size<=b/\b<wr.heap.size:=fun b hb=>⟨ownBlock_ge HO.out hb,ownBlock_lt HO.out hb⟩
   have hbkT:bk∉ownL u3:=by rw [mem_ownL]; intro h; have:=(hov bk h).2; omega
   have hat1:∀ w,(Instr.arrayAt 48 (.slice (some ⟨bk,0,none⟩) 3 6)).run Tryz.prog w = .ok (.pointer (some ⟨bk,0,none⟩)) w:=fun w=>run_arrayAt w 48 _ 3 _ 3 6 Tryz.underlying48 aO
   have hat2:∀ w,(Instr.arrayAt 48 (.slice (some ⟨bk,12,none⟩) 3 3)).run Tryz.prog w = .ok (.pointer (some ⟨bk,12,none⟩)) w:=fun w=>run_arrayAt w 48 _ 3 _ 3 3 Tryz.underlying48 aO
   have HOV:=Zh hov;clear hov;go_upto_region 8 with fail
   refine region_late 10 (ownL u3) aK aK (by rfl) ?_;apply Zs;refine ⟨fun v hv hne=>?_,fun u hu=>?_⟩
   ·simp only [TK];have dR:=fun y=>(oR.later (v:=v) (T:=ownL u3) hbkT y).cell
    exact qz
   simp only [TK]
   (try simp only [LN])
   refine late_mem (fun K hK=>?_);go_simp;refine hK _ _ ((Keeps.of_below hu).alloc _) (fun u2 hu2=>?_);clear hK K hat1 hat2;have hb32:Below w3.heap.size w3 u2:=(hu.alloc hu.size _).trans (hu2.mono (by have:=hu.size; simp; omega));have hk2:Keeps (ownL u3) w3 u2:=((Keeps.of_below (T:=ownL u3) hu).alloc _).later hu2;have hnew:=(hu2.block u.heap.size aS).trans (heap_alloc_new u _);have hr2:=hr3.trans (hb32.mono hr3.size);have hw2:=hw3.trans (hb32.mono hw3.size);have hO2:=ownsRow_stay HO.out hr2;have hs32:=hb32.size;have hs3:=hr3.size;refine late_mem (fun K hK=>?_);refine late_append _ _ 54 rfl w.heap.size 50 i0 (.agg nz12) 24 384 Tryz.underlying54 hi0 hy0 hy1 hy2 rfl aO _ k cs (by rfl) hO2 ⟨u.heap.size,0,none⟩ 1 1 [.bool s0,.slice A0 n0 c0,.bool t0,.slice E0 m0 d0,.bool s1,.slice A1 n1 c1,.bool t1,.slice E1 m1 d1,.bool s2,.slice A2 n2 c2,.bool t2,.slice E2 m2 d2,.bool s3,.slice A3 n3 c3,.bool t3,.slice E3 m3 d3,.bool s4,.slice A4 n4 c4,.bool t4,.slice E4 m4 d4,.bool s5,.slice A5 n5 c5,.bool t5,.slice E5 m5 d5] (by rfl) rfl (World.news_of_block hnew) ?_ aO (by unfold maxLen; omega) aO aO u2.heap.size rfl ?_
   ·intro y hy;simp only [List.mem_cons,List.not_mem_nil,or_false] at hy;rcases hy with rfl | rfl | rfl | rfl | rfl | rfl | rfl | rfl | rfl | rfl | rfl | rfl | rfl | rfl | rfl | rfl | rfl | rfl | rfl | rfl | rfl | rfl | rfl | rfl <;> rfl
   intro g2 c2' ua hoa hga hata hlta;have hka:=keeps_grown hk2 hga (fun r e=>.inl (by rw [mem_ownL]; exact e));have hsa:=hga.size;have hwa:=Below.grown hw2 hga aO (fun b hb=>(HOV.out b hb).1);have hq:RatC (fun b=>some b≠u3.ownBlock/\b<u2.heap.size) u2 (cs++[.bool s0,.slice A0 n0 c0,.bool t0,.slice E0 m0 d0,.bool s1,.slice A1 n1 c1,.bool t1,.slice E1 m1 d1,.bool s2,.slice A2 n2 c2,.bool t2,.slice E2 m2 d2,.bool s3,.slice A3 n3 c3,.bool t3,.slice E3 m3 d3,.bool s4,.slice A4 n4 c4,.bool t4,.slice E4 m4 d4,.bool s5,.slice A5 n5 c5,.bool t5,.slice E5 m5 d5]) ((k+1)*6) (fun i=>xs (i / 6) (i%6)):=by
    have mv:∀ {s1 A1 n1 c1 s2 A2 n2 c2 p q},RatX (fun y=>bk<y) w3 s1 A1 n1 c1 s2 A2 n2 c2 p q->RatX (fun b=>some b≠u3.ownBlock/\b<u2.heap.size) u2 s1 A1 n1 c1 s2 A2 n2 c2 p q:=fun h=>h.move hb32.size fun b hlt hX=>⟨hb32.block b hlt,fun e=>by have:=(HOV.out b e.symm).2; omega,aO⟩
    exact RatC.six (HRC.out.move hr2.size fun b hlt hX=>⟨hr2.block b hlt,hX,Zl hlt hr2.size⟩) (mv HRR.out.1) (mv HRR.out.2.1) (mv HRR.out.2.2.1) (mv HRR.out.2.2.2.1) (mv HRR.out.2.2.2.2.1) (mv HRR.out.2.2.2.2.2)
   have hM:MotsO w.heap.size ua (.slice (some ⟨g2,0,none⟩) (k+1) c2') (k+1) xs:=⟨_,hoa,hq.move hsa fun b hlt hX=>⟨hga.block b hlt (fun e=>hX.1 e),fun e=>by
    have e2:b=g2:=Option.some.inj e;rcases hata with h | h
    ·exact hX.1 (by rw [h,e2])
    ·have:=hX.2; omega⟩⟩
   have HM:=Zh hM;clear hM hq hoa hga hata hlta hnew hO2 hr2 hw2 hk2 hb32 hu2 HRR oR;refine hK _ _ hka (fun ub hub=>?_);clear hK K;refine late_mem (fun K hK=>?_);go_simp;refine hK _ _ (hka.later hub) (fun uc huc=>?_);clear hK K;have hwb:=hwa.trans (hub.mono hwa.size);have hwc:=hwb.trans (huc.mono hwb.size);have HMc:=Zh ((HM.out.below hub).below huc);clear hka hwa hwb hub huc HM HO HRC HOV hu hw3 hr3;refine late_nil ?_
   (try simp only [LN])
   go_wp2;go_roundw
   case rel=>exact ⟨k+1,aO,by go_num,hwc,HMc.out⟩
   case measure=>simp [intOf]; omega
  ·obtain rfl:k=6:=aO
   have HR:=Zh (show MotsO w.heap.size wr _ 6 xs from ⟨cs,HO.out,HRC.out⟩);clear HO HRC;go_wp2;go_ret;exact ⟨⟨_,rfl,HR.out⟩,hW⟩
end Go.Proofs.YtflolbnnkbdmfaaGreat
